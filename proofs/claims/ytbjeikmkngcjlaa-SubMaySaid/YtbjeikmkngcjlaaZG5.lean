/- Contracts, laid by program. -/
import Derived.Test.YtbjeikmkngcjlaaZG4
import Derived.Test.YtbjeikmkngcjlaaZN3
set_option linter.unusedVariables false
set_option linter.unusedSimpArgs false
namespace Go.Eng
noncomputable section
open Go Go.Eng Go.Proofs Go.Eng.Tab
abbrev cx_run_taken : Cx := mkCx2 tyTab [(95, g_run_fate), (130, g_told)] [] [] []
theorem rdy_run_taken : Ready Try.prog tyTab [(95, g_run_fate), (130, g_told)] [] [] := ⟨consG2 run_fate_ok (consG2 told_ok (noneG2)), noneI2, noneF2⟩
structure S.run_taken_T where
  x0 : Int
  x1 : Int
  x2 : Int
  x3 : Int
  x4 : Int
  x5 : Int
  x6 : Bool
  x7 : Int
  deriving Inhabited
def S.run_taken_R (a0_0 : List (Ty .step)) (a0_2 : Int) (a0_3 : Int) (a0_4 : Int) (a1_0 : Int) (a1_1 : Int) (a1_2 : Int) (a1_3 : Int) (a1_4 : Int) (a1_5 : Int) (a1_6 : Bool) (a2_2 : List (Ty .val)) : DT S.run_taken_T :=
let y0 : Run := S.told_o a0_2 a0_3 a0_4 a1_0 a1_1 a1_2 a1_3 a1_4 a1_5 a1_6 a2_2
let y1 : Int := y0.step
let y2 : Int := y0.n
(.br (S.told_is a0_2 a0_3 a0_4 a1_0 a1_1 a1_2 a1_3 a1_4 a1_5 a1_6 a2_2)
(.br (S.run_fate_is a0_0 y1 y2)
(.leaf ⟨y0.first, y0.at_, y1, y2, y0.many, y0.agg, y0.bad, (S.run_fate_o a0_0 y1 y2).x0⟩)
.fail)
.fail)
def S.run_taken (a0_0 : List (Ty .step)) (a0_2 : Int) (a0_3 : Int) (a0_4 : Int) (a1_0 : Int) (a1_1 : Int) (a1_2 : Int) (a1_3 : Int) (a1_4 : Int) (a1_5 : Int) (a1_6 : Bool) (a2_2 : List (Ty .val)) : Option S.run_taken_T := (S.run_taken_R a0_0 a0_2 a0_3 a0_4 a1_0 a1_1 a1_2 a1_3 a1_4 a1_5 a1_6 a2_2).run
def S.run_taken_is (a0_0 : List (Ty .step)) (a0_2 : Int) (a0_3 : Int) (a0_4 : Int) (a1_0 : Int) (a1_1 : Int) (a1_2 : Int) (a1_3 : Int) (a1_4 : Int) (a1_5 : Int) (a1_6 : Bool) (a2_2 : List (Ty .val)) : Bool := (S.run_taken a0_0 a0_2 a0_3 a0_4 a1_0 a1_1 a1_2 a1_3 a1_4 a1_5 a1_6 a2_2).isSome
def S.run_taken_o (a0_0 : List (Ty .step)) (a0_2 : Int) (a0_3 : Int) (a0_4 : Int) (a1_0 : Int) (a1_1 : Int) (a1_2 : Int) (a1_3 : Int) (a1_4 : Int) (a1_5 : Int) (a1_6 : Bool) (a2_2 : List (Ty .val)) : S.run_taken_T := (S.run_taken a0_0 a0_2 a0_3 a0_4 a1_0 a1_1 a1_2 a1_3 a1_4 a1_5 a1_6 a2_2).getD default
def ret_run_taken (b : Bool) (r : S.run_taken_T) : Ret := ⟨b, none, [(true,
    [C.d (.sc (.int .i64 r.x0)), C.d (.sc (.int .i64 r.x1)), C.d (.sc (.int .i64 r.x2)), C.d (.sc (.int .i64 r.x3)),
      C.d (.sc (.int .i64 r.x4)), C.d (.sc (.int .i64 r.x5)), C.d (.sc (.bool r.x6))]),
  (false, [C.d (.sc (.int .i64 r.x7))])]⟩
def g_run_taken : Con
  | [(true, [.sl a0_0n a0_0f .step a0_0, .sc (.int .i64 a0_1), .sc (.int .i64 a0_2), .sc (.int .i64 a0_3), .sc (.int .i64 a0_4)]), (true, [.sc (.int .i64 a1_0), .sc (.int .i64 a1_1), .sc (.int .i64 a1_2), .sc (.int .i64 a1_3), .sc (.int .i64 a1_4), .sc (.int .i64 a1_5), .sc (.bool a1_6)]), (true, [.sc (.str a2_0), .sc (.int .i64 a2_1), .sl a2_2n a2_2f .val a2_2])] => some (ret_run_taken (S.run_taken_is a0_0 a0_2 a0_3 a0_4 a1_0 a1_1 a1_2 a1_3 a1_4 a1_5 a1_6 a2_2) (S.run_taken_o a0_0 a0_2 a0_3 a0_4 a1_0 a1_1 a1_2 a1_3 a1_4 a1_5 a1_6 a2_2))
  | _ => none
theorem raw_run_taken (a0_0n : Option Bool) (a0_0f : Bool) (a0_0 : List (Ty .step)) (a0_1 : Int) (a0_2 : Int) (a0_3 : Int) (a0_4 : Int) (a1_0 : Int) (a1_1 : Int) (a1_2 : Int) (a1_3 : Int) (a1_4 : Int) (a1_5 : Int) (a1_6 : Bool) (a2_0 : ByteArray) (a2_1 : Int) (a2_2n : Option Bool) (a2_2f : Bool) (a2_2 : List (Ty .val)) : evR2 cx_run_taken (hdI cx_run_taken (find []) [] none 0) none Try.f94 94 none [(true, [.sl a0_0n a0_0f .step a0_0, .sc (.int .i64 a0_1), .sc (.int .i64 a0_2), .sc (.int .i64 a0_3), .sc (.int .i64 a0_4)]), (true, [.sc (.int .i64 a1_0), .sc (.int .i64 a1_1), .sc (.int .i64 a1_2), .sc (.int .i64 a1_3), .sc (.int .i64 a1_4), .sc (.int .i64 a1_5), .sc (.bool a1_6)]), (true, [.sc (.str a2_0), .sc (.int .i64 a2_1), .sl a2_2n a2_2f .val a2_2])] some = (S.run_taken_R a0_0 a0_2 a0_3 a0_4 a1_0 a1_1 a1_2 a1_3 a1_4 a1_5 a1_6 a2_2).go (ret_run_taken true) := by kernel_rfl
theorem bs_run_taken : loopsIn Try.f94 [] = [] := by kernel_rfl
theorem run_taken_ok : Stands Try.prog tyTab 94 g_run_taken := by
  refine stands3 (L := find []) (n := 0) (hints := []) (cx_ok rfl) rdy_run_taken ⟨by kernel_rfl, by kernel_rfl, by kernel_rfl⟩ bs_run_taken nilB (fun das r hG hr => ?_)
  unfold g_run_taken at hG
  split at hG
  · rename_i a0_0n a0_0f a0_0 a0_1 a0_2 a0_3 a0_4 a1_0 a1_1 a1_2 a1_3 a1_4 a1_5 a1_6 a2_0 a2_1 a2_2n a2_2f a2_2
    injection hG with hG; subst hG
    exact ⟨none, true, win default ((raw_run_taken a0_0n a0_0f a0_0 a0_1 a0_2 a0_3 a0_4 a1_0 a1_1 a1_2 a1_3 a1_4 a1_5 a1_6 a2_0 a2_1 a2_2n a2_2f a2_2).trans (DT.go_run _ _)) hr⟩
  · cases hG
abbrev cx_run_Begin : Cx := mkCx2 tyTab [(93, g_run_takes), (94, g_run_taken)] [] [] []
theorem rdy_run_Begin : Ready Try.prog tyTab [(93, g_run_takes), (94, g_run_taken)] [] [] := ⟨consG2 run_takes_ok (consG2 run_taken_ok (noneG2)), noneI2, noneF2⟩
structure S.run_Begin_T where
  x0 : Int
  x1 : Int
  x2 : Int
  x3 : Int
  x4 : Int
  x5 : Int
  x6 : Bool
  x7 : Int
  deriving Inhabited
def S.run_Begin_R (a0_0 : List (Ty .step)) (a0_2 : Int) (a0_3 : Int) (a0_4 : Int) (a1_0 : ByteArray) (a1_1 : Int) (a1_2 : List (Ty .val)) (a2 : Int) : DT S.run_Begin_T :=
let y0 : Int := (↑a0_0.length : Int)
let y1 : Ty ET.step := a0_0.getD (Int.toNat 0) (dflt ET.step)
let y2 : ByteArray := y1.name
let y3 : List Opn := y1.ifs
let y4 : S.run_taken_T := S.run_taken_o a0_0 a0_2 a0_3 a0_4 a2 a1_1 0 1 0 0 false a1_2
(.br (xeqI y0 0)
(.leaf ⟨0, 0, 0, 0, 0, 0, false, 1⟩)
(.br (xdec (0 ≤ 0) && xdec (0 < y0))
(.br (S.run_takes_is y2 y3 a1_0 a1_1 a1_2)
(.br (xnot (S.run_takes_o y2 y3 a1_0 a1_1 a1_2).x0)
(.leaf ⟨0, 0, 0, 0, 0, 0, false, 1⟩)
(.br (S.run_taken_is a0_0 a0_2 a0_3 a0_4 a2 a1_1 0 1 0 0 false a1_2)
(.leaf ⟨y4.x0, y4.x1, y4.x2, y4.x3, y4.x4, y4.x5, y4.x6, y4.x7⟩)
.fail))
.fail)
.fail))
def S.run_Begin (a0_0 : List (Ty .step)) (a0_2 : Int) (a0_3 : Int) (a0_4 : Int) (a1_0 : ByteArray) (a1_1 : Int) (a1_2 : List (Ty .val)) (a2 : Int) : Option S.run_Begin_T := (S.run_Begin_R a0_0 a0_2 a0_3 a0_4 a1_0 a1_1 a1_2 a2).run
def S.run_Begin_is (a0_0 : List (Ty .step)) (a0_2 : Int) (a0_3 : Int) (a0_4 : Int) (a1_0 : ByteArray) (a1_1 : Int) (a1_2 : List (Ty .val)) (a2 : Int) : Bool := (S.run_Begin a0_0 a0_2 a0_3 a0_4 a1_0 a1_1 a1_2 a2).isSome
def S.run_Begin_o (a0_0 : List (Ty .step)) (a0_2 : Int) (a0_3 : Int) (a0_4 : Int) (a1_0 : ByteArray) (a1_1 : Int) (a1_2 : List (Ty .val)) (a2 : Int) : S.run_Begin_T := (S.run_Begin a0_0 a0_2 a0_3 a0_4 a1_0 a1_1 a1_2 a2).getD default
def ret_run_Begin (b : Bool) (r : S.run_Begin_T) : Ret := ⟨b, none, [(true,
    [C.d (.sc (.int .i64 r.x0)), C.d (.sc (.int .i64 r.x1)), C.d (.sc (.int .i64 r.x2)), C.d (.sc (.int .i64 r.x3)),
      C.d (.sc (.int .i64 r.x4)), C.d (.sc (.int .i64 r.x5)), C.d (.sc (.bool r.x6))]),
  (false, [C.d (.sc (.int .i64 r.x7))])]⟩
def g_run_Begin : Con
  | [(true, [.sl a0_0n a0_0f .step a0_0, .sc (.int .i64 a0_1), .sc (.int .i64 a0_2), .sc (.int .i64 a0_3), .sc (.int .i64 a0_4)]), (true, [.sc (.str a1_0), .sc (.int .i64 a1_1), .sl a1_2n a1_2f .val a1_2]), (false, [.sc (.int .i64 a2)])] => some (ret_run_Begin (S.run_Begin_is a0_0 a0_2 a0_3 a0_4 a1_0 a1_1 a1_2 a2) (S.run_Begin_o a0_0 a0_2 a0_3 a0_4 a1_0 a1_1 a1_2 a2))
  | _ => none
theorem raw_run_Begin (a0_0n : Option Bool) (a0_0f : Bool) (a0_0 : List (Ty .step)) (a0_1 : Int) (a0_2 : Int) (a0_3 : Int) (a0_4 : Int) (a1_0 : ByteArray) (a1_1 : Int) (a1_2n : Option Bool) (a1_2f : Bool) (a1_2 : List (Ty .val)) (a2 : Int) : evR2 cx_run_Begin (hdI cx_run_Begin (find []) [] none 0) none Try.f52 52 none [(true, [.sl a0_0n a0_0f .step a0_0, .sc (.int .i64 a0_1), .sc (.int .i64 a0_2), .sc (.int .i64 a0_3), .sc (.int .i64 a0_4)]), (true, [.sc (.str a1_0), .sc (.int .i64 a1_1), .sl a1_2n a1_2f .val a1_2]), (false, [.sc (.int .i64 a2)])] some = (S.run_Begin_R a0_0 a0_2 a0_3 a0_4 a1_0 a1_1 a1_2 a2).go (ret_run_Begin true) := by kernel_rfl
theorem bs_run_Begin : loopsIn Try.f52 [] = [] := by kernel_rfl
theorem run_Begin_ok : Stands Try.prog tyTab 52 g_run_Begin := by
  refine stands3 (L := find []) (n := 0) (hints := []) (cx_ok rfl) rdy_run_Begin ⟨by kernel_rfl, by kernel_rfl, by kernel_rfl⟩ bs_run_Begin nilB (fun das r hG hr => ?_)
  unfold g_run_Begin at hG
  split at hG
  · rename_i a0_0n a0_0f a0_0 a0_1 a0_2 a0_3 a0_4 a1_0 a1_1 a1_2n a1_2f a1_2 a2
    injection hG with hG; subst hG
    exact ⟨none, true, win default ((raw_run_Begin a0_0n a0_0f a0_0 a0_1 a0_2 a0_3 a0_4 a1_0 a1_1 a1_2n a1_2f a1_2 a2).trans (DT.go_run _ _)) hr⟩
  · cases hG
abbrev cx_run_Next : Cx := mkCx2 tyTab [(93, g_run_takes), (94, g_run_taken), (96, g_run_late), (97, g_run_forbids)] [] [] []
theorem rdy_run_Next : Ready Try.prog tyTab [(93, g_run_takes), (94, g_run_taken), (96, g_run_late), (97, g_run_forbids)] [] [] := ⟨consG2 run_takes_ok (consG2 run_taken_ok (consG2 run_late_ok (consG2 run_forbids_ok (noneG2)))), noneI2, noneF2⟩
structure S.run_Next_T where
  x0 : Int
  x1 : Int
  x2 : Int
  x3 : Int
  x4 : Int
  x5 : Int
  x6 : Bool
  x7 : Int
  deriving Inhabited
def S.run_Next_R (a0_0 : List (Ty .step)) (a0_1 : Int) (a0_2 : Int) (a0_3 : Int) (a0_4 : Int) (a1_0 : Int) (a1_1 : Int) (a1_2 : Int) (a1_3 : Int) (a1_4 : Int) (a1_5 : Int) (a1_6 : Bool) (a2_0 : ByteArray) (a2_1 : Int) (a2_2 : List (Ty .val)) : DT S.run_Next_T :=
let y0 : Nat := a0_0.length
let y1 : Int := (↑y0 : Int)
let y2 : Int := xwrap IntKind.i64 (a1_2 + 1)
let y3 : List (Ty .step) := sub a0_0 y2.toNat y0
let y4 : Int := (↑y3.length : Int)
let y5 : Ty ET.step := a0_0.getD a1_2.toNat (dflt ET.step)
let y6 : Bool := xdec (0 ≤ 0) && xdec (0 < y4)
let y7 : Ty ET.step := y3.getD (Int.toNat 0) (dflt ET.step)
let y8 : Bool := y7.guard
let y9 : ByteArray := y7.notName
let y10 : List Opn := y7.notIf
let y11 : ByteArray := y7.name
let y12 : List Opn := y7.ifs
let y13 : S.run_taken_T := S.run_taken_o a0_0 a0_2 a0_3 a0_4 a1_0 a1_1 y2 1 a1_4 a1_5 a1_6 a2_2
let y14 : Bool := xdec (a1_3 < y5.max)
let y15 : ByteArray := y5.name
let y16 : List Opn := y5.ifs
let y17 : Bool := S.run_takes_is y15 y16 a2_0 a2_1 a2_2
let y18 : Bool := (S.run_takes_o y15 y16 a2_0 a2_1 a2_2).x0
let y19 : Int := xwrap IntKind.i64 (a1_3 + 1)
let y20 : Bool := S.run_taken_is a0_0 a0_2 a0_3 a0_4 a1_0 a1_1 a1_2 y19 a1_4 a1_5 a1_6 a2_2
let y21 : S.run_taken_T := S.run_taken_o a0_0 a0_2 a0_3 a0_4 a1_0 a1_1 a1_2 y19 a1_4 a1_5 a1_6 a2_2
let y22 : Int := y21.x0
let y23 : Int := y21.x1
let y24 : Int := y21.x2
let y25 : Int := y21.x3
let y26 : Int := y21.x4
let y27 : Int := y21.x5
let y28 : Bool := y21.x6
let y29 : Int := y21.x7
(.br (xdec (a1_2 < 0))
(.leaf ⟨a1_0, a1_1, a1_2, a1_3, a1_4, a1_5, a1_6, 1⟩)
(.br (xdec (a1_2 ≥ y1))
(.leaf ⟨a1_0, a1_1, a1_2, a1_3, a1_4, a1_5, a1_6, 1⟩)
(.br (xdec (a2_1 < a1_1))
(.leaf ⟨a1_0, a1_1, a1_2, a1_3, a1_4, a1_5, a1_6, 0⟩)
(.br (S.run_late_is a0_1 a1_1 a2_1)
(.br ((S.run_late_o a0_1 a1_1 a2_1).x0)
(.leaf ⟨a1_0, a1_1, a1_2, a1_3, a1_4, a1_5, a1_6, 1⟩)
(.br (xdec (0 ≤ a1_2) && xdec (a1_2 < y1))
(.br (xdec (0 ≤ y2) && xdec (y2 ≤ Int.ofNat y0) && true && true)
(.br (xdec (y4 > 0))
(.br (xdec (a1_3 ≥ y5.min))
(.br (y6)
(.br (S.run_forbids_is y8 y9 y10 a2_0 a2_1 a2_2)
(.br ((S.run_forbids_o y8 y9 y10 a2_0 a2_1 a2_2).x0)
(.leaf ⟨a1_0, a1_1, a1_2, a1_3, a1_4, a1_5, a1_6, 1⟩)
(.br (y6)
(.br (S.run_takes_is y11 y12 a2_0 a2_1 a2_2)
(.br ((S.run_takes_o y11 y12 a2_0 a2_1 a2_2).x0)
(.br (S.run_taken_is a0_0 a0_2 a0_3 a0_4 a1_0 a1_1 y2 1 a1_4 a1_5 a1_6 a2_2)
(.leaf ⟨y13.x0, y13.x1, y13.x2, y13.x3, y13.x4, y13.x5, y13.x6, y13.x7⟩)
.fail)
(.br (y14)
(.br (y17)
(.br (y18)
(.br (y20)
(.leaf ⟨y22, y23, y24, y25, y26, y27, y28, y29⟩)
.fail)
(.leaf ⟨a1_0, a1_1, a1_2, a1_3, a1_4, a1_5, a1_6, 0⟩))
.fail)
(.leaf ⟨a1_0, a1_1, a1_2, a1_3, a1_4, a1_5, a1_6, 0⟩)))
.fail)
.fail))
.fail)
.fail)
(.br (y14)
(.br (y17)
(.br (y18)
(.br (y20)
(.leaf ⟨y22, y23, y24, y25, y26, y27, y28, y29⟩)
.fail)
(.leaf ⟨a1_0, a1_1, a1_2, a1_3, a1_4, a1_5, a1_6, 0⟩))
.fail)
(.leaf ⟨a1_0, a1_1, a1_2, a1_3, a1_4, a1_5, a1_6, 0⟩)))
(.br (y14)
(.br (y17)
(.br (y18)
(.br (y20)
(.leaf ⟨y22, y23, y24, y25, y26, y27, y28, y29⟩)
.fail)
(.leaf ⟨a1_0, a1_1, a1_2, a1_3, a1_4, a1_5, a1_6, 0⟩))
.fail)
(.leaf ⟨a1_0, a1_1, a1_2, a1_3, a1_4, a1_5, a1_6, 0⟩)))
.fail)
.fail))
.fail))))
def S.run_Next (a0_0 : List (Ty .step)) (a0_1 : Int) (a0_2 : Int) (a0_3 : Int) (a0_4 : Int) (a1_0 : Int) (a1_1 : Int) (a1_2 : Int) (a1_3 : Int) (a1_4 : Int) (a1_5 : Int) (a1_6 : Bool) (a2_0 : ByteArray) (a2_1 : Int) (a2_2 : List (Ty .val)) : Option S.run_Next_T := (S.run_Next_R a0_0 a0_1 a0_2 a0_3 a0_4 a1_0 a1_1 a1_2 a1_3 a1_4 a1_5 a1_6 a2_0 a2_1 a2_2).run
def S.run_Next_is (a0_0 : List (Ty .step)) (a0_1 : Int) (a0_2 : Int) (a0_3 : Int) (a0_4 : Int) (a1_0 : Int) (a1_1 : Int) (a1_2 : Int) (a1_3 : Int) (a1_4 : Int) (a1_5 : Int) (a1_6 : Bool) (a2_0 : ByteArray) (a2_1 : Int) (a2_2 : List (Ty .val)) : Bool := (S.run_Next a0_0 a0_1 a0_2 a0_3 a0_4 a1_0 a1_1 a1_2 a1_3 a1_4 a1_5 a1_6 a2_0 a2_1 a2_2).isSome
def S.run_Next_o (a0_0 : List (Ty .step)) (a0_1 : Int) (a0_2 : Int) (a0_3 : Int) (a0_4 : Int) (a1_0 : Int) (a1_1 : Int) (a1_2 : Int) (a1_3 : Int) (a1_4 : Int) (a1_5 : Int) (a1_6 : Bool) (a2_0 : ByteArray) (a2_1 : Int) (a2_2 : List (Ty .val)) : S.run_Next_T := (S.run_Next a0_0 a0_1 a0_2 a0_3 a0_4 a1_0 a1_1 a1_2 a1_3 a1_4 a1_5 a1_6 a2_0 a2_1 a2_2).getD default
def ret_run_Next (b : Bool) (r : S.run_Next_T) : Ret := ⟨b, none, [(true,
    [C.d (.sc (.int .i64 r.x0)), C.d (.sc (.int .i64 r.x1)), C.d (.sc (.int .i64 r.x2)), C.d (.sc (.int .i64 r.x3)),
      C.d (.sc (.int .i64 r.x4)), C.d (.sc (.int .i64 r.x5)), C.d (.sc (.bool r.x6))]),
  (false, [C.d (.sc (.int .i64 r.x7))])]⟩
def g_run_Next : Con
  | [(true, [.sl a0_0n a0_0f .step a0_0, .sc (.int .i64 a0_1), .sc (.int .i64 a0_2), .sc (.int .i64 a0_3), .sc (.int .i64 a0_4)]), (true, [.sc (.int .i64 a1_0), .sc (.int .i64 a1_1), .sc (.int .i64 a1_2), .sc (.int .i64 a1_3), .sc (.int .i64 a1_4), .sc (.int .i64 a1_5), .sc (.bool a1_6)]), (true, [.sc (.str a2_0), .sc (.int .i64 a2_1), .sl a2_2n a2_2f .val a2_2])] => some (ret_run_Next (S.run_Next_is a0_0 a0_1 a0_2 a0_3 a0_4 a1_0 a1_1 a1_2 a1_3 a1_4 a1_5 a1_6 a2_0 a2_1 a2_2) (S.run_Next_o a0_0 a0_1 a0_2 a0_3 a0_4 a1_0 a1_1 a1_2 a1_3 a1_4 a1_5 a1_6 a2_0 a2_1 a2_2))
  | _ => none
theorem raw_run_Next (a0_0n : Option Bool) (a0_0f : Bool) (a0_0 : List (Ty .step)) (a0_1 : Int) (a0_2 : Int) (a0_3 : Int) (a0_4 : Int) (a1_0 : Int) (a1_1 : Int) (a1_2 : Int) (a1_3 : Int) (a1_4 : Int) (a1_5 : Int) (a1_6 : Bool) (a2_0 : ByteArray) (a2_1 : Int) (a2_2n : Option Bool) (a2_2f : Bool) (a2_2 : List (Ty .val)) : evR2 cx_run_Next (hdI cx_run_Next (find []) [] none 0) none Try.f54 54 none [(true, [.sl a0_0n a0_0f .step a0_0, .sc (.int .i64 a0_1), .sc (.int .i64 a0_2), .sc (.int .i64 a0_3), .sc (.int .i64 a0_4)]), (true, [.sc (.int .i64 a1_0), .sc (.int .i64 a1_1), .sc (.int .i64 a1_2), .sc (.int .i64 a1_3), .sc (.int .i64 a1_4), .sc (.int .i64 a1_5), .sc (.bool a1_6)]), (true, [.sc (.str a2_0), .sc (.int .i64 a2_1), .sl a2_2n a2_2f .val a2_2])] some = (S.run_Next_R a0_0 a0_1 a0_2 a0_3 a0_4 a1_0 a1_1 a1_2 a1_3 a1_4 a1_5 a1_6 a2_0 a2_1 a2_2).go (ret_run_Next true) := by kernel_rfl
theorem bs_run_Next : loopsIn Try.f54 [] = [] := by kernel_rfl
theorem run_Next_ok : Stands Try.prog tyTab 54 g_run_Next := by
  refine stands3 (L := find []) (n := 0) (hints := []) (cx_ok rfl) rdy_run_Next ⟨by kernel_rfl, by kernel_rfl, by kernel_rfl⟩ bs_run_Next nilB (fun das r hG hr => ?_)
  unfold g_run_Next at hG
  split at hG
  · rename_i a0_0n a0_0f a0_0 a0_1 a0_2 a0_3 a0_4 a1_0 a1_1 a1_2 a1_3 a1_4 a1_5 a1_6 a2_0 a2_1 a2_2n a2_2f a2_2
    injection hG with hG; subst hG
    exact ⟨none, true, win default ((raw_run_Next a0_0n a0_0f a0_0 a0_1 a0_2 a0_3 a0_4 a1_0 a1_1 a1_2 a1_3 a1_4 a1_5 a1_6 a2_0 a2_1 a2_2n a2_2f a2_2).trans (DT.go_run _ _)) hr⟩
  · cases hG
abbrev cx_run_May : Cx := mkCx2 tyTab [(95, g_run_fate)] [] [] []
theorem rdy_run_May : Ready Try.prog tyTab [(95, g_run_fate)] [] [] := ⟨consG2 run_fate_ok (noneG2), noneI2, noneF2⟩
structure S.run_May_T where
  x0 : Bool
  deriving Inhabited
def S.run_May_R (a0_0 : List (Ty .step)) (a1_2 : Int) (a1_3 : Int) (a1_4 : Int) : DT S.run_May_T :=
let y0 : Int := (↑a0_0.length : Int)
(.br (xdec (a1_2 < 0))
(.leaf ⟨false⟩)
(.br (xdec (a1_2 ≥ y0))
(.leaf ⟨false⟩)
(.br (xdec (a1_4 < 0))
(.leaf ⟨false⟩)
(.br (xdec (a1_3 > 0))
(.br (xdec (0 ≤ a1_2) && xdec (a1_2 < y0))
(.br (xdec (a1_3 ≤ (a0_0.getD a1_2.toNat (dflt ET.step)).max))
(.br (S.run_fate_is a0_0 a1_2 a1_3)
(.leaf ⟨xeqI (S.run_fate_o a0_0 a1_2 a1_3).x0 0⟩)
.fail)
(.leaf ⟨false⟩))
.fail)
(.leaf ⟨false⟩)))))
def S.run_May (a0_0 : List (Ty .step)) (a1_2 : Int) (a1_3 : Int) (a1_4 : Int) : Option S.run_May_T := (S.run_May_R a0_0 a1_2 a1_3 a1_4).run
def S.run_May_is (a0_0 : List (Ty .step)) (a1_2 : Int) (a1_3 : Int) (a1_4 : Int) : Bool := (S.run_May a0_0 a1_2 a1_3 a1_4).isSome
def S.run_May_o (a0_0 : List (Ty .step)) (a1_2 : Int) (a1_3 : Int) (a1_4 : Int) : S.run_May_T := (S.run_May a0_0 a1_2 a1_3 a1_4).getD default
def ret_run_May (b : Bool) (r : S.run_May_T) : Ret := ⟨b, none, [(false, [C.d (.sc (.bool r.x0))])]⟩
def g_run_May : Con
  | [(true, [.sl a0_0n a0_0f .step a0_0, .sc (.int .i64 a0_1), .sc (.int .i64 a0_2), .sc (.int .i64 a0_3), .sc (.int .i64 a0_4)]), (true, [.sc (.int .i64 a1_0), .sc (.int .i64 a1_1), .sc (.int .i64 a1_2), .sc (.int .i64 a1_3), .sc (.int .i64 a1_4), .sc (.int .i64 a1_5), .sc (.bool a1_6)])] => some (ret_run_May (S.run_May_is a0_0 a1_2 a1_3 a1_4) (S.run_May_o a0_0 a1_2 a1_3 a1_4))
  | _ => none
theorem raw_run_May (a0_0n : Option Bool) (a0_0f : Bool) (a0_0 : List (Ty .step)) (a0_1 : Int) (a0_2 : Int) (a0_3 : Int) (a0_4 : Int) (a1_0 : Int) (a1_1 : Int) (a1_2 : Int) (a1_3 : Int) (a1_4 : Int) (a1_5 : Int) (a1_6 : Bool) : evR2 cx_run_May (hdI cx_run_May (find []) [] none 0) none Try.f53 53 none [(true, [.sl a0_0n a0_0f .step a0_0, .sc (.int .i64 a0_1), .sc (.int .i64 a0_2), .sc (.int .i64 a0_3), .sc (.int .i64 a0_4)]), (true, [.sc (.int .i64 a1_0), .sc (.int .i64 a1_1), .sc (.int .i64 a1_2), .sc (.int .i64 a1_3), .sc (.int .i64 a1_4), .sc (.int .i64 a1_5), .sc (.bool a1_6)])] some = (S.run_May_R a0_0 a1_2 a1_3 a1_4).go (ret_run_May true) := by kernel_rfl
theorem bs_run_May : loopsIn Try.f53 [] = [] := by kernel_rfl
theorem run_May_ok : Stands Try.prog tyTab 53 g_run_May := by
  refine stands3 (L := find []) (n := 0) (hints := []) (cx_ok rfl) rdy_run_May ⟨by kernel_rfl, by kernel_rfl, by kernel_rfl⟩ bs_run_May nilB (fun das r hG hr => ?_)
  unfold g_run_May at hG
  split at hG
  · rename_i a0_0n a0_0f a0_0 a0_1 a0_2 a0_3 a0_4 a1_0 a1_1 a1_2 a1_3 a1_4 a1_5 a1_6
    injection hG with hG; subst hG
    exact ⟨none, true, win default ((raw_run_May a0_0n a0_0f a0_0 a0_1 a0_2 a0_3 a0_4 a1_0 a1_1 a1_2 a1_3 a1_4 a1_5 a1_6).trans (DT.go_run _ _)) hr⟩
  · cases hG
abbrev cx_law11_awake : Cx := mkCx2 tyTab [(52, g_run_Begin), (53, g_run_May), (54, g_run_Next), (91, g_law11_Two)] [] [] []
theorem rdy_law11_awake : Ready Try.prog tyTab [(52, g_run_Begin), (53, g_run_May), (54, g_run_Next), (91, g_law11_Two)] [] [] := ⟨consG2 run_Begin_ok (consG2 run_May_ok (consG2 run_Next_ok (consG2 law11_Two_ok (noneG2)))), noneI2, noneF2⟩
structure S.law11_awake_T where
  x0 : Bool
  deriving Inhabited
def S.law11_awake_R  : DT S.law11_awake_T :=
let y0 : Bool := S.law11_Two_is 5
let y1 : S.law11_Two_T := S.law11_Two_o 5
let y2 : List (Ty .step) := y1.x0
let y3 : Int := y1.x2
let y4 : Int := y1.x3
let y5 : Int := y1.x4
let y6 : ByteArray := { data := { toList := [97] : Array UInt8 } : ByteArray }
let y7 : Int := y1.x1
let y8 : S.run_Begin_T := S.run_Begin_o y2 y3 y4 y5 y6 3 [] 7
let y9 : Int := y8.x0
let y10 : Int := y8.x1
let y11 : Int := y8.x2
let y12 : Int := y8.x3
let y13 : Int := y8.x4
let y14 : Int := y8.x5
let y15 : Bool := y8.x6
let y16 : ByteArray := { data := { toList := [98] : Array UInt8 } : ByteArray }
(.br (y0)
(.br (S.run_Begin_is y2 y3 y4 y5 y6 3 [] 7)
(.br (y0)
(.br (S.run_Next_is y2 y7 y3 y4 y5 y9 y10 y11 y12 y13 y14 y15 y16 8 [])
(.br (y0)
(.br (S.run_Next_is y2 y7 y3 y4 y5 y9 y10 y11 y12 y13 y14 y15 y16 9 [])
(.br (y0)
(.br (S.run_Next_is y2 y7 y3 y4 y5 y9 y10 y11 y12 y13 y14 y15 y6 8 [])
(.br (xeqI y8.x7 0)
(.br (xeqI (S.run_Next_o y2 y7 y3 y4 y5 y9 y10 y11 y12 y13 y14 y15 y16 8 []).x7 2)
(.br (xeqI (S.run_Next_o y2 y7 y3 y4 y5 y9 y10 y11 y12 y13 y14 y15 y16 9 []).x7 1)
(.br (xeqI (S.run_Next_o y2 y7 y3 y4 y5 y9 y10 y11 y12 y13 y14 y15 y6 8 []).x7 0)
(.br (xeqI y9 7)
(.br (y0)
(.br (S.run_May_is y2 y11 y12 y13)
(.leaf ⟨(S.run_May_o y2 y11 y12 y13).x0⟩)
.fail)
.fail)
(.leaf ⟨false⟩))
(.leaf ⟨false⟩))
(.leaf ⟨false⟩))
(.leaf ⟨false⟩))
(.leaf ⟨false⟩))
.fail)
.fail)
.fail)
.fail)
.fail)
.fail)
.fail)
.fail)
def S.law11_awake  : Option S.law11_awake_T := (S.law11_awake_R ).run
def S.law11_awake_is  : Bool := (S.law11_awake ).isSome
def S.law11_awake_o  : S.law11_awake_T := (S.law11_awake ).getD default
def ret_law11_awake (b : Bool) (r : S.law11_awake_T) : Ret := ⟨b, none, [(false, [C.d (.sc (.bool r.x0))])]⟩
def g_law11_awake : Con
  | [] => some (ret_law11_awake (S.law11_awake_is ) (S.law11_awake_o ))
  | _ => none
theorem raw_law11_awake  : evR2 cx_law11_awake (hdI cx_law11_awake (find []) [] none 0) none Try.f49 49 none [] some = (S.law11_awake_R ).go (ret_law11_awake true) := by kernel_rfl
theorem bs_law11_awake : loopsIn Try.f49 [] = [] := by kernel_rfl
theorem law11_awake_ok : Stands Try.prog tyTab 49 g_law11_awake := by
  refine stands3 (L := find []) (n := 0) (hints := []) (cx_ok rfl) rdy_law11_awake ⟨by kernel_rfl, by kernel_rfl, by kernel_rfl⟩ bs_law11_awake nilB (fun das r hG hr => ?_)
  unfold g_law11_awake at hG
  split at hG
  · injection hG with hG; subst hG
    exact ⟨none, true, win default ((raw_law11_awake ).trans (DT.go_run _ _)) hr⟩
  · cases hG
abbrev cx_ref05_Name : Cx := mkCx2 tyTab [] [] [(128, 2, { keep := [0, 3], acc := [] })] []
theorem rdy_ref05_Name : Ready Try.prog tyTab [] [] [] := ⟨noneG2, noneI2, noneF2⟩
structure S.ref05_Name_2_V where
  t_3_0 : Int
def S.ref05_Name_2_R (qA : ByteArray) (v : S.ref05_Name_2_V) : DT (Option Nat × S.ref05_Name_2_V) :=
let y0 : Bool := xdec (v.t_3_0 < (↑qA.size : Int))
let y1 : Int := (↑(byteAt qA v.t_3_0.toNat) : Int)
let y2 : Bool := xeqI v.t_3_0 0
let y3 : Bool := xneI y1 95
let y4 : Bool := xdec (y1 < 48)
let y5 : Bool := xdec (y1 > 57)
let y6 : Int := xwrap IntKind.i64 (v.t_3_0 + 1)
(.br (y0)
(.br (xdec (0 ≤ v.t_3_0) && y0)
(.br (xdec (y1 ≥ 97))
(.br (xnot (xdec (y1 ≤ 122)))
(.br (y2)
(.leaf (some 0, v))
(.br (y3)
(.br (y4)
(.leaf (some 0, v))
(.br (y5)
(.leaf (some 0, v))
(.leaf (none, ⟨y6⟩))))
(.leaf (none, ⟨y6⟩))))
(.leaf (none, ⟨y6⟩)))
(.br (xnot false)
(.br (y2)
(.leaf (some 0, v))
(.br (y3)
(.br (y4)
(.leaf (some 0, v))
(.br (y5)
(.leaf (some 0, v))
(.leaf (none, ⟨y6⟩))))
(.leaf (none, ⟨y6⟩))))
(.leaf (none, ⟨y6⟩))))
.fail)
(.leaf (some 1, v)))
def S.ref05_Name_2_r (qA : ByteArray) (v : S.ref05_Name_2_V) : Option (Option Nat × S.ref05_Name_2_V) := (S.ref05_Name_2_R qA v).run
def S.ref05_Name_2_j (qA : ByteArray) (v : S.ref05_Name_2_V) (j : Nat) : Bool := Lp_j (S.ref05_Name_2_r qA) v j
def S.ref05_Name_2_v (qA : ByteArray) (v : S.ref05_Name_2_V) : S.ref05_Name_2_V := Lp_v (S.ref05_Name_2_r qA) v
def mk_ref05_Name_2 (qA : ByteArray) (v : S.ref05_Name_2_V) : St := ⟨[V.v false [C.d (.sc (.str qA))], V.any, V.any, V.v false [C.d (.sc (.int .i64 v.t_3_0))], V.any, V.any, V.any, V.any, V.any, V.any, V.any, V.any, V.any, V.any,
  V.any, V.any, V.any, V.any, V.any, V.any, V.any, V.any, V.any, V.any, V.any, V.any, V.any, V.any, V.any, V.any, V.any, V.any, V.any, V.any, V.any, V.any, V.any, V.any, V.any,
  V.any, V.any, V.any, V.any, V.any, V.any, V.any, V.any], [none, none], 0⟩
def ex_ref05_Name_2 (qA : ByteArray) (j : Nat) (v : S.ref05_Name_2_V) : Ex × St := match j with
  | 0 => (Ex.ret, ⟨[V.v false [C.d (.sc (.str qA))], V.any, V.v false [C.d (.sc (.bool false))], V.any, V.any, V.any, V.any, V.any, V.any, V.any, V.any, V.any, V.any, V.any, V.any, V.any,
  V.any, V.any, V.any, V.any, V.any, V.any, V.any, V.any, V.any, V.any, V.any, V.any, V.any, V.any, V.any, V.any, V.any, V.any, V.any, V.any, V.any, V.any, V.any, V.any, V.any,
  V.any, V.any, V.any, V.any, V.any, V.any], [none, none, none, none, none, none, none, none, none, none, none, none, none, none, none, none, none, none, none, none, none, none, none, none, none, none, none, none, none, none,
  none, none, none, none, none, none], 0⟩)
  | 1 => (Ex.exit 0, ⟨[V.v false [C.d (.sc (.str qA))], V.any, V.any, V.any, V.any, V.any, V.any, V.any, V.any, V.any, V.any, V.any, V.any, V.any, V.any, V.any, V.any, V.any, V.any, V.any, V.any,
  V.any, V.any, V.any, V.any, V.any, V.any, V.any, V.any, V.any, V.any, V.any, V.any, V.any, V.any, V.any, V.any, V.any, V.any, V.any, V.any, V.any, V.any, V.any, V.any, V.any,
  V.any], [none, none, none, none, none, none], 0⟩)
  | _ => (.ret, ⟨[], [], 0⟩)
def T1_ref05_Name_2 : V → V → Tree
  | V.v false [C.d (.sc (.str qA))], V.v false [C.d (.sc (.int .i64 t_3_0))] => exT (fun j => ex_ref05_Name_2 qA j (S.ref05_Name_2_v qA ⟨t_3_0⟩)) (S.ref05_Name_2_j qA ⟨t_3_0⟩) [0, 1]
  | _, _ => .bad
def T_ref05_Name_2 (st : St) : Tree := bif okSt 47 2 0 [] st then T1_ref05_Name_2 (st.env.getD 0 .any) (st.env.getD 3 .any) else .bad
def b_ref05_Name_2 : Code := loopBy Try.f128 2
theorem rnd_ref05_Name_2 (qA : ByteArray) (v : S.ref05_Name_2_V) : round2 cx_ref05_Name (hdI cx_ref05_Name (find []) [] none 0) 128 b_ref05_Name_2 [] 2 [0, 2] (mk_ref05_Name_2 qA v) = (S.ref05_Name_2_R qA v).go (roundOut (mk_ref05_Name_2 qA) (ex_ref05_Name_2 qA)) := by kernel_rfl
theorem bs_ref05_Name_2 : loopsOf b_ref05_Name_2 ++ loopsInl [] = [] := by kernel_rfl
theorem ci_ref05_Name_2 (qA : ByteArray) : ∀ v j v2, Lp (S.ref05_Name_2_r qA) v = some (j, v2) → Circles Try.prog cx_ref05_Name b_ref05_Name_2 (mk_ref05_Name_2 qA v) (ex_ref05_Name_2 qA j v2).1 (ex_ref05_Name_2 qA j v2).2 :=
  loop_ok2 (L := find []) (n := 0) (hints := [(128, 2, { keep := [0, 3], acc := [] })]) (cx_ok rfl) rdy_ref05_Name bs_ref05_Name_2 nilB (fun v => (rnd_ref05_Name_2 qA v).trans (DT.go_run _ _)) (by intro j v; unfold ex_ref05_Name_2; split <;> rfl)
theorem mke_ref05_Name_2 (qA : ByteArray) (v : S.ref05_Name_2_V) : mk_ref05_Name_2 qA v = ⟨envOf 47 [(0, V.v false [C.d (.sc (.str qA))]), (3, V.v false [C.d (.sc (.int .i64 v.t_3_0))])], heapOf 2 [], 0⟩ := by kernel_rfl
theorem lo1_ref05_Name_2 (e0 : V) (e3 : V)  e st2 (h : (T1_ref05_Name_2 e0 e3).eval = some (e, st2)) : Circles Try.prog cx_ref05_Name b_ref05_Name_2 ⟨envOf 47 [(0, e0), (3, e3)], heapOf 2 [], 0⟩ e st2 := by
  unfold T1_ref05_Name_2 at h
  split at h
  · have := loop_tree (mk := mk_ref05_Name_2 _) (ci_ref05_Name_2 _) _ _ e st2 h
    rw [mke_ref05_Name_2] at this
    exact this
  · cases h
theorem lok_ref05_Name_2 : LoopOk Try.prog cx_ref05_Name b_ref05_Name_2 T_ref05_Name_2 := by
  intro st e st2 h
  unfold T_ref05_Name_2 at h
  cases hk : okSt 47 2 0 [] st with
  | false => rw [hk] at h; cases h
  | true =>
    rw [hk] at h
    exact circles_keep (ks := [0, 3]) hk (lo1_ref05_Name_2 _ _ e st2 h)
structure S.ref05_Name_T where
  x0 : Bool
  deriving Inhabited
def S.ref05_Name_R (a0 : ByteArray) : DT S.ref05_Name_T :=
let y0 : S.ref05_Name_2_V := { t_3_0 := 0 : S.ref05_Name_2_V }
let y1 : Int := (↑a0.size : Int)
(.br (S.ref05_Name_2_j a0 y0 0)
(.leaf ⟨false⟩)
(.br (S.ref05_Name_2_j a0 y0 1)
(.br (xdec (y1 ≥ 1))
(.leaf ⟨xdec (y1 ≤ 12)⟩)
(.leaf ⟨false⟩))
.fail))
def S.ref05_Name (a0 : ByteArray) : Option S.ref05_Name_T := (S.ref05_Name_R a0).run
def S.ref05_Name_is (a0 : ByteArray) : Bool := (S.ref05_Name a0).isSome
def S.ref05_Name_o (a0 : ByteArray) : S.ref05_Name_T := (S.ref05_Name a0).getD default
def ret_ref05_Name (b : Bool) (r : S.ref05_Name_T) : Ret := ⟨b, none, [(false, [C.d (.sc (.bool r.x0))])]⟩
def g_ref05_Name : Con
  | [(false, [.sc (.str a0)])] => some (ret_ref05_Name (S.ref05_Name_is a0) (S.ref05_Name_o a0))
  | _ => none
theorem raw_ref05_Name (a0 : ByteArray) : evR2 cx_ref05_Name (hdI cx_ref05_Name (find [(2, T_ref05_Name_2)]) [] none 0) none Try.f128 128 none [(false, [.sc (.str a0)])] some = (S.ref05_Name_R a0).go (ret_ref05_Name true) := by kernel_rfl
theorem bs_ref05_Name : loopsIn Try.f128 [] = [b_ref05_Name_2] := by kernel_rfl
theorem ref05_Name_ok : Stands Try.prog tyTab 128 g_ref05_Name := by
  refine stands3 (L := find [(2, T_ref05_Name_2)]) (n := 0) (hints := [(128, 2, { keep := [0, 3], acc := [] })]) (cx_ok rfl) rdy_ref05_Name ⟨by kernel_rfl, by kernel_rfl, by kernel_rfl⟩ bs_ref05_Name (consB (fun T h => by have e : T_ref05_Name_2 = T := Option.some.inj (show some T_ref05_Name_2 = some T from h); exact e ▸ lok_ref05_Name_2) nilB) (fun das r hG hr => ?_)
  unfold g_ref05_Name at hG
  split at hG
  · rename_i a0
    injection hG with hG; subst hG
    exact ⟨none, true, win default ((raw_ref05_Name a0).trans (DT.go_run _ _)) hr⟩
  · cases hG
abbrev cx_ref04_May : Cx := mkCx2 tyTab [] [] [] []
theorem rdy_ref04_May : Ready Try.prog tyTab [] [] [] := ⟨noneG2, noneI2, noneF2⟩
structure S.ref04_May_T where
  x0 : Bool
  deriving Inhabited
def S.ref04_May_R (a0_0 : Int) (a0_1 : Int) (a0_2 : ByteArray) : DT S.ref04_May_T :=
let y0 : Bool := xeqI a0_0 0
let y1 : Bool := xeqI a0_0 1
let y2 : Bool := xeqI a0_1 0
let y3 : Bool := xeqI a0_1 1
let y4 : Bool := xeqI a0_0 2
let y5 : Bool := xdec ((↑a0_2.size : Int) ≤ 40)
let y6 : Bool := xeqI a0_0 3
let y7 : Bool := xdec (a0_1 ≥ 0)
let y8 : Bool := xdec (a0_1 ≤ 1125899906842624)
(.br (xneI a0_0 2)
(.br (xnot (xdec (a0_2 = { data := { toList := [] : Array UInt8 } : ByteArray })))
(.leaf ⟨false⟩)
(.br (y0)
(.leaf ⟨true⟩)
(.br (y1)
(.br (y2)
(.leaf ⟨true⟩)
(.leaf ⟨y3⟩))
(.br (y4)
(.br (y2)
(.leaf ⟨y5⟩)
(.leaf ⟨false⟩))
(.br (y6)
(.br (y7)
(.leaf ⟨y8⟩)
(.leaf ⟨false⟩))
(.leaf ⟨false⟩))))))
(.br (y0)
(.leaf ⟨true⟩)
(.br (y1)
(.br (y2)
(.leaf ⟨true⟩)
(.leaf ⟨y3⟩))
(.br (y4)
(.br (y2)
(.leaf ⟨y5⟩)
(.leaf ⟨false⟩))
(.br (y6)
(.br (y7)
(.leaf ⟨y8⟩)
(.leaf ⟨false⟩))
(.leaf ⟨false⟩))))))
def S.ref04_May (a0_0 : Int) (a0_1 : Int) (a0_2 : ByteArray) : Option S.ref04_May_T := (S.ref04_May_R a0_0 a0_1 a0_2).run
def S.ref04_May_is (a0_0 : Int) (a0_1 : Int) (a0_2 : ByteArray) : Bool := (S.ref04_May a0_0 a0_1 a0_2).isSome
def S.ref04_May_o (a0_0 : Int) (a0_1 : Int) (a0_2 : ByteArray) : S.ref04_May_T := (S.ref04_May a0_0 a0_1 a0_2).getD default
def ret_ref04_May (b : Bool) (r : S.ref04_May_T) : Ret := ⟨b, none, [(false, [C.d (.sc (.bool r.x0))])]⟩
def g_ref04_May : Con
  | [(true, [.sc (.int .i64 a0_0), .sc (.int .i64 a0_1), .sc (.str a0_2)])] => some (ret_ref04_May (S.ref04_May_is a0_0 a0_1 a0_2) (S.ref04_May_o a0_0 a0_1 a0_2))
  | _ => none
theorem raw_ref04_May (a0_0 : Int) (a0_1 : Int) (a0_2 : ByteArray) : evR2 cx_ref04_May (hdI cx_ref04_May (find []) [] none 0) none Try.f153 153 none [(true, [.sc (.int .i64 a0_0), .sc (.int .i64 a0_1), .sc (.str a0_2)])] some = (S.ref04_May_R a0_0 a0_1 a0_2).go (ret_ref04_May true) := by kernel_rfl
theorem bs_ref04_May : loopsIn Try.f153 [] = [] := by kernel_rfl
theorem ref04_May_ok : Stands Try.prog tyTab 153 g_ref04_May := by
  refine stands3 (L := find []) (n := 0) (hints := []) (cx_ok rfl) rdy_ref04_May ⟨by kernel_rfl, by kernel_rfl, by kernel_rfl⟩ bs_ref04_May nilB (fun das r hG hr => ?_)
  unfold g_ref04_May at hG
  split at hG
  · rename_i a0_0 a0_1 a0_2
    injection hG with hG; subst hG
    exact ⟨none, true, win default ((raw_ref04_May a0_0 a0_1 a0_2).trans (DT.go_run _ _)) hr⟩
  · cases hG
abbrev cx_ref08_May : Cx := mkCx2 tyTab [(153, g_ref04_May)] [] [(129, 2, { keep := [0, 3], acc := [] })] []
theorem rdy_ref08_May : Ready Try.prog tyTab [(153, g_ref04_May)] [] [] := ⟨consG2 ref04_May_ok (noneG2), noneI2, noneF2⟩
structure S.ref08_May_2_V where
  t_3_0 : Int
def S.ref08_May_2_R (qA : List (Ty .op)) (v : S.ref08_May_2_V) : DT (Option Nat × S.ref08_May_2_V) :=
let y0 : Bool := xdec (v.t_3_0 < (↑qA.length : Int))
let y1 : Ty ET.op := qA.getD v.t_3_0.toNat (dflt ET.op)
let y2 : Val := y1.v
let y3 : Int := y2.kind
let y4 : Int := y2.n
let y5 : ByteArray := y2.s
let y6 : Int := y1.code
let y7 : Int := y1.arg
let y8 : Bool := xnot (S.ref04_May_o y3 y4 y5).x0
let y9 : Bool := xneI y6 0
let y10 : Bool := bif xeqI y3 0 && (xeqI y4 0 && xdec (y5 = ByteArray.empty)) then false else true
let y11 : Int := xwrap IntKind.i64 (v.t_3_0 + 1)
(.br (y0)
(.br (xdec (0 ≤ v.t_3_0) && y0)
(.br (S.ref04_May_is y3 y4 y5)
(.br (xdec (y6 < 0))
(.leaf (some 0, v))
(.br (xdec (y6 ≥ 10))
(.leaf (some 0, v))
(.br (xdec (y7 < 0))
(.leaf (some 0, v))
(.br (xdec (y7 ≥ 6))
(.leaf (some 0, v))
(.br (xneI y6 1)
(.br (xneI y7 0)
(.leaf (some 0, v))
(.br (y8)
(.leaf (some 0, v))
(.br (y9)
(.br (y10)
(.leaf (some 0, v))
(.leaf (none, ⟨y11⟩)))
(.leaf (none, ⟨y11⟩)))))
(.br (y8)
(.leaf (some 0, v))
(.br (y9)
(.br (y10)
(.leaf (some 0, v))
(.leaf (none, ⟨y11⟩)))
(.leaf (none, ⟨y11⟩)))))))))
.fail)
.fail)
(.leaf (some 1, v)))
def S.ref08_May_2_r (qA : List (Ty .op)) (v : S.ref08_May_2_V) : Option (Option Nat × S.ref08_May_2_V) := (S.ref08_May_2_R qA v).run
def S.ref08_May_2_j (qA : List (Ty .op)) (v : S.ref08_May_2_V) (j : Nat) : Bool := Lp_j (S.ref08_May_2_r qA) v j
def S.ref08_May_2_v (qA : List (Ty .op)) (v : S.ref08_May_2_V) : S.ref08_May_2_V := Lp_v (S.ref08_May_2_r qA) v
def mk_ref08_May_2 (qB : Option Bool) (qC : Bool) (qA : List (Ty .op)) (v : S.ref08_May_2_V) : St := ⟨[V.v false [C.d (.sl qB qC ET.op qA)], V.any, V.any, V.v false [C.d (.sc (.int .i64 v.t_3_0))], V.any, V.any, V.any, V.any, V.any, V.any, V.any, V.any, V.any,
  V.any, V.any, V.any, V.any, V.any, V.any, V.any, V.any, V.any, V.any, V.any, V.any, V.any, V.any, V.any, V.any, V.any, V.any, V.any, V.any, V.any, V.any, V.any, V.any, V.any,
  V.any, V.any, V.any, V.any, V.any, V.any, V.any, V.any, V.any, V.any, V.any, V.any, V.any, V.any, V.any, V.any, V.any, V.any, V.any, V.any, V.any, V.any, V.any, V.any, V.any,
  V.any, V.any], [none, none], 0⟩
def ex_ref08_May_2 (qB : Option Bool) (qC : Bool) (qA : List (Ty .op)) (j : Nat) (v : S.ref08_May_2_V) : Ex × St := match j with
  | 0 => (Ex.ret, ⟨[V.v false [C.d (.sl qB qC ET.op qA)], V.any, V.v false [C.d (.sc (.bool false))], V.any, V.any, V.any, V.any, V.any, V.any, V.any, V.any, V.any, V.any, V.any,
  V.any, V.any, V.any, V.any, V.any, V.any, V.any, V.any, V.any, V.any, V.any, V.any, V.any, V.any, V.any, V.any, V.any, V.any, V.any, V.any, V.any, V.any, V.any, V.any, V.any,
  V.any, V.any, V.any, V.any, V.any, V.any, V.any, V.any, V.any, V.any, V.any, V.any, V.any, V.any, V.any, V.any, V.any, V.any, V.any, V.any, V.any, V.any, V.any, V.any, V.any,
  V.any], [none, none, none, none, none, none, none, none, none, none,
  some
    (Blk.box 115
      [C.d (.sc (.int .i64 (qA.getD v.t_3_0.toNat (dflt ET.op)).code)), C.d (.sc (.int .i64 (qA.getD v.t_3_0.toNat (dflt ET.op)).arg)),
        C.d (.sc (.int .i64 (qA.getD v.t_3_0.toNat (dflt ET.op)).v.kind)), C.d (.sc (.int .i64 (qA.getD v.t_3_0.toNat (dflt ET.op)).v.n)),
        C.d (.sc (.str (qA.getD v.t_3_0.toNat (dflt ET.op)).v.s))]),
  none, none, none, none, none, none, none, none, none, none, none, none, none, none, none, none, none, none, none, none, none, none, none, none, none, none, none, none, none,
  none, none, none, none, none, none, none, none, none, none, none, none, none, none, none, none, none, none, none, none], 0⟩)
  | 1 => (Ex.exit 0, ⟨[V.v false [C.d (.sl qB qC ET.op qA)], V.any, V.any, V.any, V.any, V.any, V.any, V.any, V.any, V.any, V.any, V.any, V.any, V.any, V.any, V.any, V.any, V.any, V.any,
  V.any, V.any, V.any, V.any, V.any, V.any, V.any, V.any, V.any, V.any, V.any, V.any, V.any, V.any, V.any, V.any, V.any, V.any, V.any, V.any, V.any, V.any, V.any, V.any, V.any,
  V.any, V.any, V.any, V.any, V.any, V.any, V.any, V.any, V.any, V.any, V.any, V.any, V.any, V.any, V.any, V.any, V.any, V.any, V.any, V.any, V.any], [none, none, none, none, none, none], 0⟩)
  | _ => (.ret, ⟨[], [], 0⟩)
def T1_ref08_May_2 : V → V → Tree
  | V.v false [C.d (.sl qB qC ET.op qA)], V.v false [C.d (.sc (.int .i64 t_3_0))] => exT (fun j => ex_ref08_May_2 qB qC qA j (S.ref08_May_2_v qA ⟨t_3_0⟩)) (S.ref08_May_2_j qA ⟨t_3_0⟩) [0, 1]
  | _, _ => .bad
def T_ref08_May_2 (st : St) : Tree := bif okSt 65 2 0 [] st then T1_ref08_May_2 (st.env.getD 0 .any) (st.env.getD 3 .any) else .bad
def b_ref08_May_2 : Code := loopBy Try.f129 2
theorem rnd_ref08_May_2 (qB : Option Bool) (qC : Bool) (qA : List (Ty .op)) (v : S.ref08_May_2_V) : round2 cx_ref08_May (hdI cx_ref08_May (find []) [] none 0) 129 b_ref08_May_2 [] 2 [0, 2] (mk_ref08_May_2 qB qC qA v) = (S.ref08_May_2_R qA v).go (roundOut (mk_ref08_May_2 qB qC qA) (ex_ref08_May_2 qB qC qA)) := by kernel_rfl
theorem bs_ref08_May_2 : loopsOf b_ref08_May_2 ++ loopsInl [] = [] := by kernel_rfl
theorem ci_ref08_May_2 (qB : Option Bool) (qC : Bool) (qA : List (Ty .op)) : ∀ v j v2, Lp (S.ref08_May_2_r qA) v = some (j, v2) → Circles Try.prog cx_ref08_May b_ref08_May_2 (mk_ref08_May_2 qB qC qA v) (ex_ref08_May_2 qB qC qA j v2).1 (ex_ref08_May_2 qB qC qA j v2).2 :=
  loop_ok2 (L := find []) (n := 0) (hints := [(129, 2, { keep := [0, 3], acc := [] })]) (cx_ok rfl) rdy_ref08_May bs_ref08_May_2 nilB (fun v => (rnd_ref08_May_2 qB qC qA v).trans (DT.go_run _ _)) (by intro j v; unfold ex_ref08_May_2; split <;> rfl)
theorem mke_ref08_May_2 (qB : Option Bool) (qC : Bool) (qA : List (Ty .op)) (v : S.ref08_May_2_V) : mk_ref08_May_2 qB qC qA v = ⟨envOf 65 [(0, V.v false [C.d (.sl qB qC ET.op qA)]), (3, V.v false [C.d (.sc (.int .i64 v.t_3_0))])], heapOf 2 [], 0⟩ := by kernel_rfl
theorem lo1_ref08_May_2 (e0 : V) (e3 : V)  e st2 (h : (T1_ref08_May_2 e0 e3).eval = some (e, st2)) : Circles Try.prog cx_ref08_May b_ref08_May_2 ⟨envOf 65 [(0, e0), (3, e3)], heapOf 2 [], 0⟩ e st2 := by
  unfold T1_ref08_May_2 at h
  split at h
  · have := loop_tree (mk := mk_ref08_May_2 _ _ _) (ci_ref08_May_2 _ _ _) _ _ e st2 h
    rw [mke_ref08_May_2] at this
    exact this
  · cases h
theorem lok_ref08_May_2 : LoopOk Try.prog cx_ref08_May b_ref08_May_2 T_ref08_May_2 := by
  intro st e st2 h
  unfold T_ref08_May_2 at h
  cases hk : okSt 65 2 0 [] st with
  | false => rw [hk] at h; cases h
  | true =>
    rw [hk] at h
    exact circles_keep (ks := [0, 3]) hk (lo1_ref08_May_2 _ _ e st2 h)
structure S.ref08_May_T where
  x0 : Bool
  deriving Inhabited
def S.ref08_May_R (a0 : List (Ty .op)) : DT S.ref08_May_T :=
let y0 : S.ref08_May_2_V := { t_3_0 := 0 : S.ref08_May_2_V }
(.br (S.ref08_May_2_j a0 y0 0)
(.leaf ⟨false⟩)
(.br (S.ref08_May_2_j a0 y0 1)
(.leaf ⟨xdec ((↑a0.length : Int) ≤ 12)⟩)
.fail))
def S.ref08_May (a0 : List (Ty .op)) : Option S.ref08_May_T := (S.ref08_May_R a0).run
def S.ref08_May_is (a0 : List (Ty .op)) : Bool := (S.ref08_May a0).isSome
def S.ref08_May_o (a0 : List (Ty .op)) : S.ref08_May_T := (S.ref08_May a0).getD default
def ret_ref08_May (b : Bool) (r : S.ref08_May_T) : Ret := ⟨b, none, [(false, [C.d (.sc (.bool r.x0))])]⟩
def g_ref08_May : Con
  | [(false, [.sl a0n a0f .op a0])] => some (ret_ref08_May (S.ref08_May_is a0) (S.ref08_May_o a0))
  | _ => none
theorem raw_ref08_May (a0n : Option Bool) (a0f : Bool) (a0 : List (Ty .op)) : evR2 cx_ref08_May (hdI cx_ref08_May (find [(2, T_ref08_May_2)]) [] none 0) none Try.f129 129 none [(false, [.sl a0n a0f .op a0])] some = (S.ref08_May_R a0).go (ret_ref08_May true) := by kernel_rfl
theorem bs_ref08_May : loopsIn Try.f129 [] = [b_ref08_May_2] := by kernel_rfl
theorem ref08_May_ok : Stands Try.prog tyTab 129 g_ref08_May := by
  refine stands3 (L := find [(2, T_ref08_May_2)]) (n := 0) (hints := [(129, 2, { keep := [0, 3], acc := [] })]) (cx_ok rfl) rdy_ref08_May ⟨by kernel_rfl, by kernel_rfl, by kernel_rfl⟩ bs_ref08_May (consB (fun T h => by have e : T_ref08_May_2 = T := Option.some.inj (show some T_ref08_May_2 = some T from h); exact e ▸ lok_ref08_May_2) nilB) (fun das r hG hr => ?_)
  unfold g_ref08_May at hG
  split at hG
  · rename_i a0n a0f a0
    injection hG with hG; subst hG
    exact ⟨none, true, win default ((raw_ref08_May a0n a0f a0).trans (DT.go_run _ _)) hr⟩
  · cases hG
abbrev cx_ref09_step : Cx := mkCx2 tyTab [(128, g_ref05_Name), (129, g_ref08_May)] [] [] []
theorem rdy_ref09_step : Ready Try.prog tyTab [(128, g_ref05_Name), (129, g_ref08_May)] [] [] := ⟨consG2 ref05_Name_ok (consG2 ref08_May_ok (noneG2)), noneI2, noneF2⟩
structure S.ref09_step_T where
  x0 : Bool
  deriving Inhabited
def S.ref09_step_R (a0_0 : ByteArray) (a0_1 : List (Ty .op)) (a0_2 : Int) (a0_3 : Int) (a0_4 : Bool) (a0_5 : ByteArray) (a0_6 : List (Ty .op)) (a1 : Bool) (a2 : Bool) : DT S.ref09_step_T :=
let y0 : Bool := xdec (a0_5 = { data := { toList := [] : Array UInt8 } : ByteArray })
let y1 : Bool := xeqI (↑a0_6.length : Int) 0
(.br (S.ref05_Name_is a0_0)
(.br (S.ref08_May_is a0_1)
(.br (xnot (S.ref05_Name_o a0_0).x0)
(.leaf ⟨false⟩)
(.br (xnot (S.ref08_May_o a0_1).x0)
(.leaf ⟨false⟩)
(.br (xdec (a0_2 < 1))
(.leaf ⟨false⟩)
(.br (xdec (a0_3 < a0_2))
(.leaf ⟨false⟩)
(.br (xdec (a0_3 > 4))
(.leaf ⟨false⟩)
(.br (a2)
(.br (xneI a0_2 a0_3)
(.leaf ⟨false⟩)
(.br (xnot a0_4)
(.br (y0)
(.leaf ⟨y1⟩)
(.leaf ⟨false⟩))
(.br (S.ref05_Name_is a0_5)
(.br (S.ref08_May_is a0_6)
(.br (xnot a1)
(.br ((S.ref05_Name_o a0_5).x0)
(.leaf ⟨(S.ref08_May_o a0_6).x0⟩)
(.leaf ⟨false⟩))
(.leaf ⟨false⟩))
.fail)
.fail)))
(.br (xnot a0_4)
(.br (y0)
(.leaf ⟨y1⟩)
(.leaf ⟨false⟩))
(.br (S.ref05_Name_is a0_5)
(.br (S.ref08_May_is a0_6)
(.br (xnot a1)
(.br ((S.ref05_Name_o a0_5).x0)
(.leaf ⟨(S.ref08_May_o a0_6).x0⟩)
(.leaf ⟨false⟩))
(.leaf ⟨false⟩))
.fail)
.fail))))))))
.fail)
.fail)
def S.ref09_step (a0_0 : ByteArray) (a0_1 : List (Ty .op)) (a0_2 : Int) (a0_3 : Int) (a0_4 : Bool) (a0_5 : ByteArray) (a0_6 : List (Ty .op)) (a1 : Bool) (a2 : Bool) : Option S.ref09_step_T := (S.ref09_step_R a0_0 a0_1 a0_2 a0_3 a0_4 a0_5 a0_6 a1 a2).run
def S.ref09_step_is (a0_0 : ByteArray) (a0_1 : List (Ty .op)) (a0_2 : Int) (a0_3 : Int) (a0_4 : Bool) (a0_5 : ByteArray) (a0_6 : List (Ty .op)) (a1 : Bool) (a2 : Bool) : Bool := (S.ref09_step a0_0 a0_1 a0_2 a0_3 a0_4 a0_5 a0_6 a1 a2).isSome
def S.ref09_step_o (a0_0 : ByteArray) (a0_1 : List (Ty .op)) (a0_2 : Int) (a0_3 : Int) (a0_4 : Bool) (a0_5 : ByteArray) (a0_6 : List (Ty .op)) (a1 : Bool) (a2 : Bool) : S.ref09_step_T := (S.ref09_step a0_0 a0_1 a0_2 a0_3 a0_4 a0_5 a0_6 a1 a2).getD default
def ret_ref09_step (b : Bool) (r : S.ref09_step_T) : Ret := ⟨b, none, [(false, [C.d (.sc (.bool r.x0))])]⟩
def g_ref09_step : Con
  | [(true, [.sc (.str a0_0), .sl a0_1n a0_1f .op a0_1, .sc (.int .i64 a0_2), .sc (.int .i64 a0_3), .sc (.bool a0_4), .sc (.str a0_5), .sl a0_6n a0_6f .op a0_6]), (false, [.sc (.bool a1)]), (false, [.sc (.bool a2)])] => some (ret_ref09_step (S.ref09_step_is a0_0 a0_1 a0_2 a0_3 a0_4 a0_5 a0_6 a1 a2) (S.ref09_step_o a0_0 a0_1 a0_2 a0_3 a0_4 a0_5 a0_6 a1 a2))
  | _ => none
theorem raw_ref09_step (a0_0 : ByteArray) (a0_1n : Option Bool) (a0_1f : Bool) (a0_1 : List (Ty .op)) (a0_2 : Int) (a0_3 : Int) (a0_4 : Bool) (a0_5 : ByteArray) (a0_6n : Option Bool) (a0_6f : Bool) (a0_6 : List (Ty .op)) (a1 : Bool) (a2 : Bool) : evR2 cx_ref09_step (hdI cx_ref09_step (find []) [] none 0) none Try.f92 92 none [(true, [.sc (.str a0_0), .sl a0_1n a0_1f .op a0_1, .sc (.int .i64 a0_2), .sc (.int .i64 a0_3), .sc (.bool a0_4), .sc (.str a0_5), .sl a0_6n a0_6f .op a0_6]), (false, [.sc (.bool a1)]), (false, [.sc (.bool a2)])] some = (S.ref09_step_R a0_0 a0_1 a0_2 a0_3 a0_4 a0_5 a0_6 a1 a2).go (ret_ref09_step true) := by kernel_rfl
theorem bs_ref09_step : loopsIn Try.f92 [] = [] := by kernel_rfl
theorem ref09_step_ok : Stands Try.prog tyTab 92 g_ref09_step := by
  refine stands3 (L := find []) (n := 0) (hints := []) (cx_ok rfl) rdy_ref09_step ⟨by kernel_rfl, by kernel_rfl, by kernel_rfl⟩ bs_ref09_step nilB (fun das r hG hr => ?_)
  unfold g_ref09_step at hG
  split at hG
  · rename_i a0_0 a0_1n a0_1f a0_1 a0_2 a0_3 a0_4 a0_5 a0_6n a0_6f a0_6 a1 a2
    injection hG with hG; subst hG
    exact ⟨none, true, win default ((raw_ref09_step a0_0 a0_1n a0_1f a0_1 a0_2 a0_3 a0_4 a0_5 a0_6n a0_6f a0_6 a1 a2).trans (DT.go_run _ _)) hr⟩
  · cases hG
abbrev cx_ref09_May : Cx := mkCx2 tyTab [(92, g_ref09_step)] [] [(51, 5, { keep := [1, 3, 4], acc := [] })] []
theorem rdy_ref09_May : Ready Try.prog tyTab [(92, g_ref09_step)] [] [] := ⟨consG2 ref09_step_ok (noneG2), noneI2, noneF2⟩
structure S.ref09_May_5_V where
  t_4_0 : Int
def S.ref09_May_5_R (t_3_0 : Int) (qD : List (Ty .step)) (v : S.ref09_May_5_V) : DT (Option Nat × S.ref09_May_5_V) :=
let y0 : Ty ET.step := qD.getD v.t_4_0.toNat (dflt ET.step)
let y1 : ByteArray := y0.name
let y2 : List Opn := y0.ifs
let y3 : Int := y0.min
let y4 : Int := y0.max
let y5 : Bool := y0.guard
let y6 : ByteArray := y0.notName
let y7 : List Opn := y0.notIf
let y8 : Bool := xeqI v.t_4_0 0
let y9 : Bool := xeqI v.t_4_0 (xwrap IntKind.i64 (t_3_0 - 1))
(.br (xdec (v.t_4_0 < t_3_0))
(.br (xdec (0 ≤ v.t_4_0) && xdec (v.t_4_0 < (↑qD.length : Int)))
(.br (S.ref09_step_is y1 y2 y3 y4 y5 y6 y7 y8 y9)
(.br (xnot (S.ref09_step_o y1 y2 y3 y4 y5 y6 y7 y8 y9).x0)
(.leaf (some 0, v))
(.leaf (none, ⟨xwrap IntKind.i64 (v.t_4_0 + 1)⟩)))
.fail)
.fail)
(.leaf (some 1, v)))
def S.ref09_May_5_r (t_3_0 : Int) (qD : List (Ty .step)) (v : S.ref09_May_5_V) : Option (Option Nat × S.ref09_May_5_V) := (S.ref09_May_5_R t_3_0 qD v).run
def S.ref09_May_5_j (t_3_0 : Int) (qD : List (Ty .step)) (v : S.ref09_May_5_V) (j : Nat) : Bool := Lp_j (S.ref09_May_5_r t_3_0 qD) v j
def S.ref09_May_5_v (t_3_0 : Int) (qD : List (Ty .step)) (v : S.ref09_May_5_V) : S.ref09_May_5_V := Lp_v (S.ref09_May_5_r t_3_0 qD) v
def mk_ref09_May_5 (t_3_0 : Int) (qE : Option Bool) (qF : Bool) (qD : List (Ty .step)) (qG : Int) (qH : Int) (qI : Int) (qJ : Int) (v : S.ref09_May_5_V) : St := ⟨[V.any, V.v false [C.ptr 0 0], V.any, V.v false [C.d (.sc (.int .i64 t_3_0))], V.v false [C.d (.sc (.int .i64 v.t_4_0))], V.any, V.any, V.any, V.any, V.any,
  V.any, V.any, V.any, V.any, V.any, V.any, V.any, V.any, V.any, V.any, V.any, V.any, V.any, V.any, V.any, V.any, V.any, V.any, V.any, V.any, V.any, V.any, V.any, V.any, V.any,
  V.any, V.any, V.any, V.any, V.any, V.any, V.any, V.any, V.any, V.any, V.any, V.any, V.any, V.any, V.any, V.any, V.any, V.any, V.any, V.any, V.any, V.any, V.any, V.any, V.any,
  V.any, V.any, V.any, V.any, V.any, V.any, V.any, V.any, V.any, V.any, V.any, V.any, V.any, V.any, V.any, V.any, V.any, V.any, V.any, V.any, V.any, V.any, V.any, V.any, V.any], [some
    (Blk.box 45
      [C.d (.sl qE qF ET.step qD), C.d (.sc (.int .i64 qG)), C.d (.sc (.int .i64 qH)), C.d (.sc (.int .i64 qI)),
        C.d (.sc (.int .i64 qJ))]),
  none, none, none, none, none, none, none, none, none, none, none, none, none, none, none, none, none, none, none, none, none, none, none, none, none, none, none, none, none,
  none, none, none, none, none, none, none, none, none, none, none, none, none, none, none, none, none, none, none, none, none, none, none, none, none, none, none, none, none,
  none, none, none, none, none], 0⟩
def ex_ref09_May_5 (t_3_0 : Int) (qE : Option Bool) (qF : Bool) (qD : List (Ty .step)) (qG : Int) (qH : Int) (qI : Int) (qJ : Int) (j : Nat) (v : S.ref09_May_5_V) : Ex × St := match j with
  | 0 => (Ex.ret, ⟨[V.any, V.any, V.v false [C.d (.sc (.bool false))], V.any, V.any, V.any, V.any, V.any, V.any, V.any, V.any, V.any, V.any, V.any, V.any, V.any, V.any, V.any, V.any, V.any, V.any,
  V.any, V.any, V.any, V.any, V.any, V.any, V.any, V.any, V.any, V.any, V.any, V.any, V.any, V.any, V.any, V.any, V.any, V.any, V.any, V.any, V.any, V.any, V.any, V.any, V.any,
  V.any, V.any, V.any, V.any, V.any, V.any, V.any, V.any, V.any, V.any, V.any, V.any, V.any, V.any, V.any, V.any, V.any, V.any, V.any, V.any, V.any, V.any, V.any, V.any, V.any,
  V.any, V.any, V.any, V.any, V.any, V.any, V.any, V.any, V.any, V.any, V.any, V.any, V.any, V.any], [some
    (Blk.box 45
      [C.d (.sl qE qF ET.step qD), C.d (.sc (.int .i64 qG)), C.d (.sc (.int .i64 qH)), C.d (.sc (.int .i64 qI)),
        C.d (.sc (.int .i64 qJ))]),
  none, none, none, none, none, none, none, none, none, none, none, none, none, none, none, none, none, none, none, none, none, none, none, none, none, none, none, none, none,
  none, none, none, none, none, none, none, none, none, none, none, none, none, none, none, none, none, none, none, none, none, none, none, none, none, none, none, none, none,
  none, none, none, none, none, none, none, none, none, none, none, none, none, none, none, none, none, none, none, none, none, none, none, none], 0⟩)
  | 1 => (Ex.exit 0, ⟨[V.any, V.any, V.any, V.any, V.any, V.any, V.any, V.any, V.any, V.any, V.any, V.any, V.any, V.any, V.any, V.any, V.any, V.any, V.any, V.any, V.any, V.any, V.any, V.any, V.any,
  V.any, V.any, V.any, V.any, V.any, V.any, V.any, V.any, V.any, V.any, V.any, V.any, V.any, V.any, V.any, V.any, V.any, V.any, V.any, V.any, V.any, V.any, V.any, V.any, V.any,
  V.any, V.any, V.any, V.any, V.any, V.any, V.any, V.any, V.any, V.any, V.any, V.any, V.any, V.any, V.any, V.any, V.any, V.any, V.any, V.any, V.any, V.any, V.any, V.any, V.any,
  V.any, V.any, V.any, V.any, V.any, V.any, V.any, V.any, V.any, V.any], [some
    (Blk.box 45
      [C.d (.sl qE qF ET.step qD), C.d (.sc (.int .i64 qG)), C.d (.sc (.int .i64 qH)), C.d (.sc (.int .i64 qI)),
        C.d (.sc (.int .i64 qJ))]),
  none, none, none, none, none, none, none, none, none, none, none, none, none, none, none, none, none, none, none, none, none, none, none, none, none, none, none, none, none,
  none, none, none, none, none, none, none, none, none, none, none, none, none, none, none, none, none, none, none, none, none, none, none, none, none, none, none, none, none,
  none, none, none, none, none, none, none, none], 0⟩)
  | _ => (.ret, ⟨[], [], 0⟩)
def T1_ref09_May_5 : V → V → V → Option Blk → Tree
  | V.v false [C.ptr 0 0], V.v false [C.d (.sc (.int .i64 t_3_0))], V.v false [C.d (.sc (.int .i64 t_4_0))], some (Blk.box 45 [C.d (.sl qE qF ET.step qD), C.d (.sc (.int .i64 qG)), C.d (.sc (.int .i64 qH)), C.d (.sc (.int .i64 qI)), C.d (.sc (.int .i64 qJ))]) => exT (fun j => ex_ref09_May_5 t_3_0 qE qF qD qG qH qI qJ j (S.ref09_May_5_v t_3_0 qD ⟨t_4_0⟩)) (S.ref09_May_5_j t_3_0 qD ⟨t_4_0⟩) [0, 1]
  | _, _, _, _ => .bad
def T_ref09_May_5 (st : St) : Tree := bif okSt 85 64 0 [0] st then T1_ref09_May_5 (st.env.getD 1 .any) (st.env.getD 3 .any) (st.env.getD 4 .any) (lk st.heap 0) else .bad
def b_ref09_May_5 : Code := loopBy Try.f51 5
theorem rnd_ref09_May_5 (t_3_0 : Int) (qE : Option Bool) (qF : Bool) (qD : List (Ty .step)) (qG : Int) (qH : Int) (qI : Int) (qJ : Int) (v : S.ref09_May_5_V) : round2 cx_ref09_May (hdI cx_ref09_May (find []) [] none 0) 51 b_ref09_May_5 [] 64 [2] (mk_ref09_May_5 t_3_0 qE qF qD qG qH qI qJ v) = (S.ref09_May_5_R t_3_0 qD v).go (roundOut (mk_ref09_May_5 t_3_0 qE qF qD qG qH qI qJ) (ex_ref09_May_5 t_3_0 qE qF qD qG qH qI qJ)) := by kernel_rfl
theorem bs_ref09_May_5 : loopsOf b_ref09_May_5 ++ loopsInl [] = [] := by kernel_rfl
theorem ci_ref09_May_5 (t_3_0 : Int) (qE : Option Bool) (qF : Bool) (qD : List (Ty .step)) (qG : Int) (qH : Int) (qI : Int) (qJ : Int) : ∀ v j v2, Lp (S.ref09_May_5_r t_3_0 qD) v = some (j, v2) → Circles Try.prog cx_ref09_May b_ref09_May_5 (mk_ref09_May_5 t_3_0 qE qF qD qG qH qI qJ v) (ex_ref09_May_5 t_3_0 qE qF qD qG qH qI qJ j v2).1 (ex_ref09_May_5 t_3_0 qE qF qD qG qH qI qJ j v2).2 :=
  loop_ok2 (L := find []) (n := 0) (hints := [(51, 5, { keep := [1, 3, 4], acc := [] })]) (cx_ok rfl) rdy_ref09_May bs_ref09_May_5 nilB (fun v => (rnd_ref09_May_5 t_3_0 qE qF qD qG qH qI qJ v).trans (DT.go_run _ _)) (by intro j v; unfold ex_ref09_May_5; split <;> rfl)
theorem mke_ref09_May_5 (t_3_0 : Int) (qE : Option Bool) (qF : Bool) (qD : List (Ty .step)) (qG : Int) (qH : Int) (qI : Int) (qJ : Int) (v : S.ref09_May_5_V) : mk_ref09_May_5 t_3_0 qE qF qD qG qH qI qJ v = ⟨envOf 85 [(1, V.v false [C.ptr 0 0]), (3, V.v false [C.d (.sc (.int .i64 t_3_0))]), (4, V.v false [C.d (.sc (.int .i64 v.t_4_0))])], heapOf 64 [(0, some
  (Blk.box 45
    [C.d (.sl qE qF ET.step qD), C.d (.sc (.int .i64 qG)), C.d (.sc (.int .i64 qH)), C.d (.sc (.int .i64 qI)),
      C.d (.sc (.int .i64 qJ))]))], 0⟩ := by kernel_rfl
theorem lo1_ref09_May_5 (e1 : V) (e3 : V) (e4 : V) (h0 : Option Blk) e st2 (h : (T1_ref09_May_5 e1 e3 e4 h0).eval = some (e, st2)) : Circles Try.prog cx_ref09_May b_ref09_May_5 ⟨envOf 85 [(1, e1), (3, e3), (4, e4)], heapOf 64 [(0, h0)], 0⟩ e st2 := by
  unfold T1_ref09_May_5 at h
  split at h
  · have := loop_tree (mk := mk_ref09_May_5 _ _ _ _ _ _ _ _) (ci_ref09_May_5 _ _ _ _ _ _ _ _) _ _ e st2 h
    rw [mke_ref09_May_5] at this
    exact this
  · cases h
theorem lok_ref09_May_5 : LoopOk Try.prog cx_ref09_May b_ref09_May_5 T_ref09_May_5 := by
  intro st e st2 h
  unfold T_ref09_May_5 at h
  cases hk : okSt 85 64 0 [0] st with
  | false => rw [hk] at h; cases h
  | true =>
    rw [hk] at h
    exact circles_keep (ks := [1, 3, 4]) hk (lo1_ref09_May_5 _ _ _ _ e st2 h)
structure S.ref09_May_T where
  x0 : Bool
  deriving Inhabited
def S.ref09_May_R (a0_0 : List (Ty .step)) (a0_1 : Int) (a0_2 : Int) (a0_3 : Int) (a0_4 : Int) : DT S.ref09_May_T :=
let y0 : Int := (↑a0_0.length : Int)
let y1 : S.ref09_May_5_V := { t_4_0 := 0 : S.ref09_May_5_V }
let y2 : Bool := S.ref09_May_5_j y0 a0_0 y1 0
let y3 : Bool := S.ref09_May_5_j y0 a0_0 y1 1
(.br (xdec (y0 < 1))
(.leaf ⟨false⟩)
(.br (xdec (y0 > 4))
(.leaf ⟨false⟩)
(.br (xdec (a0_1 < 0))
(.leaf ⟨false⟩)
(.br (xdec (a0_1 > 1125899906842624))
(.leaf ⟨false⟩)
(.br (xdec (a0_2 < 0))
(.leaf ⟨false⟩)
(.br (xdec (a0_2 ≥ 4))
(.leaf ⟨false⟩)
(.br (xdec (a0_3 < 0))
(.leaf ⟨false⟩)
(.br (xdec (a0_3 ≥ y0))
(.leaf ⟨false⟩)
(.br (xdec (a0_4 < 0))
(.leaf ⟨false⟩)
(.br (xdec (a0_4 ≥ 6))
(.leaf ⟨false⟩)
(.br (xeqI a0_2 0)
(.br (xneI a0_4 0)
(.leaf ⟨false⟩)
(.br (y2)
(.leaf ⟨false⟩)
(.br (y3)
(.leaf ⟨true⟩)
.fail)))
(.br (y2)
(.leaf ⟨false⟩)
(.br (y3)
(.leaf ⟨true⟩)
.fail)))))))))))))
def S.ref09_May (a0_0 : List (Ty .step)) (a0_1 : Int) (a0_2 : Int) (a0_3 : Int) (a0_4 : Int) : Option S.ref09_May_T := (S.ref09_May_R a0_0 a0_1 a0_2 a0_3 a0_4).run
def S.ref09_May_is (a0_0 : List (Ty .step)) (a0_1 : Int) (a0_2 : Int) (a0_3 : Int) (a0_4 : Int) : Bool := (S.ref09_May a0_0 a0_1 a0_2 a0_3 a0_4).isSome
def S.ref09_May_o (a0_0 : List (Ty .step)) (a0_1 : Int) (a0_2 : Int) (a0_3 : Int) (a0_4 : Int) : S.ref09_May_T := (S.ref09_May a0_0 a0_1 a0_2 a0_3 a0_4).getD default
def ret_ref09_May (b : Bool) (r : S.ref09_May_T) : Ret := ⟨b, none, [(false, [C.d (.sc (.bool r.x0))])]⟩
def g_ref09_May : Con
  | [(true, [.sl a0_0n a0_0f .step a0_0, .sc (.int .i64 a0_1), .sc (.int .i64 a0_2), .sc (.int .i64 a0_3), .sc (.int .i64 a0_4)])] => some (ret_ref09_May (S.ref09_May_is a0_0 a0_1 a0_2 a0_3 a0_4) (S.ref09_May_o a0_0 a0_1 a0_2 a0_3 a0_4))
  | _ => none
theorem raw_ref09_May (a0_0n : Option Bool) (a0_0f : Bool) (a0_0 : List (Ty .step)) (a0_1 : Int) (a0_2 : Int) (a0_3 : Int) (a0_4 : Int) : evR2 cx_ref09_May (hdI cx_ref09_May (find [(5, T_ref09_May_5)]) [] none 0) none Try.f51 51 none [(true, [.sl a0_0n a0_0f .step a0_0, .sc (.int .i64 a0_1), .sc (.int .i64 a0_2), .sc (.int .i64 a0_3), .sc (.int .i64 a0_4)])] some = (S.ref09_May_R a0_0 a0_1 a0_2 a0_3 a0_4).go (ret_ref09_May true) := by kernel_rfl
theorem bs_ref09_May : loopsIn Try.f51 [] = [b_ref09_May_5] := by kernel_rfl
theorem ref09_May_ok : Stands Try.prog tyTab 51 g_ref09_May := by
  refine stands3 (L := find [(5, T_ref09_May_5)]) (n := 0) (hints := [(51, 5, { keep := [1, 3, 4], acc := [] })]) (cx_ok rfl) rdy_ref09_May ⟨by kernel_rfl, by kernel_rfl, by kernel_rfl⟩ bs_ref09_May (consB (fun T h => by have e : T_ref09_May_5 = T := Option.some.inj (show some T_ref09_May_5 = some T from h); exact e ▸ lok_ref09_May_5) nilB) (fun das r hG hr => ?_)
  unfold g_ref09_May at hG
  split at hG
  · rename_i a0_0n a0_0f a0_0 a0_1 a0_2 a0_3 a0_4
    injection hG with hG; subst hG
    exact ⟨none, true, win default ((raw_ref09_May a0_0n a0_0f a0_0 a0_1 a0_2 a0_3 a0_4).trans (DT.go_run _ _)) hr⟩
  · cases hG
end
end Go.Eng
