/- Contracts, laid by program. -/
import Derived.Test.YtbjeikmkngcjlaaZE3
import Derived.Test.YtbjeikmkngcjlaaZTab
set_option linter.unusedVariables false
set_option linter.unusedSimpArgs false
namespace Go.Eng
noncomputable section
open Go Go.Eng Go.Proofs Go.Eng.Tab
abbrev cx_ring_last : Cx := mkCx2 tyTab [] [] [] []
theorem rdy_ring_last : Ready Try.prog tyTab [] [] [] := ⟨noneG2, noneI2, noneF2⟩
structure S.ring_last_T where
  x0 : Int
  deriving Inhabited
def S.ring_last_R (a0_0 : Int) (a0_2 : List (Ty .mat)) : DT S.ring_last_T :=
(.leaf ⟨xwrap IntKind.i64 (a0_0 + (↑a0_2.length : Int))⟩)
def S.ring_last (a0_0 : Int) (a0_2 : List (Ty .mat)) : Option S.ring_last_T := (S.ring_last_R a0_0 a0_2).run
def S.ring_last_is (a0_0 : Int) (a0_2 : List (Ty .mat)) : Bool := (S.ring_last a0_0 a0_2).isSome
def S.ring_last_o (a0_0 : Int) (a0_2 : List (Ty .mat)) : S.ring_last_T := (S.ring_last a0_0 a0_2).getD default
def ret_ring_last (b : Bool) (r : S.ring_last_T) : Ret := ⟨b, none, [(false, [C.d (.sc (.int .i64 r.x0))])]⟩
def g_ring_last : Con
  | [(true, [.sc (.int .i64 a0_0), .sc (.int .i64 a0_1), .sl a0_2n a0_2f .mat a0_2])] => some (ret_ring_last (S.ring_last_is a0_0 a0_2) (S.ring_last_o a0_0 a0_2))
  | _ => none
theorem raw_ring_last (a0_0 : Int) (a0_1 : Int) (a0_2n : Option Bool) (a0_2f : Bool) (a0_2 : List (Ty .mat)) : evR2 cx_ring_last (hdI cx_ring_last (find []) [] none 0) none Try.f134 134 none [(true, [.sc (.int .i64 a0_0), .sc (.int .i64 a0_1), .sl a0_2n a0_2f .mat a0_2])] some = (S.ring_last_R a0_0 a0_2).go (ret_ring_last true) := by kernel_rfl
theorem bs_ring_last : loopsIn Try.f134 [] = [] := by kernel_rfl
theorem ring_last_ok : Stands Try.prog tyTab 134 g_ring_last := by
  refine stands3 (L := find []) (n := 0) (hints := []) (cx_ok rfl) rdy_ring_last ⟨by kernel_rfl, by kernel_rfl, by kernel_rfl⟩ bs_ring_last nilB (fun das r hG hr => ?_)
  unfold g_ring_last at hG
  split at hG
  · rename_i a0_0 a0_1 a0_2n a0_2f a0_2
    injection hG with hG; subst hG
    exact ⟨none, true, win default ((raw_ring_last a0_0 a0_1 a0_2n a0_2f a0_2).trans (DT.go_run _ _)) hr⟩
  · cases hG
abbrev cx_ring_May : Cx := mkCx2 tyTab [(134, g_ring_last)] [] [] []
theorem rdy_ring_May : Ready Try.prog tyTab [(134, g_ring_last)] [] [] := ⟨consG2 ring_last_ok (noneG2), noneI2, noneF2⟩
structure S.ring_May_T where
  x0 : Bool
  deriving Inhabited
def S.ring_May_R (a0_0 : Int) (a0_1 : Int) (a0_2 : List (Ty .mat)) : DT S.ring_May_T :=
let y0 : Int := (S.ring_last_o a0_0 a0_2).x0
(.br (xdec (a0_0 ≥ 0))
(.br (xdec (a0_0 ≤ 1099511627776))
(.br (xdec ((↑a0_2.length : Int) ≤ 6))
(.br (xdec (y0 ≤ 1099511627776))
(.br (xdec (a0_1 ≥ a0_0))
(.leaf ⟨xdec (a0_1 ≤ y0)⟩)
(.leaf ⟨false⟩))
(.leaf ⟨false⟩))
(.leaf ⟨false⟩))
(.leaf ⟨false⟩))
(.leaf ⟨false⟩))
def S.ring_May (a0_0 : Int) (a0_1 : Int) (a0_2 : List (Ty .mat)) : Option S.ring_May_T := (S.ring_May_R a0_0 a0_1 a0_2).run
def S.ring_May_is (a0_0 : Int) (a0_1 : Int) (a0_2 : List (Ty .mat)) : Bool := (S.ring_May a0_0 a0_1 a0_2).isSome
def S.ring_May_o (a0_0 : Int) (a0_1 : Int) (a0_2 : List (Ty .mat)) : S.ring_May_T := (S.ring_May a0_0 a0_1 a0_2).getD default
def ret_ring_May (b : Bool) (r : S.ring_May_T) : Ret := ⟨b, none, [(false, [C.d (.sc (.bool r.x0))])]⟩
def g_ring_May : Con
  | [(true, [.sc (.int .i64 a0_0), .sc (.int .i64 a0_1), .sl a0_2n a0_2f .mat a0_2])] => some (ret_ring_May (S.ring_May_is a0_0 a0_1 a0_2) (S.ring_May_o a0_0 a0_1 a0_2))
  | _ => none
theorem raw_ring_May (a0_0 : Int) (a0_1 : Int) (a0_2n : Option Bool) (a0_2f : Bool) (a0_2 : List (Ty .mat)) : evR2 cx_ring_May (hdI cx_ring_May (find []) [] none 0) none Try.f104 104 none [(true, [.sc (.int .i64 a0_0), .sc (.int .i64 a0_1), .sl a0_2n a0_2f .mat a0_2])] some = (S.ring_May_R a0_0 a0_1 a0_2).go (ret_ring_May true) := by kernel_rfl
theorem bs_ring_May : loopsIn Try.f104 [] = [] := by kernel_rfl
theorem ring_May_ok : Stands Try.prog tyTab 104 g_ring_May := by
  refine stands3 (L := find []) (n := 0) (hints := []) (cx_ok rfl) rdy_ring_May ⟨by kernel_rfl, by kernel_rfl, by kernel_rfl⟩ bs_ring_May nilB (fun das r hG hr => ?_)
  unfold g_ring_May at hG
  split at hG
  · rename_i a0_0 a0_1 a0_2n a0_2f a0_2
    injection hG with hG; subst hG
    exact ⟨none, true, win default ((raw_ring_May a0_0 a0_1 a0_2n a0_2f a0_2).trans (DT.go_run _ _)) hr⟩
  · cases hG
abbrev cx_ring_why : Cx := mkCx2 tyTab [(104, g_ring_May)] [] [] []
theorem rdy_ring_why : Ready Try.prog tyTab [(104, g_ring_May)] [] [] := ⟨consG2 ring_May_ok (noneG2), noneI2, noneF2⟩
structure S.ring_why_T where
  x0 : Int
  deriving Inhabited
def S.ring_why_R (a0_0 : Int) (a0_1 : Int) (a0_2 : List (Ty .mat)) (a1 : Int) : DT S.ring_why_T :=
let y0 : Bool := xdec (a1 < a0_0)
(.br (S.ring_May_is a0_0 a0_1 a0_2)
(.br (xnot (S.ring_May_o a0_0 a0_1 a0_2).x0)
(.leaf ⟨1⟩)
(.br (y0)
(.br (y0)
(.leaf ⟨9⟩)
(.leaf ⟨0⟩))
(.br (xdec (a1 > a0_1))
(.leaf ⟨9⟩)
(.leaf ⟨0⟩))))
.fail)
def S.ring_why (a0_0 : Int) (a0_1 : Int) (a0_2 : List (Ty .mat)) (a1 : Int) : Option S.ring_why_T := (S.ring_why_R a0_0 a0_1 a0_2 a1).run
def S.ring_why_is (a0_0 : Int) (a0_1 : Int) (a0_2 : List (Ty .mat)) (a1 : Int) : Bool := (S.ring_why a0_0 a0_1 a0_2 a1).isSome
def S.ring_why_o (a0_0 : Int) (a0_1 : Int) (a0_2 : List (Ty .mat)) (a1 : Int) : S.ring_why_T := (S.ring_why a0_0 a0_1 a0_2 a1).getD default
def ret_ring_why (b : Bool) (r : S.ring_why_T) : Ret := ⟨b, none, [(false, [C.d (.sc (.int .i64 r.x0))])]⟩
def g_ring_why : Con
  | [(true, [.sc (.int .i64 a0_0), .sc (.int .i64 a0_1), .sl a0_2n a0_2f .mat a0_2]), (false, [.sc (.int .i64 a1)])] => some (ret_ring_why (S.ring_why_is a0_0 a0_1 a0_2 a1) (S.ring_why_o a0_0 a0_1 a0_2 a1))
  | _ => none
theorem raw_ring_why (a0_0 : Int) (a0_1 : Int) (a0_2n : Option Bool) (a0_2f : Bool) (a0_2 : List (Ty .mat)) (a1 : Int) : evR2 cx_ring_why (hdI cx_ring_why (find []) [] none 0) none Try.f139 139 none [(true, [.sc (.int .i64 a0_0), .sc (.int .i64 a0_1), .sl a0_2n a0_2f .mat a0_2]), (false, [.sc (.int .i64 a1)])] some = (S.ring_why_R a0_0 a0_1 a0_2 a1).go (ret_ring_why true) := by kernel_rfl
theorem bs_ring_why : loopsIn Try.f139 [] = [] := by kernel_rfl
theorem ring_why_ok : Stands Try.prog tyTab 139 g_ring_why := by
  refine stands3 (L := find []) (n := 0) (hints := []) (cx_ok rfl) rdy_ring_why ⟨by kernel_rfl, by kernel_rfl, by kernel_rfl⟩ bs_ring_why nilB (fun das r hG hr => ?_)
  unfold g_ring_why at hG
  split at hG
  · rename_i a0_0 a0_1 a0_2n a0_2f a0_2 a1
    injection hG with hG; subst hG
    exact ⟨none, true, win default ((raw_ring_why a0_0 a0_1 a0_2n a0_2f a0_2 a1).trans (DT.go_run _ _)) hr⟩
  · cases hG
abbrev cx_ring_own : Cx := mkCx2 tyTab [] [] [] []
theorem rdy_ring_own : Ready Try.prog tyTab [] [] [] := ⟨noneG2, noneI2, noneF2⟩
structure S.ring_own_T where
  x0 : List (Ty .mat)
  x1 : Int
  x2 : Int
  x3 : Nat
  deriving Inhabited
def S.ring_own_R (a0_0 : Int) (a0_1 : Int) (a0_2 : List (Ty .mat)) (a1 : Int) : DT S.ring_own_T :=
let y0 : Nat := a0_2.length
let y1 : Int := Int.ofNat y0
let y2 : Int := (↑y0 : Int)
let y3 : Bool := xdec (0 ≤ y2)
let y4 : List (Ty .mat) := sub a0_2 a1.toNat y1.toNat
let y5 : Nat := y4.length
let y6 : Int := (↑y5 : Int)
let y7 : Nat := y6.toNat
let y8 : List (Ty .mat) := List.replicate y7 (dflt ET.mat)
(.br (xdec (0 ≤ a1) && xdec (a1 ≤ y1) && (y3 && xdec (y2 ≤ y1)) && (y3 && xdec (y2 ≤ y2) && true))
(.br (xdec (0 ≤ y6) && xdec (y6 ≤ 1048576) && xeqI y6 y6)
(.br (xdec (0 + y7 ≤ y8.length))
(.leaf ⟨List.take 0 y8 ++ List.take y7 y4 ++ List.drop (0 + min y5 y7) y8, a0_0, a0_1, y7⟩)
.fail)
.fail)
.fail)
def S.ring_own (a0_0 : Int) (a0_1 : Int) (a0_2 : List (Ty .mat)) (a1 : Int) : Option S.ring_own_T := (S.ring_own_R a0_0 a0_1 a0_2 a1).run
def S.ring_own_is (a0_0 : Int) (a0_1 : Int) (a0_2 : List (Ty .mat)) (a1 : Int) : Bool := (S.ring_own a0_0 a0_1 a0_2 a1).isSome
def S.ring_own_o (a0_0 : Int) (a0_1 : Int) (a0_2 : List (Ty .mat)) (a1 : Int) : S.ring_own_T := (S.ring_own a0_0 a0_1 a0_2 a1).getD default
def ret_ring_own (b : Bool) (r : S.ring_own_T) : Ret := ⟨b, some (81, (⟨ET.mat, r.x0⟩ : (t : ET) × List (Ty t))), [(true, [C.d (.sc (.int .i64 r.x1)), C.d (.sc (.int .i64 r.x2)), C.own 15 ET.mat true 0 r.x3])]⟩
def g_ring_own : Con
  | [(true, [.sc (.int .i64 a0_0), .sc (.int .i64 a0_1), .sl a0_2n a0_2f .mat a0_2]), (false, [.sc (.int .i64 a1)])] => some (ret_ring_own (S.ring_own_is a0_0 a0_1 a0_2 a1) (S.ring_own_o a0_0 a0_1 a0_2 a1))
  | _ => none
theorem raw_ring_own (a0_0 : Int) (a0_1 : Int) (a0_2n : Option Bool) (a0_2f : Bool) (a0_2 : List (Ty .mat)) (a1 : Int) : evR2 cx_ring_own (hdI cx_ring_own (find []) [] none 0) none Try.f138 138 (some 81) [(true, [.sc (.int .i64 a0_0), .sc (.int .i64 a0_1), .sl a0_2n a0_2f .mat a0_2]), (false, [.sc (.int .i64 a1)])] some = (S.ring_own_R a0_0 a0_1 a0_2 a1).go (ret_ring_own true) := by kernel_rfl
theorem bs_ring_own : loopsIn Try.f138 [] = [] := by kernel_rfl
theorem ring_own_ok : Stands Try.prog tyTab 138 g_ring_own := by
  refine stands3 (L := find []) (n := 0) (hints := []) (cx_ok rfl) rdy_ring_own ⟨by kernel_rfl, by kernel_rfl, by kernel_rfl⟩ bs_ring_own nilB (fun das r hG hr => ?_)
  unfold g_ring_own at hG
  split at hG
  · rename_i a0_0 a0_1 a0_2n a0_2f a0_2 a1
    injection hG with hG; subst hG
    exact ⟨(some 81), true, win default ((raw_ring_own a0_0 a0_1 a0_2n a0_2f a0_2 a1).trans (DT.go_run _ _)) hr⟩
  · cases hG
abbrev cx_ring_Back : Cx := mkCx2 tyTab [(138, g_ring_own), (139, g_ring_why)] [] [] []
theorem rdy_ring_Back : Ready Try.prog tyTab [(138, g_ring_own), (139, g_ring_why)] [] [] := ⟨consG2 ring_own_ok (consG2 ring_why_ok (noneG2)), noneI2, noneF2⟩
structure S.ring_Back_T where
  x0 : Int
  x1 : Int
  x2 : List (Ty .mat)
  x3 : Int
  deriving Inhabited
def S.ring_Back_R (a0_0 : Int) (a0_1 : Int) (a0_2 : List (Ty .mat)) (a1 : Int) : DT S.ring_Back_T :=
let y0 : Int := (S.ring_why_o a0_0 a0_1 a0_2 a1).x0
let y1 : S.ring_own_T := S.ring_own_o a0_0 a0_1 a0_2 0
let y2 : Nat := 0 + y1.x3
let y3 : List (Ty .mat) := y1.x0
(.br (S.ring_why_is a0_0 a0_1 a0_2 a1)
(.br (xneI y0 0)
(.leaf ⟨0, 0, [], y0⟩)
(.br (S.ring_own_is a0_0 a0_1 a0_2 0)
(.br (xdec (y2 ≤ y3.length) && true && true && true)
(.leaf ⟨y1.x1, a1, sub y3 0 y2, 0⟩)
.fail)
.fail))
.fail)
def S.ring_Back (a0_0 : Int) (a0_1 : Int) (a0_2 : List (Ty .mat)) (a1 : Int) : Option S.ring_Back_T := (S.ring_Back_R a0_0 a0_1 a0_2 a1).run
def S.ring_Back_is (a0_0 : Int) (a0_1 : Int) (a0_2 : List (Ty .mat)) (a1 : Int) : Bool := (S.ring_Back a0_0 a0_1 a0_2 a1).isSome
def S.ring_Back_o (a0_0 : Int) (a0_1 : Int) (a0_2 : List (Ty .mat)) (a1 : Int) : S.ring_Back_T := (S.ring_Back a0_0 a0_1 a0_2 a1).getD default
def ret_ring_Back (b : Bool) (r : S.ring_Back_T) : Ret := ⟨b, none, [(true, [C.d (.sc (.int .i64 r.x0)), C.d (.sc (.int .i64 r.x1)), C.d (.sl none false ET.mat r.x2)]), (false, [C.d (.sc (.int .i64 r.x3))])]⟩
def g_ring_Back : Con
  | [(true, [.sc (.int .i64 a0_0), .sc (.int .i64 a0_1), .sl a0_2n a0_2f .mat a0_2]), (false, [.sc (.int .i64 a1)])] => some (ret_ring_Back (S.ring_Back_is a0_0 a0_1 a0_2 a1) (S.ring_Back_o a0_0 a0_1 a0_2 a1))
  | _ => none
theorem raw_ring_Back (a0_0 : Int) (a0_1 : Int) (a0_2n : Option Bool) (a0_2f : Bool) (a0_2 : List (Ty .mat)) (a1 : Int) : evR2 cx_ring_Back (hdI cx_ring_Back (find []) [] none 0) none Try.f110 110 none [(true, [.sc (.int .i64 a0_0), .sc (.int .i64 a0_1), .sl a0_2n a0_2f .mat a0_2]), (false, [.sc (.int .i64 a1)])] some = (S.ring_Back_R a0_0 a0_1 a0_2 a1).go (ret_ring_Back true) := by kernel_rfl
theorem bs_ring_Back : loopsIn Try.f110 [] = [] := by kernel_rfl
theorem ring_Back_ok : Stands Try.prog tyTab 110 g_ring_Back := by
  refine stands3 (L := find []) (n := 0) (hints := []) (cx_ok rfl) rdy_ring_Back ⟨by kernel_rfl, by kernel_rfl, by kernel_rfl⟩ bs_ring_Back nilB (fun das r hG hr => ?_)
  unfold g_ring_Back at hG
  split at hG
  · rename_i a0_0 a0_1 a0_2n a0_2f a0_2 a1
    injection hG with hG; subst hG
    exact ⟨none, true, win default ((raw_ring_Back a0_0 a0_1 a0_2n a0_2f a0_2 a1).trans (DT.go_run _ _)) hr⟩
  · cases hG
abbrev cx_ring_Ack : Cx := mkCx2 tyTab [(138, g_ring_own), (139, g_ring_why)] [] [] []
theorem rdy_ring_Ack : Ready Try.prog tyTab [(138, g_ring_own), (139, g_ring_why)] [] [] := ⟨consG2 ring_own_ok (consG2 ring_why_ok (noneG2)), noneI2, noneF2⟩
structure S.ring_Ack_T where
  x0 : Int
  x1 : Int
  x2 : List (Ty .mat)
  x3 : Int
  deriving Inhabited
def S.ring_Ack_R (a0_0 : Int) (a0_1 : Int) (a0_2 : List (Ty .mat)) (a1 : Int) : DT S.ring_Ack_T :=
let y0 : Int := (S.ring_why_o a0_0 a0_1 a0_2 a1).x0
let y1 : Int := xwrap IntKind.i64 (a1 - a0_0)
let y2 : S.ring_own_T := S.ring_own_o a0_0 a0_1 a0_2 y1
let y3 : Nat := 0 + y2.x3
let y4 : List (Ty .mat) := y2.x0
(.br (S.ring_why_is a0_0 a0_1 a0_2 a1)
(.br (xneI y0 0)
(.leaf ⟨0, 0, [], y0⟩)
(.br (S.ring_own_is a0_0 a0_1 a0_2 y1)
(.br (xdec (y3 ≤ y4.length) && true && true && true)
(.leaf ⟨a1, y2.x2, sub y4 0 y3, 0⟩)
.fail)
.fail))
.fail)
def S.ring_Ack (a0_0 : Int) (a0_1 : Int) (a0_2 : List (Ty .mat)) (a1 : Int) : Option S.ring_Ack_T := (S.ring_Ack_R a0_0 a0_1 a0_2 a1).run
def S.ring_Ack_is (a0_0 : Int) (a0_1 : Int) (a0_2 : List (Ty .mat)) (a1 : Int) : Bool := (S.ring_Ack a0_0 a0_1 a0_2 a1).isSome
def S.ring_Ack_o (a0_0 : Int) (a0_1 : Int) (a0_2 : List (Ty .mat)) (a1 : Int) : S.ring_Ack_T := (S.ring_Ack a0_0 a0_1 a0_2 a1).getD default
def ret_ring_Ack (b : Bool) (r : S.ring_Ack_T) : Ret := ⟨b, none, [(true, [C.d (.sc (.int .i64 r.x0)), C.d (.sc (.int .i64 r.x1)), C.d (.sl none false ET.mat r.x2)]), (false, [C.d (.sc (.int .i64 r.x3))])]⟩
def g_ring_Ack : Con
  | [(true, [.sc (.int .i64 a0_0), .sc (.int .i64 a0_1), .sl a0_2n a0_2f .mat a0_2]), (false, [.sc (.int .i64 a1)])] => some (ret_ring_Ack (S.ring_Ack_is a0_0 a0_1 a0_2 a1) (S.ring_Ack_o a0_0 a0_1 a0_2 a1))
  | _ => none
theorem raw_ring_Ack (a0_0 : Int) (a0_1 : Int) (a0_2n : Option Bool) (a0_2f : Bool) (a0_2 : List (Ty .mat)) (a1 : Int) : evR2 cx_ring_Ack (hdI cx_ring_Ack (find []) [] none 0) none Try.f119 119 none [(true, [.sc (.int .i64 a0_0), .sc (.int .i64 a0_1), .sl a0_2n a0_2f .mat a0_2]), (false, [.sc (.int .i64 a1)])] some = (S.ring_Ack_R a0_0 a0_1 a0_2 a1).go (ret_ring_Ack true) := by kernel_rfl
theorem bs_ring_Ack : loopsIn Try.f119 [] = [] := by kernel_rfl
theorem ring_Ack_ok : Stands Try.prog tyTab 119 g_ring_Ack := by
  refine stands3 (L := find []) (n := 0) (hints := []) (cx_ok rfl) rdy_ring_Ack ⟨by kernel_rfl, by kernel_rfl, by kernel_rfl⟩ bs_ring_Ack nilB (fun das r hG hr => ?_)
  unfold g_ring_Ack at hG
  split at hG
  · rename_i a0_0 a0_1 a0_2n a0_2f a0_2 a1
    injection hG with hG; subst hG
    exact ⟨none, true, win default ((raw_ring_Ack a0_0 a0_1 a0_2n a0_2f a0_2 a1).trans (DT.go_run _ _)) hr⟩
  · cases hG
abbrev cx_ring_Next : Cx := mkCx2 tyTab [(104, g_ring_May), (134, g_ring_last), (138, g_ring_own)] [] [(109, 2, { keep := [], acc := [], frz := true })] []
theorem rdy_ring_Next : Ready Try.prog tyTab [(104, g_ring_May), (134, g_ring_last), (138, g_ring_own)] [] [] := ⟨consG2 ring_May_ok (consG2 ring_last_ok (consG2 ring_own_ok (noneG2))), noneI2, noneF2⟩
structure S.ring_Next_T where
  x0 : Int
  x1 : Int
  x2 : List (Ty .mat)
  x3 : Int
  x4 : Int
  x5 : Int
  x6 : Int
  x7 : Bool
  x8 : Bool
  deriving Inhabited
def S.ring_Next_R (a0_0 : Int) (a0_1 : Int) (a0_2 : List (Ty .mat)) : DT S.ring_Next_T :=
let y0 : S.ring_own_T := S.ring_own_o a0_0 a0_1 a0_2 0
let y1 : Nat := 0 + y0.x3
let y2 : List (Ty .mat) := y0.x0
let y3 : Nat := y2.length
let y4 : Bool := bif bif decide (y1 ≤ y3) then true else false then true else false
let y5 : Int := y0.x1
let y6 : Int := y0.x2
let y7 : List (Ty .mat) := sub y2 0 y1
let y8 : Int := xwrap IntKind.i64 (y6 + 1)
let y9 : Int := xwrap IntKind.i64 (xwrap IntKind.i64 (y8 - y5) - 1)
let y10 : Ty ET.mat := y7.getD y9.toNat (dflt ET.mat)
(.br (S.ring_own_is a0_0 a0_1 a0_2 0)
(.br (bif y4 then y4 else false)
(.br (S.ring_May_is y5 y6 y7)
(.br (xnot (S.ring_May_o y5 y6 y7).x0)
(.leaf ⟨y5, y6, y7, 0, 0, 0, 0, false, false⟩)
(.br (xeqI y6 (S.ring_last_o y5 y7).x0)
(.leaf ⟨y5, y6, y7, 0, 0, 0, 0, false, false⟩)
(.br (xdec (0 ≤ y9) && xdec (y9 < (↑y7.length : Int)))
(.leaf ⟨y5, y8, y7, y8, y10.start, y10.fin, y10.agg, y10.bad, true⟩)
.fail)))
.fail)
.fail)
.fail)
def S.ring_Next (a0_0 : Int) (a0_1 : Int) (a0_2 : List (Ty .mat)) : Option S.ring_Next_T := (S.ring_Next_R a0_0 a0_1 a0_2).run
def S.ring_Next_is (a0_0 : Int) (a0_1 : Int) (a0_2 : List (Ty .mat)) : Bool := (S.ring_Next a0_0 a0_1 a0_2).isSome
def S.ring_Next_o (a0_0 : Int) (a0_1 : Int) (a0_2 : List (Ty .mat)) : S.ring_Next_T := (S.ring_Next a0_0 a0_1 a0_2).getD default
def ret_ring_Next (b : Bool) (r : S.ring_Next_T) : Ret := ⟨b, none, [(true, [C.d (.sc (.int .i64 r.x0)), C.d (.sc (.int .i64 r.x1)), C.d (.sl none false ET.mat r.x2)]), (false, [C.d (.sc (.int .i64 r.x3))]),
  (true, [C.d (.sc (.int .i64 r.x4)), C.d (.sc (.int .i64 r.x5)), C.d (.sc (.int .i64 r.x6)), C.d (.sc (.bool r.x7))]),
  (false, [C.d (.sc (.bool r.x8))])]⟩
def g_ring_Next : Con
  | [(true, [.sc (.int .i64 a0_0), .sc (.int .i64 a0_1), .sl a0_2n a0_2f .mat a0_2])] => some (ret_ring_Next (S.ring_Next_is a0_0 a0_1 a0_2) (S.ring_Next_o a0_0 a0_1 a0_2))
  | _ => none
theorem raw_ring_Next (a0_0 : Int) (a0_1 : Int) (a0_2n : Option Bool) (a0_2f : Bool) (a0_2 : List (Ty .mat)) : evR2 cx_ring_Next (hdI cx_ring_Next (find []) [] none 0) none Try.f109 109 none [(true, [.sc (.int .i64 a0_0), .sc (.int .i64 a0_1), .sl a0_2n a0_2f .mat a0_2])] some = (S.ring_Next_R a0_0 a0_1 a0_2).go (ret_ring_Next true) := by kernel_rfl
theorem bs_ring_Next : loopsIn Try.f109 [] = [] := by kernel_rfl
theorem ring_Next_ok : Stands Try.prog tyTab 109 g_ring_Next := by
  refine stands3 (L := find []) (n := 0) (hints := [(109, 2, { keep := [], acc := [], frz := true })]) (cx_ok rfl) rdy_ring_Next ⟨by kernel_rfl, by kernel_rfl, by kernel_rfl⟩ bs_ring_Next nilB (fun das r hG hr => ?_)
  unfold g_ring_Next at hG
  split at hG
  · rename_i a0_0 a0_1 a0_2n a0_2f a0_2
    injection hG with hG; subst hG
    exact ⟨none, true, win default ((raw_ring_Next a0_0 a0_1 a0_2n a0_2f a0_2).trans (DT.go_run _ _)) hr⟩
  · cases hG
abbrev cx_ring_Add : Cx := mkCx2 tyTab [(104, g_ring_May), (134, g_ring_last), (138, g_ring_own)] [] [(136, 2, { keep := [], acc := [], frz := true })] []
theorem rdy_ring_Add : Ready Try.prog tyTab [(104, g_ring_May), (134, g_ring_last), (138, g_ring_own)] [] [] := ⟨consG2 ring_May_ok (consG2 ring_last_ok (consG2 ring_own_ok (noneG2))), noneI2, noneF2⟩
structure S.ring_Add_T where
  x0 : Int
  x1 : Int
  x2 : List (Ty .mat)
  x3 : Bool
  deriving Inhabited
def S.ring_Add_R (a0_0 : Int) (a0_1 : Int) (a0_2 : List (Ty .mat)) (a1_0 : Int) (a1_1 : Int) (a1_2 : Int) (a1_3 : Bool) : DT S.ring_Add_T :=
let y0 : S.ring_own_T := S.ring_own_o a0_0 a0_1 a0_2 0
let y1 : Nat := 0 + y0.x3
let y2 : List (Ty .mat) := y0.x0
let y3 : Nat := y2.length
let y4 : Bool := bif bif decide (y1 ≤ y3) then true else false then true else false
let y5 : Int := y0.x1
let y6 : Int := y0.x2
let y7 : List (Ty .mat) := sub y2 0 y1
let y8 : Nat := y7.length
let y9 : Mat := { start := a1_0, fin := a1_1, agg := a1_2, bad := a1_3 : Mat }
let y10 : Nat := y8 + 1
let y11 : Nat := 0 + y10
let y12 : List (Ty .mat) := y7 ++ [y9]
(.br (S.ring_own_is a0_0 a0_1 a0_2 0)
(.br (bif y4 then y4 else false)
(.br (S.ring_May_is y5 y6 y7)
(.br (xnot (S.ring_May_o y5 y6 y7).x0)
(.leaf ⟨y5, y6, y7, false⟩)
(.br (xeqI (↑y8 : Int) 6)
(.leaf ⟨y5, y6, y7, false⟩)
(.br (xeqI (S.ring_last_o y5 y7).x0 1099511627776)
(.leaf ⟨y5, y6, y7, false⟩)
(.br (xdec (0 + 1 ≤ ((List.replicate 1 (dflt ET.mat)).set 0 y9).length) && true && (y7.isEmpty || xdec (0 < 1)) && xdec (y10 ≤ 1048576))
(.br (xdec (y11 ≤ y12.length) && true && true && true)
(.leaf ⟨y5, y6, sub y12 0 y11, true⟩)
.fail)
.fail))))
.fail)
.fail)
.fail)
def S.ring_Add (a0_0 : Int) (a0_1 : Int) (a0_2 : List (Ty .mat)) (a1_0 : Int) (a1_1 : Int) (a1_2 : Int) (a1_3 : Bool) : Option S.ring_Add_T := (S.ring_Add_R a0_0 a0_1 a0_2 a1_0 a1_1 a1_2 a1_3).run
def S.ring_Add_is (a0_0 : Int) (a0_1 : Int) (a0_2 : List (Ty .mat)) (a1_0 : Int) (a1_1 : Int) (a1_2 : Int) (a1_3 : Bool) : Bool := (S.ring_Add a0_0 a0_1 a0_2 a1_0 a1_1 a1_2 a1_3).isSome
def S.ring_Add_o (a0_0 : Int) (a0_1 : Int) (a0_2 : List (Ty .mat)) (a1_0 : Int) (a1_1 : Int) (a1_2 : Int) (a1_3 : Bool) : S.ring_Add_T := (S.ring_Add a0_0 a0_1 a0_2 a1_0 a1_1 a1_2 a1_3).getD default
def ret_ring_Add (b : Bool) (r : S.ring_Add_T) : Ret := ⟨b, none, [(true, [C.d (.sc (.int .i64 r.x0)), C.d (.sc (.int .i64 r.x1)), C.d (.sl none false ET.mat r.x2)]), (false, [C.d (.sc (.bool r.x3))])]⟩
def g_ring_Add : Con
  | [(true, [.sc (.int .i64 a0_0), .sc (.int .i64 a0_1), .sl a0_2n a0_2f .mat a0_2]), (true, [.sc (.int .i64 a1_0), .sc (.int .i64 a1_1), .sc (.int .i64 a1_2), .sc (.bool a1_3)])] => some (ret_ring_Add (S.ring_Add_is a0_0 a0_1 a0_2 a1_0 a1_1 a1_2 a1_3) (S.ring_Add_o a0_0 a0_1 a0_2 a1_0 a1_1 a1_2 a1_3))
  | _ => none
theorem raw_ring_Add (a0_0 : Int) (a0_1 : Int) (a0_2n : Option Bool) (a0_2f : Bool) (a0_2 : List (Ty .mat)) (a1_0 : Int) (a1_1 : Int) (a1_2 : Int) (a1_3 : Bool) : evR2 cx_ring_Add (hdI cx_ring_Add (find []) [] none 0) none Try.f136 136 none [(true, [.sc (.int .i64 a0_0), .sc (.int .i64 a0_1), .sl a0_2n a0_2f .mat a0_2]), (true, [.sc (.int .i64 a1_0), .sc (.int .i64 a1_1), .sc (.int .i64 a1_2), .sc (.bool a1_3)])] some = (S.ring_Add_R a0_0 a0_1 a0_2 a1_0 a1_1 a1_2 a1_3).go (ret_ring_Add true) := by kernel_rfl
theorem bs_ring_Add : loopsIn Try.f136 [] = [] := by kernel_rfl
theorem ring_Add_ok : Stands Try.prog tyTab 136 g_ring_Add := by
  refine stands3 (L := find []) (n := 0) (hints := [(136, 2, { keep := [], acc := [], frz := true })]) (cx_ok rfl) rdy_ring_Add ⟨by kernel_rfl, by kernel_rfl, by kernel_rfl⟩ bs_ring_Add nilB (fun das r hG hr => ?_)
  unfold g_ring_Add at hG
  split at hG
  · rename_i a0_0 a0_1 a0_2n a0_2f a0_2 a1_0 a1_1 a1_2 a1_3
    injection hG with hG; subst hG
    exact ⟨none, true, win default ((raw_ring_Add a0_0 a0_1 a0_2n a0_2f a0_2 a1_0 a1_1 a1_2 a1_3).trans (DT.go_run _ _)) hr⟩
  · cases hG
abbrev cx_slices_Equal_Match : Cx := mkCx2 tyTab [] [] [(137, 4, { keep := [0, 1, 12, 13], acc := [] })] []
theorem rdy_slices_Equal_Match : Ready Try.prog tyTab [] [] [] := ⟨noneG2, noneI2, noneF2⟩
structure S.slices_Equal_Match_4_V where
  t_13_0 : Int
def S.slices_Equal_Match_4_R (qA : List (Ty .mat)) (qB : List (Ty .mat)) (qC : Int) (v : S.slices_Equal_Match_4_V) : DT (Option Nat × S.slices_Equal_Match_4_V) :=
let y0 : Bool := xdec (0 ≤ v.t_13_0)
let y1 : Ty ET.mat := qA.getD v.t_13_0.toNat (dflt ET.mat)
let y2 : Ty ET.mat := qB.getD v.t_13_0.toNat (dflt ET.mat)
(.br (xdec (v.t_13_0 < qC))
(.br (y0 && xdec (v.t_13_0 < (↑qA.length : Int)))
(.br (y0 && xdec (v.t_13_0 < (↑qB.length : Int)))
(.br (bif xeqI y1.start y2.start && (xeqI y1.fin y2.fin && (xeqI y1.agg y2.agg && xeqB y1.bad y2.bad)) then false else true)
(.leaf (some 0, v))
(.leaf (none, ⟨xwrap IntKind.i64 (v.t_13_0 + 1)⟩)))
.fail)
.fail)
(.leaf (some 1, v)))
def S.slices_Equal_Match_4_r (qA : List (Ty .mat)) (qB : List (Ty .mat)) (qC : Int) (v : S.slices_Equal_Match_4_V) : Option (Option Nat × S.slices_Equal_Match_4_V) := (S.slices_Equal_Match_4_R qA qB qC v).run
def S.slices_Equal_Match_4_j (qA : List (Ty .mat)) (qB : List (Ty .mat)) (qC : Int) (v : S.slices_Equal_Match_4_V) (j : Nat) : Bool := Lp_j (S.slices_Equal_Match_4_r qA qB qC) v j
def S.slices_Equal_Match_4_v (qA : List (Ty .mat)) (qB : List (Ty .mat)) (qC : Int) (v : S.slices_Equal_Match_4_V) : S.slices_Equal_Match_4_V := Lp_v (S.slices_Equal_Match_4_r qA qB qC) v
def mk_slices_Equal_Match_4 (qD : Option Bool) (qE : Bool) (qA : List (Ty .mat)) (qF : Option Bool) (qG : Bool) (qB : List (Ty .mat)) (qC : Int) (v : S.slices_Equal_Match_4_V) : St := ⟨[V.v false [C.d (.sl qD qE ET.mat qA)], V.v false [C.d (.sl qF qG ET.mat qB)], V.any, V.any, V.any, V.any, V.any, V.any, V.any, V.any, V.any, V.any,
  V.v false [C.d (.sc (.int .i64 qC))], V.v false [C.d (.sc (.int .i64 v.t_13_0))], V.any, V.any, V.any, V.any, V.any, V.any, V.any, V.any, V.any, V.any,
  V.any, V.any], [none, none, none, none, none, none, none, none, none], 0⟩
def ex_slices_Equal_Match_4 (qD : Option Bool) (qE : Bool) (qA : List (Ty .mat)) (qF : Option Bool) (qG : Bool) (qB : List (Ty .mat)) (qC : Int) (j : Nat) (v : S.slices_Equal_Match_4_V) : Ex × St := match j with
  | 0 => (Ex.ret, ⟨[V.any, V.any, V.any, V.any, V.v false [C.d (.sc (.bool false))], V.any, V.any, V.any, V.any, V.any, V.any, V.any, V.any, V.any, V.any, V.any, V.any, V.any, V.any, V.any, V.any,
  V.any, V.any, V.any, V.any, V.any], [none, none, none, none, none, none, none, none, none, none, none, none, none, none, none, none, none, none, none, none, none, none], 0⟩)
  | 1 => (Ex.exit 0, ⟨[V.any, V.any, V.any, V.any, V.any, V.any, V.any, V.any, V.any, V.any, V.any, V.any, V.any, V.any, V.any, V.any, V.any, V.any, V.any, V.any, V.any, V.any, V.any, V.any, V.any,
  V.any], [none, none, none, none, none, none, none, none, none, none], 0⟩)
  | _ => (.ret, ⟨[], [], 0⟩)
def T1_slices_Equal_Match_4 : V → V → V → V → Tree
  | V.v false [C.d (.sl qD qE ET.mat qA)], V.v false [C.d (.sl qF qG ET.mat qB)], V.v false [C.d (.sc (.int .i64 qC))], V.v false [C.d (.sc (.int .i64 t_13_0))] => exT (fun j => ex_slices_Equal_Match_4 qD qE qA qF qG qB qC j (S.slices_Equal_Match_4_v qA qB qC ⟨t_13_0⟩)) (S.slices_Equal_Match_4_j qA qB qC ⟨t_13_0⟩) [0, 1]
  | _, _, _, _ => .bad
def T_slices_Equal_Match_4 (st : St) : Tree := bif okSt 26 9 0 [] st then T1_slices_Equal_Match_4 (st.env.getD 0 .any) (st.env.getD 1 .any) (st.env.getD 12 .any) (st.env.getD 13 .any) else .bad
def b_slices_Equal_Match_4 : Code := loopBy Try.f137 4
theorem rnd_slices_Equal_Match_4 (qD : Option Bool) (qE : Bool) (qA : List (Ty .mat)) (qF : Option Bool) (qG : Bool) (qB : List (Ty .mat)) (qC : Int) (v : S.slices_Equal_Match_4_V) : round2 cx_slices_Equal_Match (hdI cx_slices_Equal_Match (find []) [] none 0) 137 b_slices_Equal_Match_4 [] 9 [4] (mk_slices_Equal_Match_4 qD qE qA qF qG qB qC v) = (S.slices_Equal_Match_4_R qA qB qC v).go (roundOut (mk_slices_Equal_Match_4 qD qE qA qF qG qB qC) (ex_slices_Equal_Match_4 qD qE qA qF qG qB qC)) := by kernel_rfl
theorem bs_slices_Equal_Match_4 : loopsOf b_slices_Equal_Match_4 ++ loopsInl [] = [] := by kernel_rfl
theorem ci_slices_Equal_Match_4 (qD : Option Bool) (qE : Bool) (qA : List (Ty .mat)) (qF : Option Bool) (qG : Bool) (qB : List (Ty .mat)) (qC : Int) : ∀ v j v2, Lp (S.slices_Equal_Match_4_r qA qB qC) v = some (j, v2) → Circles Try.prog cx_slices_Equal_Match b_slices_Equal_Match_4 (mk_slices_Equal_Match_4 qD qE qA qF qG qB qC v) (ex_slices_Equal_Match_4 qD qE qA qF qG qB qC j v2).1 (ex_slices_Equal_Match_4 qD qE qA qF qG qB qC j v2).2 :=
  loop_ok2 (L := find []) (n := 0) (hints := [(137, 4, { keep := [0, 1, 12, 13], acc := [] })]) (cx_ok rfl) rdy_slices_Equal_Match bs_slices_Equal_Match_4 nilB (fun v => (rnd_slices_Equal_Match_4 qD qE qA qF qG qB qC v).trans (DT.go_run _ _)) (by intro j v; unfold ex_slices_Equal_Match_4; split <;> rfl)
theorem mke_slices_Equal_Match_4 (qD : Option Bool) (qE : Bool) (qA : List (Ty .mat)) (qF : Option Bool) (qG : Bool) (qB : List (Ty .mat)) (qC : Int) (v : S.slices_Equal_Match_4_V) : mk_slices_Equal_Match_4 qD qE qA qF qG qB qC v = ⟨envOf 26 [(0, V.v false [C.d (.sl qD qE ET.mat qA)]), (1, V.v false [C.d (.sl qF qG ET.mat qB)]), (12, V.v false [C.d (.sc (.int .i64 qC))]), (13, V.v false [C.d (.sc (.int .i64 v.t_13_0))])], heapOf 9 [], 0⟩ := by kernel_rfl
theorem lo1_slices_Equal_Match_4 (e0 : V) (e1 : V) (e12 : V) (e13 : V)  e st2 (h : (T1_slices_Equal_Match_4 e0 e1 e12 e13).eval = some (e, st2)) : Circles Try.prog cx_slices_Equal_Match b_slices_Equal_Match_4 ⟨envOf 26 [(0, e0), (1, e1), (12, e12), (13, e13)], heapOf 9 [], 0⟩ e st2 := by
  unfold T1_slices_Equal_Match_4 at h
  split at h
  · have := loop_tree (mk := mk_slices_Equal_Match_4 _ _ _ _ _ _ _) (ci_slices_Equal_Match_4 _ _ _ _ _ _ _) _ _ e st2 h
    rw [mke_slices_Equal_Match_4] at this
    exact this
  · cases h
theorem lok_slices_Equal_Match_4 : LoopOk Try.prog cx_slices_Equal_Match b_slices_Equal_Match_4 T_slices_Equal_Match_4 := by
  intro st e st2 h
  unfold T_slices_Equal_Match_4 at h
  cases hk : okSt 26 9 0 [] st with
  | false => rw [hk] at h; cases h
  | true =>
    rw [hk] at h
    exact circles_keep (ks := [0, 1, 12, 13]) hk (lo1_slices_Equal_Match_4 _ _ _ _ e st2 h)
structure S.slices_Equal_Match_T where
  x0 : Bool
  deriving Inhabited
def S.slices_Equal_Match_R (a0 : List (Ty .mat)) (a1 : List (Ty .mat)) : DT S.slices_Equal_Match_T :=
let y0 : Int := (↑a0.length : Int)
let y1 : S.slices_Equal_Match_4_V := { t_13_0 := 0 : S.slices_Equal_Match_4_V }
(.br (xneI y0 (↑a1.length : Int))
(.leaf ⟨false⟩)
(.br (S.slices_Equal_Match_4_j a0 a1 y0 y1 0)
(.leaf ⟨false⟩)
(.br (S.slices_Equal_Match_4_j a0 a1 y0 y1 1)
(.leaf ⟨true⟩)
.fail)))
def S.slices_Equal_Match (a0 : List (Ty .mat)) (a1 : List (Ty .mat)) : Option S.slices_Equal_Match_T := (S.slices_Equal_Match_R a0 a1).run
def S.slices_Equal_Match_is (a0 : List (Ty .mat)) (a1 : List (Ty .mat)) : Bool := (S.slices_Equal_Match a0 a1).isSome
def S.slices_Equal_Match_o (a0 : List (Ty .mat)) (a1 : List (Ty .mat)) : S.slices_Equal_Match_T := (S.slices_Equal_Match a0 a1).getD default
def ret_slices_Equal_Match (b : Bool) (r : S.slices_Equal_Match_T) : Ret := ⟨b, none, [(false, [C.d (.sc (.bool r.x0))])]⟩
def g_slices_Equal_Match : Con
  | [(false, [.sl a0n a0f .mat a0]), (false, [.sl a1n a1f .mat a1])] => some (ret_slices_Equal_Match (S.slices_Equal_Match_is a0 a1) (S.slices_Equal_Match_o a0 a1))
  | _ => none
theorem raw_slices_Equal_Match (a0n : Option Bool) (a0f : Bool) (a0 : List (Ty .mat)) (a1n : Option Bool) (a1f : Bool) (a1 : List (Ty .mat)) : evR2 cx_slices_Equal_Match (hdI cx_slices_Equal_Match (find [(4, T_slices_Equal_Match_4)]) [] none 0) none Try.f137 137 none [(false, [.sl a0n a0f .mat a0]), (false, [.sl a1n a1f .mat a1])] some = (S.slices_Equal_Match_R a0 a1).go (ret_slices_Equal_Match true) := by kernel_rfl
theorem bs_slices_Equal_Match : loopsIn Try.f137 [] = [b_slices_Equal_Match_4] := by kernel_rfl
theorem slices_Equal_Match_ok : Stands Try.prog tyTab 137 g_slices_Equal_Match := by
  refine stands3 (L := find [(4, T_slices_Equal_Match_4)]) (n := 0) (hints := [(137, 4, { keep := [0, 1, 12, 13], acc := [] })]) (cx_ok rfl) rdy_slices_Equal_Match ⟨by kernel_rfl, by kernel_rfl, by kernel_rfl⟩ bs_slices_Equal_Match (consB (fun T h => by have e : T_slices_Equal_Match_4 = T := Option.some.inj (show some T_slices_Equal_Match_4 = some T from h); exact e ▸ lok_slices_Equal_Match_4) nilB) (fun das r hG hr => ?_)
  unfold g_slices_Equal_Match at hG
  split at hG
  · rename_i a0n a0f a0 a1n a1f a1
    injection hG with hG; subst hG
    exact ⟨none, true, win default ((raw_slices_Equal_Match a0n a0f a0 a1n a1f a1).trans (DT.go_run _ _)) hr⟩
  · cases hG
abbrev cx_ring_Same : Cx := mkCx2 tyTab [(137, g_slices_Equal_Match)] [] [] []
theorem rdy_ring_Same : Ready Try.prog tyTab [(137, g_slices_Equal_Match)] [] [] := ⟨consG2 slices_Equal_Match_ok (noneG2), noneI2, noneF2⟩
structure S.ring_Same_T where
  x0 : Bool
  deriving Inhabited
def S.ring_Same_R (a0_0 : Int) (a0_1 : Int) (a0_2 : List (Ty .mat)) (a1_0 : Int) (a1_1 : Int) (a1_2 : List (Ty .mat)) : DT S.ring_Same_T :=
(.br (xeqI a0_0 a1_0)
(.br (xeqI a0_1 a1_1)
(.br (S.slices_Equal_Match_is a0_2 a1_2)
(.leaf ⟨(S.slices_Equal_Match_o a0_2 a1_2).x0⟩)
.fail)
(.leaf ⟨false⟩))
(.leaf ⟨false⟩))
def S.ring_Same (a0_0 : Int) (a0_1 : Int) (a0_2 : List (Ty .mat)) (a1_0 : Int) (a1_1 : Int) (a1_2 : List (Ty .mat)) : Option S.ring_Same_T := (S.ring_Same_R a0_0 a0_1 a0_2 a1_0 a1_1 a1_2).run
def S.ring_Same_is (a0_0 : Int) (a0_1 : Int) (a0_2 : List (Ty .mat)) (a1_0 : Int) (a1_1 : Int) (a1_2 : List (Ty .mat)) : Bool := (S.ring_Same a0_0 a0_1 a0_2 a1_0 a1_1 a1_2).isSome
def S.ring_Same_o (a0_0 : Int) (a0_1 : Int) (a0_2 : List (Ty .mat)) (a1_0 : Int) (a1_1 : Int) (a1_2 : List (Ty .mat)) : S.ring_Same_T := (S.ring_Same a0_0 a0_1 a0_2 a1_0 a1_1 a1_2).getD default
def ret_ring_Same (b : Bool) (r : S.ring_Same_T) : Ret := ⟨b, none, [(false, [C.d (.sc (.bool r.x0))])]⟩
def g_ring_Same : Con
  | [(true, [.sc (.int .i64 a0_0), .sc (.int .i64 a0_1), .sl a0_2n a0_2f .mat a0_2]), (true, [.sc (.int .i64 a1_0), .sc (.int .i64 a1_1), .sl a1_2n a1_2f .mat a1_2])] => some (ret_ring_Same (S.ring_Same_is a0_0 a0_1 a0_2 a1_0 a1_1 a1_2) (S.ring_Same_o a0_0 a0_1 a0_2 a1_0 a1_1 a1_2))
  | _ => none
theorem raw_ring_Same (a0_0 : Int) (a0_1 : Int) (a0_2n : Option Bool) (a0_2f : Bool) (a0_2 : List (Ty .mat)) (a1_0 : Int) (a1_1 : Int) (a1_2n : Option Bool) (a1_2f : Bool) (a1_2 : List (Ty .mat)) : evR2 cx_ring_Same (hdI cx_ring_Same (find []) [] none 0) none Try.f108 108 none [(true, [.sc (.int .i64 a0_0), .sc (.int .i64 a0_1), .sl a0_2n a0_2f .mat a0_2]), (true, [.sc (.int .i64 a1_0), .sc (.int .i64 a1_1), .sl a1_2n a1_2f .mat a1_2])] some = (S.ring_Same_R a0_0 a0_1 a0_2 a1_0 a1_1 a1_2).go (ret_ring_Same true) := by kernel_rfl
theorem bs_ring_Same : loopsIn Try.f108 [] = [] := by kernel_rfl
theorem ring_Same_ok : Stands Try.prog tyTab 108 g_ring_Same := by
  refine stands3 (L := find []) (n := 0) (hints := []) (cx_ok rfl) rdy_ring_Same ⟨by kernel_rfl, by kernel_rfl, by kernel_rfl⟩ bs_ring_Same nilB (fun das r hG hr => ?_)
  unfold g_ring_Same at hG
  split at hG
  · rename_i a0_0 a0_1 a0_2n a0_2f a0_2 a1_0 a1_1 a1_2n a1_2f a1_2
    injection hG with hG; subst hG
    exact ⟨none, true, win default ((raw_ring_Same a0_0 a0_1 a0_2n a0_2f a0_2 a1_0 a1_1 a1_2n a1_2f a1_2).trans (DT.go_run _ _)) hr⟩
  · cases hG
end
end Go.Eng
