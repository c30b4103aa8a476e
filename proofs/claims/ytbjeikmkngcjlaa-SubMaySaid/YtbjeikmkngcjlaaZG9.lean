/- Contracts, laid by program. -/
import Derived.Test.YtbjeikmkngcjlaaZG8
set_option maxHeartbeats 2000000
set_option maxRecDepth 10000
set_option linter.unusedVariables false
set_option linter.unusedSimpArgs false
namespace Go.Eng
noncomputable section
open Go Go.Eng Go.Proofs Go.Eng.Tab
abbrev cx_Clone_mat_nil : Cx := mkCx2 tyTab [] [] [] []
theorem rdy_Clone_mat_nil : Ready Try.prog tyTab [] [] [] := ⟨noneG2, noneI2, noneF2⟩
structure S.Clone_mat_nil_T where
  x0 : List (Ty .mat)
  x1 : Nat
  deriving Inhabited
def S.Clone_mat_nil_R  : DT S.Clone_mat_nil_T :=
(.leaf ⟨[], 0⟩)
def S.Clone_mat_nil  : Option S.Clone_mat_nil_T := (S.Clone_mat_nil_R ).run
def S.Clone_mat_nil_is  : Bool := (S.Clone_mat_nil ).isSome
def S.Clone_mat_nil_o  : S.Clone_mat_nil_T := (S.Clone_mat_nil ).getD default
def ret_Clone_mat_nil (b : Bool) (r : S.Clone_mat_nil_T) : Ret := ⟨b, some (81, (⟨ET.mat, r.x0⟩ : (t : ET) × List (Ty t))), [(false, [C.own 4 ET.mat false 0 r.x1])]⟩
def g_Clone_mat_nil : Con
  | [(false, [.sl (some true) true .mat []])] => some (ret_Clone_mat_nil (S.Clone_mat_nil_is ) (S.Clone_mat_nil_o ))
  | _ => none
theorem raw_Clone_mat_nil  : evR2 cx_Clone_mat_nil (hdI cx_Clone_mat_nil (find []) [] none 0) none Try.f135 135 (some 81) [(false, [.sl (some true) true .mat []])] some = (S.Clone_mat_nil_R ).go (ret_Clone_mat_nil true) := by kernel_rfl
theorem bs_Clone_mat_nil : loopsIn Try.f135 [] = [] := by kernel_rfl
theorem Clone_mat_nil_ok : Stands Try.prog tyTab 135 g_Clone_mat_nil := by
  refine stands3 (L := find []) (n := 0) (hints := []) (cx_ok rfl) rdy_Clone_mat_nil ⟨by kernel_rfl, by kernel_rfl, by kernel_rfl⟩ bs_Clone_mat_nil nilB (fun das r hG hr => ?_)
  unfold g_Clone_mat_nil at hG
  split at hG
  · injection hG with hG; subst hG
    exact ⟨(some 81), true, win default ((raw_Clone_mat_nil ).trans (DT.go_run _ _)) hr⟩
  · cases hG
abbrev cx_Clone_mat_nn : Cx := mkCx2 tyTab [] [] [] []
theorem rdy_Clone_mat_nn : Ready Try.prog tyTab [] [] [] := ⟨noneG2, noneI2, noneF2⟩
structure S.Clone_mat_nn_T where
  x0 : List (Ty .mat)
  x1 : Nat
  deriving Inhabited
def S.Clone_mat_nn_R (a0 : List (Ty .mat)) : DT S.Clone_mat_nn_T :=
let y0 : Nat := 0 + a0.length
(.br (xdec (0 ≤ (List.replicate 0 (dflt ET.mat)).length) && xdec (y0 ≤ 1048576))
(.leaf ⟨List.take 0 [] ++ a0, y0⟩)
.fail)
def S.Clone_mat_nn (a0 : List (Ty .mat)) : Option S.Clone_mat_nn_T := (S.Clone_mat_nn_R a0).run
def S.Clone_mat_nn_is (a0 : List (Ty .mat)) : Bool := (S.Clone_mat_nn a0).isSome
def S.Clone_mat_nn_o (a0 : List (Ty .mat)) : S.Clone_mat_nn_T := (S.Clone_mat_nn a0).getD default
def ret_Clone_mat_nn (b : Bool) (r : S.Clone_mat_nn_T) : Ret := ⟨b, some (81, (⟨ET.mat, r.x0⟩ : (t : ET) × List (Ty t))), [(false, [C.own 5 ET.mat false 0 r.x1])]⟩
def g_Clone_mat_nn : Con
  | [(false, [.sl (some false) false .mat a0])] => some (ret_Clone_mat_nn (S.Clone_mat_nn_is a0) (S.Clone_mat_nn_o a0))
  | _ => none
theorem raw_Clone_mat_nn (a0 : List (Ty .mat)) : evR2 cx_Clone_mat_nn (hdI cx_Clone_mat_nn (find []) [] none 0) none Try.f135 135 (some 81) [(false, [.sl (some false) false .mat a0])] some = (S.Clone_mat_nn_R a0).go (ret_Clone_mat_nn true) := by kernel_rfl
theorem bs_Clone_mat_nn : loopsIn Try.f135 [] = [] := by kernel_rfl
theorem Clone_mat_nn_ok : Stands Try.prog tyTab 135 g_Clone_mat_nn := by
  refine stands3 (L := find []) (n := 0) (hints := []) (cx_ok rfl) rdy_Clone_mat_nn ⟨by kernel_rfl, by kernel_rfl, by kernel_rfl⟩ bs_Clone_mat_nn nilB (fun das r hG hr => ?_)
  unfold g_Clone_mat_nn at hG
  split at hG
  · rename_i a0
    injection hG with hG; subst hG
    exact ⟨(some 81), true, win default ((raw_Clone_mat_nn a0).trans (DT.go_run _ _)) hr⟩
  · cases hG
def g_Clone_mat : Con := fun das => match das with | [(false, [.sl _ _ t2 l])] => if e : t2 = ET.mat then some (ret_Clone_mat_nn (S.Clone_mat_nn_is (e ▸ l)) (S.Clone_mat_nn_o (e ▸ l))) else none | _ => none
theorem Clone_mat_ok : Stands Try.prog tyTab 135 g_Clone_mat := nil_split (t := .mat) (r := fun l => ret_Clone_mat_nn (S.Clone_mat_nn_is l) (S.Clone_mat_nn_o l)) Clone_mat_nil_ok Clone_mat_nn_ok (r0 := ret_Clone_mat_nil true (S.Clone_mat_nil_o)) (by kernel_rfl) ⟨by kernel_rfl, by kernel_rfl, fun nm => by kernel_rfl⟩ (fun l => rfl)
abbrev cx_sub_May : Cx := mkCx2 tyTab [(57, g_match_May), (104, g_ring_May)] [] [] []
theorem rdy_sub_May : Ready Try.prog tyTab [(57, g_match_May), (104, g_ring_May)] [] [] := ⟨consG2 match_May_ok (consG2 ring_May_ok (noneG2)), noneI2, noneF2⟩
structure S.sub_May_T where
  x0 : Bool
  deriving Inhabited
def S.sub_May_R (a0_0 : Int) (a0_1 : Int) (a0_2 : List (Ty .step)) (a0_7 : List (Ty .run)) (a0_8 : Int) (a0_9 : Int) (a0_10 : Int) (a0_11 : List (Ty .mat)) (a0_13 : Int) (a0_14 : Bool) : DT S.sub_May_T :=
let y0 : Bool := xnot (xneI a0_8 (-1))
let y1 : Bool := xeqI (↑a0_7.length : Int) 0
let y2 : Bool := xeqI a0_10 (xwrap IntKind.i64 (a0_9 + (↑a0_11.length : Int)))
(.br (xdec (a0_0 < 0))
(.leaf ⟨false⟩)
(.br (xdec (a0_1 < 0))
(.leaf ⟨false⟩)
(.br (S.match_May_is a0_2 a0_7 a0_8)
(.br (xnot (S.match_May_o a0_2 a0_7 a0_8).x0)
(.leaf ⟨false⟩)
(.br (S.ring_May_is a0_9 a0_10 a0_11)
(.br (xnot (S.ring_May_o a0_9 a0_10 a0_11).x0)
(.leaf ⟨false⟩)
(.br (xeqI a0_13 0)
(.br (y0)
(.leaf ⟨xnot a0_14⟩)
(.leaf ⟨false⟩))
(.br (xeqI a0_13 1)
(.br (y0)
(.leaf ⟨false⟩)
(.br (y1)
(.br (xnot a0_14)
(.leaf ⟨true⟩)
(.leaf ⟨y2⟩))
(.leaf ⟨false⟩)))
(.br (xeqI a0_13 2)
(.br (y1)
(.br (xnot a0_14)
(.leaf ⟨true⟩)
(.leaf ⟨y2⟩))
(.leaf ⟨false⟩))
(.leaf ⟨false⟩)))))
.fail))
.fail)))
def S.sub_May (a0_0 : Int) (a0_1 : Int) (a0_2 : List (Ty .step)) (a0_7 : List (Ty .run)) (a0_8 : Int) (a0_9 : Int) (a0_10 : Int) (a0_11 : List (Ty .mat)) (a0_13 : Int) (a0_14 : Bool) : Option S.sub_May_T := (S.sub_May_R a0_0 a0_1 a0_2 a0_7 a0_8 a0_9 a0_10 a0_11 a0_13 a0_14).run
def S.sub_May_is (a0_0 : Int) (a0_1 : Int) (a0_2 : List (Ty .step)) (a0_7 : List (Ty .run)) (a0_8 : Int) (a0_9 : Int) (a0_10 : Int) (a0_11 : List (Ty .mat)) (a0_13 : Int) (a0_14 : Bool) : Bool := (S.sub_May a0_0 a0_1 a0_2 a0_7 a0_8 a0_9 a0_10 a0_11 a0_13 a0_14).isSome
def S.sub_May_o (a0_0 : Int) (a0_1 : Int) (a0_2 : List (Ty .step)) (a0_7 : List (Ty .run)) (a0_8 : Int) (a0_9 : Int) (a0_10 : Int) (a0_11 : List (Ty .mat)) (a0_13 : Int) (a0_14 : Bool) : S.sub_May_T := (S.sub_May a0_0 a0_1 a0_2 a0_7 a0_8 a0_9 a0_10 a0_11 a0_13 a0_14).getD default
def ret_sub_May (b : Bool) (r : S.sub_May_T) : Ret := ⟨b, none, [(false, [C.d (.sc (.bool r.x0))])]⟩
def g_sub_May : Con
  | [(true, [.sc (.int .i64 a0_0), .sc (.int .i64 a0_1), .sl a0_2n a0_2f .step a0_2, .sc (.int .i64 a0_3), .sc (.int .i64 a0_4), .sc (.int .i64 a0_5), .sc (.int .i64 a0_6), .sl a0_7n a0_7f .run a0_7, .sc (.int .i64 a0_8), .sc (.int .i64 a0_9), .sc (.int .i64 a0_10), .sl a0_11n a0_11f .mat a0_11, .sc (.bool a0_12), .sc (.int .i64 a0_13), .sc (.bool a0_14)])] => some (ret_sub_May (S.sub_May_is a0_0 a0_1 a0_2 a0_7 a0_8 a0_9 a0_10 a0_11 a0_13 a0_14) (S.sub_May_o a0_0 a0_1 a0_2 a0_7 a0_8 a0_9 a0_10 a0_11 a0_13 a0_14))
  | _ => none
theorem raw_sub_May (a0_0 : Int) (a0_1 : Int) (a0_2n : Option Bool) (a0_2f : Bool) (a0_2 : List (Ty .step)) (a0_3 : Int) (a0_4 : Int) (a0_5 : Int) (a0_6 : Int) (a0_7n : Option Bool) (a0_7f : Bool) (a0_7 : List (Ty .run)) (a0_8 : Int) (a0_9 : Int) (a0_10 : Int) (a0_11n : Option Bool) (a0_11f : Bool) (a0_11 : List (Ty .mat)) (a0_12 : Bool) (a0_13 : Int) (a0_14 : Bool) : evR2 cx_sub_May (hdI cx_sub_May (find []) [] none 0) none Try.f65 65 none [(true, [.sc (.int .i64 a0_0), .sc (.int .i64 a0_1), .sl a0_2n a0_2f .step a0_2, .sc (.int .i64 a0_3), .sc (.int .i64 a0_4), .sc (.int .i64 a0_5), .sc (.int .i64 a0_6), .sl a0_7n a0_7f .run a0_7, .sc (.int .i64 a0_8), .sc (.int .i64 a0_9), .sc (.int .i64 a0_10), .sl a0_11n a0_11f .mat a0_11, .sc (.bool a0_12), .sc (.int .i64 a0_13), .sc (.bool a0_14)])] some = (S.sub_May_R a0_0 a0_1 a0_2 a0_7 a0_8 a0_9 a0_10 a0_11 a0_13 a0_14).go (ret_sub_May true) := by kernel_rfl
theorem bs_sub_May : loopsIn Try.f65 [] = [] := by kernel_rfl
theorem sub_May_ok : Stands Try.prog tyTab 65 g_sub_May := by
  refine stands3 (L := find []) (n := 0) (hints := []) (cx_ok rfl) rdy_sub_May ⟨by kernel_rfl, by kernel_rfl, by kernel_rfl⟩ bs_sub_May nilB (fun das r hG hr => ?_)
  unfold g_sub_May at hG
  split at hG
  · rename_i a0_0 a0_1 a0_2n a0_2f a0_2 a0_3 a0_4 a0_5 a0_6 a0_7n a0_7f a0_7 a0_8 a0_9 a0_10 a0_11n a0_11f a0_11 a0_12 a0_13 a0_14
    injection hG with hG; subst hG
    exact ⟨none, true, win default ((raw_sub_May a0_0 a0_1 a0_2n a0_2f a0_2 a0_3 a0_4 a0_5 a0_6 a0_7n a0_7f a0_7 a0_8 a0_9 a0_10 a0_11n a0_11f a0_11 a0_12 a0_13 a0_14).trans (DT.go_run _ _)) hr⟩
  · cases hG
abbrev cx_sub_Same : Cx := mkCx2 tyTab [(98, g_match_Same), (108, g_ring_Same)] [] [] []
theorem rdy_sub_Same : Ready Try.prog tyTab [(98, g_match_Same), (108, g_ring_Same)] [] [] := ⟨consG2 match_Same_ok (consG2 ring_Same_ok (noneG2)), noneI2, noneF2⟩
structure S.sub_Same_T where
  x0 : Bool
  deriving Inhabited
def S.sub_Same_R (a0_0 : Int) (a0_1 : Int) (a0_2 : List (Ty .step)) (a0_3 : Int) (a0_4 : Int) (a0_5 : Int) (a0_6 : Int) (a0_7 : List (Ty .run)) (a0_8 : Int) (a0_9 : Int) (a0_10 : Int) (a0_11 : List (Ty .mat)) (a0_12 : Bool) (a0_13 : Int) (a0_14 : Bool) (a1_0 : Int) (a1_1 : Int) (a1_2 : List (Ty .step)) (a1_3 : Int) (a1_4 : Int) (a1_5 : Int) (a1_6 : Int) (a1_7 : List (Ty .run)) (a1_8 : Int) (a1_9 : Int) (a1_10 : Int) (a1_11 : List (Ty .mat)) (a1_12 : Bool) (a1_13 : Int) (a1_14 : Bool) : DT S.sub_Same_T :=
(.br (xeqI a0_0 a1_0)
(.br (xeqI a0_1 a1_1)
(.br (a0_12 == a1_12)
(.br (xeqI a0_13 a1_13)
(.br (a0_14 == a1_14)
(.br (S.match_Same_is a0_2 a0_3 a0_4 a0_5 a0_6 a0_7 a0_8 a1_2 a1_3 a1_4 a1_5 a1_6 a1_7 a1_8)
(.br ((S.match_Same_o a0_2 a0_3 a0_4 a0_5 a0_6 a0_7 a0_8 a1_2 a1_3 a1_4 a1_5 a1_6 a1_7 a1_8).x0)
(.br (S.ring_Same_is a0_9 a0_10 a0_11 a1_9 a1_10 a1_11)
(.leaf ⟨(S.ring_Same_o a0_9 a0_10 a0_11 a1_9 a1_10 a1_11).x0⟩)
.fail)
(.leaf ⟨false⟩))
.fail)
(.leaf ⟨false⟩))
(.leaf ⟨false⟩))
(.leaf ⟨false⟩))
(.leaf ⟨false⟩))
(.leaf ⟨false⟩))
def S.sub_Same (a0_0 : Int) (a0_1 : Int) (a0_2 : List (Ty .step)) (a0_3 : Int) (a0_4 : Int) (a0_5 : Int) (a0_6 : Int) (a0_7 : List (Ty .run)) (a0_8 : Int) (a0_9 : Int) (a0_10 : Int) (a0_11 : List (Ty .mat)) (a0_12 : Bool) (a0_13 : Int) (a0_14 : Bool) (a1_0 : Int) (a1_1 : Int) (a1_2 : List (Ty .step)) (a1_3 : Int) (a1_4 : Int) (a1_5 : Int) (a1_6 : Int) (a1_7 : List (Ty .run)) (a1_8 : Int) (a1_9 : Int) (a1_10 : Int) (a1_11 : List (Ty .mat)) (a1_12 : Bool) (a1_13 : Int) (a1_14 : Bool) : Option S.sub_Same_T := (S.sub_Same_R a0_0 a0_1 a0_2 a0_3 a0_4 a0_5 a0_6 a0_7 a0_8 a0_9 a0_10 a0_11 a0_12 a0_13 a0_14 a1_0 a1_1 a1_2 a1_3 a1_4 a1_5 a1_6 a1_7 a1_8 a1_9 a1_10 a1_11 a1_12 a1_13 a1_14).run
def S.sub_Same_is (a0_0 : Int) (a0_1 : Int) (a0_2 : List (Ty .step)) (a0_3 : Int) (a0_4 : Int) (a0_5 : Int) (a0_6 : Int) (a0_7 : List (Ty .run)) (a0_8 : Int) (a0_9 : Int) (a0_10 : Int) (a0_11 : List (Ty .mat)) (a0_12 : Bool) (a0_13 : Int) (a0_14 : Bool) (a1_0 : Int) (a1_1 : Int) (a1_2 : List (Ty .step)) (a1_3 : Int) (a1_4 : Int) (a1_5 : Int) (a1_6 : Int) (a1_7 : List (Ty .run)) (a1_8 : Int) (a1_9 : Int) (a1_10 : Int) (a1_11 : List (Ty .mat)) (a1_12 : Bool) (a1_13 : Int) (a1_14 : Bool) : Bool := (S.sub_Same a0_0 a0_1 a0_2 a0_3 a0_4 a0_5 a0_6 a0_7 a0_8 a0_9 a0_10 a0_11 a0_12 a0_13 a0_14 a1_0 a1_1 a1_2 a1_3 a1_4 a1_5 a1_6 a1_7 a1_8 a1_9 a1_10 a1_11 a1_12 a1_13 a1_14).isSome
def S.sub_Same_o (a0_0 : Int) (a0_1 : Int) (a0_2 : List (Ty .step)) (a0_3 : Int) (a0_4 : Int) (a0_5 : Int) (a0_6 : Int) (a0_7 : List (Ty .run)) (a0_8 : Int) (a0_9 : Int) (a0_10 : Int) (a0_11 : List (Ty .mat)) (a0_12 : Bool) (a0_13 : Int) (a0_14 : Bool) (a1_0 : Int) (a1_1 : Int) (a1_2 : List (Ty .step)) (a1_3 : Int) (a1_4 : Int) (a1_5 : Int) (a1_6 : Int) (a1_7 : List (Ty .run)) (a1_8 : Int) (a1_9 : Int) (a1_10 : Int) (a1_11 : List (Ty .mat)) (a1_12 : Bool) (a1_13 : Int) (a1_14 : Bool) : S.sub_Same_T := (S.sub_Same a0_0 a0_1 a0_2 a0_3 a0_4 a0_5 a0_6 a0_7 a0_8 a0_9 a0_10 a0_11 a0_12 a0_13 a0_14 a1_0 a1_1 a1_2 a1_3 a1_4 a1_5 a1_6 a1_7 a1_8 a1_9 a1_10 a1_11 a1_12 a1_13 a1_14).getD default
def ret_sub_Same (b : Bool) (r : S.sub_Same_T) : Ret := ⟨b, none, [(false, [C.d (.sc (.bool r.x0))])]⟩
def g_sub_Same : Con
  | [(true, [.sc (.int .i64 a0_0), .sc (.int .i64 a0_1), .sl a0_2n a0_2f .step a0_2, .sc (.int .i64 a0_3), .sc (.int .i64 a0_4), .sc (.int .i64 a0_5), .sc (.int .i64 a0_6), .sl a0_7n a0_7f .run a0_7, .sc (.int .i64 a0_8), .sc (.int .i64 a0_9), .sc (.int .i64 a0_10), .sl a0_11n a0_11f .mat a0_11, .sc (.bool a0_12), .sc (.int .i64 a0_13), .sc (.bool a0_14)]), (true, [.sc (.int .i64 a1_0), .sc (.int .i64 a1_1), .sl a1_2n a1_2f .step a1_2, .sc (.int .i64 a1_3), .sc (.int .i64 a1_4), .sc (.int .i64 a1_5), .sc (.int .i64 a1_6), .sl a1_7n a1_7f .run a1_7, .sc (.int .i64 a1_8), .sc (.int .i64 a1_9), .sc (.int .i64 a1_10), .sl a1_11n a1_11f .mat a1_11, .sc (.bool a1_12), .sc (.int .i64 a1_13), .sc (.bool a1_14)])] => some (ret_sub_Same (S.sub_Same_is a0_0 a0_1 a0_2 a0_3 a0_4 a0_5 a0_6 a0_7 a0_8 a0_9 a0_10 a0_11 a0_12 a0_13 a0_14 a1_0 a1_1 a1_2 a1_3 a1_4 a1_5 a1_6 a1_7 a1_8 a1_9 a1_10 a1_11 a1_12 a1_13 a1_14) (S.sub_Same_o a0_0 a0_1 a0_2 a0_3 a0_4 a0_5 a0_6 a0_7 a0_8 a0_9 a0_10 a0_11 a0_12 a0_13 a0_14 a1_0 a1_1 a1_2 a1_3 a1_4 a1_5 a1_6 a1_7 a1_8 a1_9 a1_10 a1_11 a1_12 a1_13 a1_14))
  | _ => none
theorem raw_sub_Same (a0_0 : Int) (a0_1 : Int) (a0_2n : Option Bool) (a0_2f : Bool) (a0_2 : List (Ty .step)) (a0_3 : Int) (a0_4 : Int) (a0_5 : Int) (a0_6 : Int) (a0_7n : Option Bool) (a0_7f : Bool) (a0_7 : List (Ty .run)) (a0_8 : Int) (a0_9 : Int) (a0_10 : Int) (a0_11n : Option Bool) (a0_11f : Bool) (a0_11 : List (Ty .mat)) (a0_12 : Bool) (a0_13 : Int) (a0_14 : Bool) (a1_0 : Int) (a1_1 : Int) (a1_2n : Option Bool) (a1_2f : Bool) (a1_2 : List (Ty .step)) (a1_3 : Int) (a1_4 : Int) (a1_5 : Int) (a1_6 : Int) (a1_7n : Option Bool) (a1_7f : Bool) (a1_7 : List (Ty .run)) (a1_8 : Int) (a1_9 : Int) (a1_10 : Int) (a1_11n : Option Bool) (a1_11f : Bool) (a1_11 : List (Ty .mat)) (a1_12 : Bool) (a1_13 : Int) (a1_14 : Bool) : evR2 cx_sub_Same (hdI cx_sub_Same (find []) [] none 0) none Try.f67 67 none [(true, [.sc (.int .i64 a0_0), .sc (.int .i64 a0_1), .sl a0_2n a0_2f .step a0_2, .sc (.int .i64 a0_3), .sc (.int .i64 a0_4), .sc (.int .i64 a0_5), .sc (.int .i64 a0_6), .sl a0_7n a0_7f .run a0_7, .sc (.int .i64 a0_8), .sc (.int .i64 a0_9), .sc (.int .i64 a0_10), .sl a0_11n a0_11f .mat a0_11, .sc (.bool a0_12), .sc (.int .i64 a0_13), .sc (.bool a0_14)]), (true, [.sc (.int .i64 a1_0), .sc (.int .i64 a1_1), .sl a1_2n a1_2f .step a1_2, .sc (.int .i64 a1_3), .sc (.int .i64 a1_4), .sc (.int .i64 a1_5), .sc (.int .i64 a1_6), .sl a1_7n a1_7f .run a1_7, .sc (.int .i64 a1_8), .sc (.int .i64 a1_9), .sc (.int .i64 a1_10), .sl a1_11n a1_11f .mat a1_11, .sc (.bool a1_12), .sc (.int .i64 a1_13), .sc (.bool a1_14)])] some = (S.sub_Same_R a0_0 a0_1 a0_2 a0_3 a0_4 a0_5 a0_6 a0_7 a0_8 a0_9 a0_10 a0_11 a0_12 a0_13 a0_14 a1_0 a1_1 a1_2 a1_3 a1_4 a1_5 a1_6 a1_7 a1_8 a1_9 a1_10 a1_11 a1_12 a1_13 a1_14).go (ret_sub_Same true) := by kernel_rfl
theorem bs_sub_Same : loopsIn Try.f67 [] = [] := by kernel_rfl
theorem sub_Same_ok : Stands Try.prog tyTab 67 g_sub_Same := by
  refine stands3 (L := find []) (n := 0) (hints := []) (cx_ok rfl) rdy_sub_Same ⟨by kernel_rfl, by kernel_rfl, by kernel_rfl⟩ bs_sub_Same nilB (fun das r hG hr => ?_)
  unfold g_sub_Same at hG
  split at hG
  · rename_i a0_0 a0_1 a0_2n a0_2f a0_2 a0_3 a0_4 a0_5 a0_6 a0_7n a0_7f a0_7 a0_8 a0_9 a0_10 a0_11n a0_11f a0_11 a0_12 a0_13 a0_14 a1_0 a1_1 a1_2n a1_2f a1_2 a1_3 a1_4 a1_5 a1_6 a1_7n a1_7f a1_7 a1_8 a1_9 a1_10 a1_11n a1_11f a1_11 a1_12 a1_13 a1_14
    injection hG with hG; subst hG
    exact ⟨none, true, win default ((raw_sub_Same a0_0 a0_1 a0_2n a0_2f a0_2 a0_3 a0_4 a0_5 a0_6 a0_7n a0_7f a0_7 a0_8 a0_9 a0_10 a0_11n a0_11f a0_11 a0_12 a0_13 a0_14 a1_0 a1_1 a1_2n a1_2f a1_2 a1_3 a1_4 a1_5 a1_6 a1_7n a1_7f a1_7 a1_8 a1_9 a1_10 a1_11n a1_11f a1_11 a1_12 a1_13 a1_14).trans (DT.go_run _ _)) hr⟩
  · cases hG
abbrev cx_law15_Few : Cx := mkCx2 tyTab [(56, g_law13_Few)] [] [] []
theorem rdy_law15_Few : Ready Try.prog tyTab [(56, g_law13_Few)] [] [] := ⟨consG2 law13_Few_ok (noneG2), noneI2, noneF2⟩
structure S.law15_Few_T where
  x0 : Bool
  deriving Inhabited
def S.law15_Few_R (a0_2 : List (Ty .step)) (a0_7 : List (Ty .run)) (a0_11 : List (Ty .mat)) : DT S.law15_Few_T :=
(.br (S.law13_Few_is a0_2 a0_7)
(.br ((S.law13_Few_o a0_2 a0_7).x0)
(.leaf ⟨xdec ((↑a0_11.length : Int) ≤ 20)⟩)
(.leaf ⟨false⟩))
.fail)
def S.law15_Few (a0_2 : List (Ty .step)) (a0_7 : List (Ty .run)) (a0_11 : List (Ty .mat)) : Option S.law15_Few_T := (S.law15_Few_R a0_2 a0_7 a0_11).run
def S.law15_Few_is (a0_2 : List (Ty .step)) (a0_7 : List (Ty .run)) (a0_11 : List (Ty .mat)) : Bool := (S.law15_Few a0_2 a0_7 a0_11).isSome
def S.law15_Few_o (a0_2 : List (Ty .step)) (a0_7 : List (Ty .run)) (a0_11 : List (Ty .mat)) : S.law15_Few_T := (S.law15_Few a0_2 a0_7 a0_11).getD default
def ret_law15_Few (b : Bool) (r : S.law15_Few_T) : Ret := ⟨b, none, [(false, [C.d (.sc (.bool r.x0))])]⟩
def g_law15_Few : Con
  | [(true, [.sc (.int .i64 a0_0), .sc (.int .i64 a0_1), .sl a0_2n a0_2f .step a0_2, .sc (.int .i64 a0_3), .sc (.int .i64 a0_4), .sc (.int .i64 a0_5), .sc (.int .i64 a0_6), .sl a0_7n a0_7f .run a0_7, .sc (.int .i64 a0_8), .sc (.int .i64 a0_9), .sc (.int .i64 a0_10), .sl a0_11n a0_11f .mat a0_11, .sc (.bool a0_12), .sc (.int .i64 a0_13), .sc (.bool a0_14)])] => some (ret_law15_Few (S.law15_Few_is a0_2 a0_7 a0_11) (S.law15_Few_o a0_2 a0_7 a0_11))
  | _ => none
theorem raw_law15_Few (a0_0 : Int) (a0_1 : Int) (a0_2n : Option Bool) (a0_2f : Bool) (a0_2 : List (Ty .step)) (a0_3 : Int) (a0_4 : Int) (a0_5 : Int) (a0_6 : Int) (a0_7n : Option Bool) (a0_7f : Bool) (a0_7 : List (Ty .run)) (a0_8 : Int) (a0_9 : Int) (a0_10 : Int) (a0_11n : Option Bool) (a0_11f : Bool) (a0_11 : List (Ty .mat)) (a0_12 : Bool) (a0_13 : Int) (a0_14 : Bool) : evR2 cx_law15_Few (hdI cx_law15_Few (find []) [] none 0) none Try.f64 64 none [(true, [.sc (.int .i64 a0_0), .sc (.int .i64 a0_1), .sl a0_2n a0_2f .step a0_2, .sc (.int .i64 a0_3), .sc (.int .i64 a0_4), .sc (.int .i64 a0_5), .sc (.int .i64 a0_6), .sl a0_7n a0_7f .run a0_7, .sc (.int .i64 a0_8), .sc (.int .i64 a0_9), .sc (.int .i64 a0_10), .sl a0_11n a0_11f .mat a0_11, .sc (.bool a0_12), .sc (.int .i64 a0_13), .sc (.bool a0_14)])] some = (S.law15_Few_R a0_2 a0_7 a0_11).go (ret_law15_Few true) := by kernel_rfl
theorem bs_law15_Few : loopsIn Try.f64 [] = [] := by kernel_rfl
theorem law15_Few_ok : Stands Try.prog tyTab 64 g_law15_Few := by
  refine stands3 (L := find []) (n := 0) (hints := []) (cx_ok rfl) rdy_law15_Few ⟨by kernel_rfl, by kernel_rfl, by kernel_rfl⟩ bs_law15_Few nilB (fun das r hG hr => ?_)
  unfold g_law15_Few at hG
  split at hG
  · rename_i a0_0 a0_1 a0_2n a0_2f a0_2 a0_3 a0_4 a0_5 a0_6 a0_7n a0_7f a0_7 a0_8 a0_9 a0_10 a0_11n a0_11f a0_11 a0_12 a0_13 a0_14
    injection hG with hG; subst hG
    exact ⟨none, true, win default ((raw_law15_Few a0_0 a0_1 a0_2n a0_2f a0_2 a0_3 a0_4 a0_5 a0_6 a0_7n a0_7f a0_7 a0_8 a0_9 a0_10 a0_11n a0_11f a0_11 a0_12 a0_13 a0_14).trans (DT.go_run _ _)) hr⟩
  · cases hG
abbrev cx_sub_New : Cx := mkCx2 tyTab [(61, g_match_New)] [] [] []
theorem rdy_sub_New : Ready Try.prog tyTab [(61, g_match_New)] [] [] := ⟨consG2 match_New_ok (noneG2), noneI2, noneF2⟩
structure S.sub_New_T where
  x0 : Int
  x1 : Int
  x2 : List (Ty .step)
  x3 : Int
  x4 : Int
  x5 : Int
  x6 : Int
  x7 : List (Ty .run)
  x8 : Int
  x9 : Int
  x10 : Int
  x11 : List (Ty .mat)
  x12 : Bool
  x13 : Int
  x14 : Bool
  deriving Inhabited
def S.sub_New_R (a0 : Int) (a1 : Int) (a2_0 : List (Ty .step)) (a2_1 : Int) (a2_2 : Int) (a2_3 : Int) (a2_4 : Int) : DT S.sub_New_T :=
let y0 : S.match_New_T := S.match_New_o a2_0 a2_1 a2_2 a2_3 a2_4
(.leaf ⟨a0, a1, y0.x0, y0.x1, y0.x2, y0.x3, y0.x4, y0.x5, y0.x6, 0, 0, [], false, 0, false⟩)
def S.sub_New (a0 : Int) (a1 : Int) (a2_0 : List (Ty .step)) (a2_1 : Int) (a2_2 : Int) (a2_3 : Int) (a2_4 : Int) : Option S.sub_New_T := (S.sub_New_R a0 a1 a2_0 a2_1 a2_2 a2_3 a2_4).run
def S.sub_New_is (a0 : Int) (a1 : Int) (a2_0 : List (Ty .step)) (a2_1 : Int) (a2_2 : Int) (a2_3 : Int) (a2_4 : Int) : Bool := (S.sub_New a0 a1 a2_0 a2_1 a2_2 a2_3 a2_4).isSome
def S.sub_New_o (a0 : Int) (a1 : Int) (a2_0 : List (Ty .step)) (a2_1 : Int) (a2_2 : Int) (a2_3 : Int) (a2_4 : Int) : S.sub_New_T := (S.sub_New a0 a1 a2_0 a2_1 a2_2 a2_3 a2_4).getD default
def ret_sub_New (b : Bool) (r : S.sub_New_T) : Ret := ⟨b, none, [(true,
    [C.d (.sc (.int .i64 r.x0)), C.d (.sc (.int .i64 r.x1)), C.d (.sl none false ET.step r.x2), C.d (.sc (.int .i64 r.x3)),
      C.d (.sc (.int .i64 r.x4)), C.d (.sc (.int .i64 r.x5)), C.d (.sc (.int .i64 r.x6)), C.d (.sl none false ET.run r.x7),
      C.d (.sc (.int .i64 r.x8)), C.d (.sc (.int .i64 r.x9)), C.d (.sc (.int .i64 r.x10)), C.d (.sl none false ET.mat r.x11),
      C.d (.sc (.bool r.x12)), C.d (.sc (.int .i64 r.x13)), C.d (.sc (.bool r.x14))])]⟩
def g_sub_New : Con
  | [(false, [.sc (.int .i64 a0)]), (false, [.sc (.int .i64 a1)]), (true, [.sl a2_0n a2_0f .step a2_0, .sc (.int .i64 a2_1), .sc (.int .i64 a2_2), .sc (.int .i64 a2_3), .sc (.int .i64 a2_4)])] => some (ret_sub_New (S.sub_New_is a0 a1 a2_0 a2_1 a2_2 a2_3 a2_4) (S.sub_New_o a0 a1 a2_0 a2_1 a2_2 a2_3 a2_4))
  | _ => none
theorem raw_sub_New (a0 : Int) (a1 : Int) (a2_0n : Option Bool) (a2_0f : Bool) (a2_0 : List (Ty .step)) (a2_1 : Int) (a2_2 : Int) (a2_3 : Int) (a2_4 : Int) : evR2 cx_sub_New (hdI cx_sub_New (find []) [] none 0) none Try.f78 78 none [(false, [.sc (.int .i64 a0)]), (false, [.sc (.int .i64 a1)]), (true, [.sl a2_0n a2_0f .step a2_0, .sc (.int .i64 a2_1), .sc (.int .i64 a2_2), .sc (.int .i64 a2_3), .sc (.int .i64 a2_4)])] some = (S.sub_New_R a0 a1 a2_0 a2_1 a2_2 a2_3 a2_4).go (ret_sub_New true) := by kernel_rfl
theorem bs_sub_New : loopsIn Try.f78 [] = [] := by kernel_rfl
theorem sub_New_ok : Stands Try.prog tyTab 78 g_sub_New := by
  refine stands3 (L := find []) (n := 0) (hints := []) (cx_ok rfl) rdy_sub_New ⟨by kernel_rfl, by kernel_rfl, by kernel_rfl⟩ bs_sub_New nilB (fun das r hG hr => ?_)
  unfold g_sub_New at hG
  split at hG
  · rename_i a0 a1 a2_0n a2_0f a2_0 a2_1 a2_2 a2_3 a2_4
    injection hG with hG; subst hG
    exact ⟨none, true, win default ((raw_sub_New a0 a1 a2_0n a2_0f a2_0 a2_1 a2_2 a2_3 a2_4).trans (DT.go_run _ _)) hr⟩
  · cases hG
abbrev cx_sub_Hold : Cx := mkCx2 tyTab [(101, g_Clone_run), (135, g_Clone_mat)] [] [] [(105, Try.f105)]
theorem rdy_sub_Hold : Ready Try.prog tyTab [(101, g_Clone_run), (135, g_Clone_mat)] [] [(105, Try.f105)] := ⟨consG2 Clone_run_ok (consG2 Clone_mat_ok (noneG2)), noneI2, consF2 ⟨by kernel_rfl, by kernel_rfl, by kernel_rfl⟩ (noneF2)⟩
structure S.sub_Hold_T where
  x0 : Int
  x1 : Int
  x2 : List (Ty .step)
  x3 : Int
  x4 : Int
  x5 : Int
  x6 : Int
  x7 : List (Ty .run)
  x8 : Int
  x9 : Int
  x10 : Int
  x11 : List (Ty .mat)
  x12 : Bool
  x13 : Int
  x14 : Bool
  deriving Inhabited
def S.sub_Hold_R (a0_0 : Int) (a0_1 : Int) (a0_2 : List (Ty .step)) (a0_3 : Int) (a0_4 : Int) (a0_5 : Int) (a0_6 : Int) (a0_7 : List (Ty .run)) (a0_8 : Int) (a0_9 : Int) (a0_10 : Int) (a0_11 : List (Ty .mat)) (a0_13 : Int) (a0_14 : Bool) : DT S.sub_Hold_T :=
let y0 : Nat := 0 + (S.Clone_run_nn_o a0_7).x1
let y1 : Nat := 0 + (S.Clone_mat_nn_o a0_11).x1
(.br (S.Clone_run_nn_is a0_7)
(.br (S.Clone_mat_nn_is a0_11)
(.br (xdec (y0 ≤ (S.Clone_run_nn_o a0_7).x0.length) && true && (xdec (y1 ≤ (S.Clone_mat_nn_o a0_11).x0.length) && true && true) && true)
(.leaf ⟨a0_0, a0_1, a0_2, a0_3, a0_4, a0_5, a0_6, sub (S.Clone_run_nn_o a0_7).x0 0 y0, a0_8, a0_9, a0_10, sub (S.Clone_mat_nn_o a0_11).x0 0 y1, true, a0_13, a0_14⟩)
.fail)
.fail)
.fail)
def S.sub_Hold (a0_0 : Int) (a0_1 : Int) (a0_2 : List (Ty .step)) (a0_3 : Int) (a0_4 : Int) (a0_5 : Int) (a0_6 : Int) (a0_7 : List (Ty .run)) (a0_8 : Int) (a0_9 : Int) (a0_10 : Int) (a0_11 : List (Ty .mat)) (a0_13 : Int) (a0_14 : Bool) : Option S.sub_Hold_T := (S.sub_Hold_R a0_0 a0_1 a0_2 a0_3 a0_4 a0_5 a0_6 a0_7 a0_8 a0_9 a0_10 a0_11 a0_13 a0_14).run
def S.sub_Hold_is (a0_0 : Int) (a0_1 : Int) (a0_2 : List (Ty .step)) (a0_3 : Int) (a0_4 : Int) (a0_5 : Int) (a0_6 : Int) (a0_7 : List (Ty .run)) (a0_8 : Int) (a0_9 : Int) (a0_10 : Int) (a0_11 : List (Ty .mat)) (a0_13 : Int) (a0_14 : Bool) : Bool := (S.sub_Hold a0_0 a0_1 a0_2 a0_3 a0_4 a0_5 a0_6 a0_7 a0_8 a0_9 a0_10 a0_11 a0_13 a0_14).isSome
def S.sub_Hold_o (a0_0 : Int) (a0_1 : Int) (a0_2 : List (Ty .step)) (a0_3 : Int) (a0_4 : Int) (a0_5 : Int) (a0_6 : Int) (a0_7 : List (Ty .run)) (a0_8 : Int) (a0_9 : Int) (a0_10 : Int) (a0_11 : List (Ty .mat)) (a0_13 : Int) (a0_14 : Bool) : S.sub_Hold_T := (S.sub_Hold a0_0 a0_1 a0_2 a0_3 a0_4 a0_5 a0_6 a0_7 a0_8 a0_9 a0_10 a0_11 a0_13 a0_14).getD default
def ret_sub_Hold (b : Bool) (r : S.sub_Hold_T) : Ret := ⟨b, none, [(true,
    [C.d (.sc (.int .i64 r.x0)), C.d (.sc (.int .i64 r.x1)), C.d (.sl none false ET.step r.x2), C.d (.sc (.int .i64 r.x3)),
      C.d (.sc (.int .i64 r.x4)), C.d (.sc (.int .i64 r.x5)), C.d (.sc (.int .i64 r.x6)), C.d (.sl none false ET.run r.x7),
      C.d (.sc (.int .i64 r.x8)), C.d (.sc (.int .i64 r.x9)), C.d (.sc (.int .i64 r.x10)), C.d (.sl none false ET.mat r.x11),
      C.d (.sc (.bool r.x12)), C.d (.sc (.int .i64 r.x13)), C.d (.sc (.bool r.x14))])]⟩
def g_sub_Hold : Con
  | [(true, [.sc (.int .i64 a0_0), .sc (.int .i64 a0_1), .sl a0_2n a0_2f .step a0_2, .sc (.int .i64 a0_3), .sc (.int .i64 a0_4), .sc (.int .i64 a0_5), .sc (.int .i64 a0_6), .sl a0_7n a0_7f .run a0_7, .sc (.int .i64 a0_8), .sc (.int .i64 a0_9), .sc (.int .i64 a0_10), .sl a0_11n a0_11f .mat a0_11, .sc (.bool a0_12), .sc (.int .i64 a0_13), .sc (.bool a0_14)])] => some (ret_sub_Hold (S.sub_Hold_is a0_0 a0_1 a0_2 a0_3 a0_4 a0_5 a0_6 a0_7 a0_8 a0_9 a0_10 a0_11 a0_13 a0_14) (S.sub_Hold_o a0_0 a0_1 a0_2 a0_3 a0_4 a0_5 a0_6 a0_7 a0_8 a0_9 a0_10 a0_11 a0_13 a0_14))
  | _ => none
theorem raw_sub_Hold (a0_0 : Int) (a0_1 : Int) (a0_2n : Option Bool) (a0_2f : Bool) (a0_2 : List (Ty .step)) (a0_3 : Int) (a0_4 : Int) (a0_5 : Int) (a0_6 : Int) (a0_7n : Option Bool) (a0_7f : Bool) (a0_7 : List (Ty .run)) (a0_8 : Int) (a0_9 : Int) (a0_10 : Int) (a0_11n : Option Bool) (a0_11f : Bool) (a0_11 : List (Ty .mat)) (a0_12 : Bool) (a0_13 : Int) (a0_14 : Bool) : evR2 cx_sub_Hold (hdI cx_sub_Hold (find []) [(105, Try.f105)] none 3) none Try.f70 70 none [(true, [.sc (.int .i64 a0_0), .sc (.int .i64 a0_1), .sl a0_2n a0_2f .step a0_2, .sc (.int .i64 a0_3), .sc (.int .i64 a0_4), .sc (.int .i64 a0_5), .sc (.int .i64 a0_6), .sl a0_7n a0_7f .run a0_7, .sc (.int .i64 a0_8), .sc (.int .i64 a0_9), .sc (.int .i64 a0_10), .sl a0_11n a0_11f .mat a0_11, .sc (.bool a0_12), .sc (.int .i64 a0_13), .sc (.bool a0_14)])] some = (S.sub_Hold_R a0_0 a0_1 a0_2 a0_3 a0_4 a0_5 a0_6 a0_7 a0_8 a0_9 a0_10 a0_11 a0_13 a0_14).go (ret_sub_Hold true) := by kernel_rfl
theorem bs_sub_Hold : loopsIn Try.f70 [(105, Try.f105)] = [] := by kernel_rfl
theorem sub_Hold_ok : Stands Try.prog tyTab 70 g_sub_Hold := by
  refine stands3 (L := find []) (n := 3) (hints := []) (cx_ok rfl) rdy_sub_Hold ⟨by kernel_rfl, by kernel_rfl, by kernel_rfl⟩ bs_sub_Hold nilB (fun das r hG hr => ?_)
  unfold g_sub_Hold at hG
  split at hG
  · rename_i a0_0 a0_1 a0_2n a0_2f a0_2 a0_3 a0_4 a0_5 a0_6 a0_7n a0_7f a0_7 a0_8 a0_9 a0_10 a0_11n a0_11f a0_11 a0_12 a0_13 a0_14
    injection hG with hG; subst hG
    exact ⟨none, true, win default ((raw_sub_Hold a0_0 a0_1 a0_2n a0_2f a0_2 a0_3 a0_4 a0_5 a0_6 a0_7n a0_7f a0_7 a0_8 a0_9 a0_10 a0_11n a0_11f a0_11 a0_12 a0_13 a0_14).trans (DT.go_run _ _)) hr⟩
  · cases hG
abbrev cx_sub_Ack : Cx := mkCx2 tyTab [(101, g_Clone_run), (119, g_ring_Ack), (135, g_Clone_mat)] [] [] [(105, Try.f105)]
theorem rdy_sub_Ack : Ready Try.prog tyTab [(101, g_Clone_run), (119, g_ring_Ack), (135, g_Clone_mat)] [] [(105, Try.f105)] := ⟨consG2 Clone_run_ok (consG2 ring_Ack_ok (consG2 Clone_mat_ok (noneG2))), noneI2, consF2 ⟨by kernel_rfl, by kernel_rfl, by kernel_rfl⟩ (noneF2)⟩
structure S.sub_Ack_T where
  x0 : Int
  x1 : Int
  x2 : List (Ty .step)
  x3 : Int
  x4 : Int
  x5 : Int
  x6 : Int
  x7 : List (Ty .run)
  x8 : Int
  x9 : Int
  x10 : Int
  x11 : List (Ty .mat)
  x12 : Bool
  x13 : Int
  x14 : Bool
  x15 : Int
  deriving Inhabited
def S.sub_Ack_R (a0_0 : Int) (a0_1 : Int) (a0_2 : List (Ty .step)) (a0_3 : Int) (a0_4 : Int) (a0_5 : Int) (a0_6 : Int) (a0_7 : List (Ty .run)) (a0_8 : Int) (a0_9 : Int) (a0_10 : Int) (a0_11 : List (Ty .mat)) (a0_12 : Bool) (a0_13 : Int) (a0_14 : Bool) (a1 : Int) : DT S.sub_Ack_T :=
let y0 : S.ring_Ack_T := S.ring_Ack_o a0_9 a0_10 a0_11 a1
let y1 : Int := y0.x3
let y2 : Nat := 0 + (S.Clone_run_nn_o a0_7).x1
(.br (S.ring_Ack_is a0_9 a0_10 a0_11 a1)
(.br (xneI y1 0)
(.leaf ⟨0, 0, [], 0, 0, 0, 0, [], 0, 0, 0, [], false, 0, false, y1⟩)
(.br (S.Clone_run_nn_is a0_7)
(.br (S.Clone_mat_nn_is a0_11)
(.br (xdec (y2 ≤ (S.Clone_run_nn_o a0_7).x0.length) && true && true && true)
(.leaf ⟨a0_0, a0_1, a0_2, a0_3, a0_4, a0_5, a0_6, sub (S.Clone_run_nn_o a0_7).x0 0 y2, a0_8, y0.x0, y0.x1, y0.x2, a0_12, a0_13, a0_14, 0⟩)
.fail)
.fail)
.fail))
.fail)
def S.sub_Ack (a0_0 : Int) (a0_1 : Int) (a0_2 : List (Ty .step)) (a0_3 : Int) (a0_4 : Int) (a0_5 : Int) (a0_6 : Int) (a0_7 : List (Ty .run)) (a0_8 : Int) (a0_9 : Int) (a0_10 : Int) (a0_11 : List (Ty .mat)) (a0_12 : Bool) (a0_13 : Int) (a0_14 : Bool) (a1 : Int) : Option S.sub_Ack_T := (S.sub_Ack_R a0_0 a0_1 a0_2 a0_3 a0_4 a0_5 a0_6 a0_7 a0_8 a0_9 a0_10 a0_11 a0_12 a0_13 a0_14 a1).run
def S.sub_Ack_is (a0_0 : Int) (a0_1 : Int) (a0_2 : List (Ty .step)) (a0_3 : Int) (a0_4 : Int) (a0_5 : Int) (a0_6 : Int) (a0_7 : List (Ty .run)) (a0_8 : Int) (a0_9 : Int) (a0_10 : Int) (a0_11 : List (Ty .mat)) (a0_12 : Bool) (a0_13 : Int) (a0_14 : Bool) (a1 : Int) : Bool := (S.sub_Ack a0_0 a0_1 a0_2 a0_3 a0_4 a0_5 a0_6 a0_7 a0_8 a0_9 a0_10 a0_11 a0_12 a0_13 a0_14 a1).isSome
def S.sub_Ack_o (a0_0 : Int) (a0_1 : Int) (a0_2 : List (Ty .step)) (a0_3 : Int) (a0_4 : Int) (a0_5 : Int) (a0_6 : Int) (a0_7 : List (Ty .run)) (a0_8 : Int) (a0_9 : Int) (a0_10 : Int) (a0_11 : List (Ty .mat)) (a0_12 : Bool) (a0_13 : Int) (a0_14 : Bool) (a1 : Int) : S.sub_Ack_T := (S.sub_Ack a0_0 a0_1 a0_2 a0_3 a0_4 a0_5 a0_6 a0_7 a0_8 a0_9 a0_10 a0_11 a0_12 a0_13 a0_14 a1).getD default
def ret_sub_Ack (b : Bool) (r : S.sub_Ack_T) : Ret := ⟨b, none, [(true,
    [C.d (.sc (.int .i64 r.x0)), C.d (.sc (.int .i64 r.x1)), C.d (.sl none false ET.step r.x2), C.d (.sc (.int .i64 r.x3)),
      C.d (.sc (.int .i64 r.x4)), C.d (.sc (.int .i64 r.x5)), C.d (.sc (.int .i64 r.x6)), C.d (.sl none false ET.run r.x7),
      C.d (.sc (.int .i64 r.x8)), C.d (.sc (.int .i64 r.x9)), C.d (.sc (.int .i64 r.x10)), C.d (.sl none false ET.mat r.x11),
      C.d (.sc (.bool r.x12)), C.d (.sc (.int .i64 r.x13)), C.d (.sc (.bool r.x14))]),
  (false, [C.d (.sc (.int .i64 r.x15))])]⟩
def g_sub_Ack : Con
  | [(true, [.sc (.int .i64 a0_0), .sc (.int .i64 a0_1), .sl a0_2n a0_2f .step a0_2, .sc (.int .i64 a0_3), .sc (.int .i64 a0_4), .sc (.int .i64 a0_5), .sc (.int .i64 a0_6), .sl a0_7n a0_7f .run a0_7, .sc (.int .i64 a0_8), .sc (.int .i64 a0_9), .sc (.int .i64 a0_10), .sl a0_11n a0_11f .mat a0_11, .sc (.bool a0_12), .sc (.int .i64 a0_13), .sc (.bool a0_14)]), (false, [.sc (.int .i64 a1)])] => some (ret_sub_Ack (S.sub_Ack_is a0_0 a0_1 a0_2 a0_3 a0_4 a0_5 a0_6 a0_7 a0_8 a0_9 a0_10 a0_11 a0_12 a0_13 a0_14 a1) (S.sub_Ack_o a0_0 a0_1 a0_2 a0_3 a0_4 a0_5 a0_6 a0_7 a0_8 a0_9 a0_10 a0_11 a0_12 a0_13 a0_14 a1))
  | _ => none
theorem raw_sub_Ack (a0_0 : Int) (a0_1 : Int) (a0_2n : Option Bool) (a0_2f : Bool) (a0_2 : List (Ty .step)) (a0_3 : Int) (a0_4 : Int) (a0_5 : Int) (a0_6 : Int) (a0_7n : Option Bool) (a0_7f : Bool) (a0_7 : List (Ty .run)) (a0_8 : Int) (a0_9 : Int) (a0_10 : Int) (a0_11n : Option Bool) (a0_11f : Bool) (a0_11 : List (Ty .mat)) (a0_12 : Bool) (a0_13 : Int) (a0_14 : Bool) (a1 : Int) : evR2 cx_sub_Ack (hdI cx_sub_Ack (find []) [(105, Try.f105)] none 3) none Try.f79 79 none [(true, [.sc (.int .i64 a0_0), .sc (.int .i64 a0_1), .sl a0_2n a0_2f .step a0_2, .sc (.int .i64 a0_3), .sc (.int .i64 a0_4), .sc (.int .i64 a0_5), .sc (.int .i64 a0_6), .sl a0_7n a0_7f .run a0_7, .sc (.int .i64 a0_8), .sc (.int .i64 a0_9), .sc (.int .i64 a0_10), .sl a0_11n a0_11f .mat a0_11, .sc (.bool a0_12), .sc (.int .i64 a0_13), .sc (.bool a0_14)]), (false, [.sc (.int .i64 a1)])] some = (S.sub_Ack_R a0_0 a0_1 a0_2 a0_3 a0_4 a0_5 a0_6 a0_7 a0_8 a0_9 a0_10 a0_11 a0_12 a0_13 a0_14 a1).go (ret_sub_Ack true) := by kernel_rfl
theorem bs_sub_Ack : loopsIn Try.f79 [(105, Try.f105)] = [] := by kernel_rfl
theorem sub_Ack_ok : Stands Try.prog tyTab 79 g_sub_Ack := by
  refine stands3 (L := find []) (n := 3) (hints := []) (cx_ok rfl) rdy_sub_Ack ⟨by kernel_rfl, by kernel_rfl, by kernel_rfl⟩ bs_sub_Ack nilB (fun das r hG hr => ?_)
  unfold g_sub_Ack at hG
  split at hG
  · rename_i a0_0 a0_1 a0_2n a0_2f a0_2 a0_3 a0_4 a0_5 a0_6 a0_7n a0_7f a0_7 a0_8 a0_9 a0_10 a0_11n a0_11f a0_11 a0_12 a0_13 a0_14 a1
    injection hG with hG; subst hG
    exact ⟨none, true, win default ((raw_sub_Ack a0_0 a0_1 a0_2n a0_2f a0_2 a0_3 a0_4 a0_5 a0_6 a0_7n a0_7f a0_7 a0_8 a0_9 a0_10 a0_11n a0_11f a0_11 a0_12 a0_13 a0_14 a1).trans (DT.go_run _ _)) hr⟩
  · cases hG
abbrev cx_sub_Go : Cx := mkCx2 tyTab [(101, g_Clone_run), (110, g_ring_Back), (135, g_Clone_mat)] [] [] [(105, Try.f105)]
theorem rdy_sub_Go : Ready Try.prog tyTab [(101, g_Clone_run), (110, g_ring_Back), (135, g_Clone_mat)] [] [(105, Try.f105)] := ⟨consG2 Clone_run_ok (consG2 ring_Back_ok (consG2 Clone_mat_ok (noneG2))), noneI2, consF2 ⟨by kernel_rfl, by kernel_rfl, by kernel_rfl⟩ (noneF2)⟩
structure S.sub_Go_T where
  x0 : Int
  x1 : Int
  x2 : List (Ty .step)
  x3 : Int
  x4 : Int
  x5 : Int
  x6 : Int
  x7 : List (Ty .run)
  x8 : Int
  x9 : Int
  x10 : Int
  x11 : List (Ty .mat)
  x12 : Bool
  x13 : Int
  x14 : Bool
  x15 : Int
  deriving Inhabited
def S.sub_Go_R (a0_0 : Int) (a0_1 : Int) (a0_2 : List (Ty .step)) (a0_3 : Int) (a0_4 : Int) (a0_5 : Int) (a0_6 : Int) (a0_7 : List (Ty .run)) (a0_8 : Int) (a0_9 : Int) (a0_10 : Int) (a0_11 : List (Ty .mat)) (a0_13 : Int) (a1 : Int) : DT S.sub_Go_T :=
let y0 : S.ring_Back_T := S.ring_Back_o a0_9 a0_10 a0_11 a1
let y1 : Int := y0.x3
let y2 : Nat := 0 + (S.Clone_run_nn_o a0_7).x1
(.br (S.ring_Back_is a0_9 a0_10 a0_11 a1)
(.br (xneI y1 0)
(.leaf ⟨0, 0, [], 0, 0, 0, 0, [], 0, 0, 0, [], false, 0, false, y1⟩)
(.br (S.Clone_run_nn_is a0_7)
(.br (S.Clone_mat_nn_is a0_11)
(.br (xdec (y2 ≤ (S.Clone_run_nn_o a0_7).x0.length) && true && true && true)
(.leaf ⟨a0_0, a0_1, a0_2, a0_3, a0_4, a0_5, a0_6, sub (S.Clone_run_nn_o a0_7).x0 0 y2, a0_8, y0.x0, y0.x1, y0.x2, false, a0_13, false, 0⟩)
.fail)
.fail)
.fail))
.fail)
def S.sub_Go (a0_0 : Int) (a0_1 : Int) (a0_2 : List (Ty .step)) (a0_3 : Int) (a0_4 : Int) (a0_5 : Int) (a0_6 : Int) (a0_7 : List (Ty .run)) (a0_8 : Int) (a0_9 : Int) (a0_10 : Int) (a0_11 : List (Ty .mat)) (a0_13 : Int) (a1 : Int) : Option S.sub_Go_T := (S.sub_Go_R a0_0 a0_1 a0_2 a0_3 a0_4 a0_5 a0_6 a0_7 a0_8 a0_9 a0_10 a0_11 a0_13 a1).run
def S.sub_Go_is (a0_0 : Int) (a0_1 : Int) (a0_2 : List (Ty .step)) (a0_3 : Int) (a0_4 : Int) (a0_5 : Int) (a0_6 : Int) (a0_7 : List (Ty .run)) (a0_8 : Int) (a0_9 : Int) (a0_10 : Int) (a0_11 : List (Ty .mat)) (a0_13 : Int) (a1 : Int) : Bool := (S.sub_Go a0_0 a0_1 a0_2 a0_3 a0_4 a0_5 a0_6 a0_7 a0_8 a0_9 a0_10 a0_11 a0_13 a1).isSome
def S.sub_Go_o (a0_0 : Int) (a0_1 : Int) (a0_2 : List (Ty .step)) (a0_3 : Int) (a0_4 : Int) (a0_5 : Int) (a0_6 : Int) (a0_7 : List (Ty .run)) (a0_8 : Int) (a0_9 : Int) (a0_10 : Int) (a0_11 : List (Ty .mat)) (a0_13 : Int) (a1 : Int) : S.sub_Go_T := (S.sub_Go a0_0 a0_1 a0_2 a0_3 a0_4 a0_5 a0_6 a0_7 a0_8 a0_9 a0_10 a0_11 a0_13 a1).getD default
def ret_sub_Go (b : Bool) (r : S.sub_Go_T) : Ret := ⟨b, none, [(true,
    [C.d (.sc (.int .i64 r.x0)), C.d (.sc (.int .i64 r.x1)), C.d (.sl none false ET.step r.x2), C.d (.sc (.int .i64 r.x3)),
      C.d (.sc (.int .i64 r.x4)), C.d (.sc (.int .i64 r.x5)), C.d (.sc (.int .i64 r.x6)), C.d (.sl none false ET.run r.x7),
      C.d (.sc (.int .i64 r.x8)), C.d (.sc (.int .i64 r.x9)), C.d (.sc (.int .i64 r.x10)), C.d (.sl none false ET.mat r.x11),
      C.d (.sc (.bool r.x12)), C.d (.sc (.int .i64 r.x13)), C.d (.sc (.bool r.x14))]),
  (false, [C.d (.sc (.int .i64 r.x15))])]⟩
def g_sub_Go : Con
  | [(true, [.sc (.int .i64 a0_0), .sc (.int .i64 a0_1), .sl a0_2n a0_2f .step a0_2, .sc (.int .i64 a0_3), .sc (.int .i64 a0_4), .sc (.int .i64 a0_5), .sc (.int .i64 a0_6), .sl a0_7n a0_7f .run a0_7, .sc (.int .i64 a0_8), .sc (.int .i64 a0_9), .sc (.int .i64 a0_10), .sl a0_11n a0_11f .mat a0_11, .sc (.bool a0_12), .sc (.int .i64 a0_13), .sc (.bool a0_14)]), (false, [.sc (.int .i64 a1)])] => some (ret_sub_Go (S.sub_Go_is a0_0 a0_1 a0_2 a0_3 a0_4 a0_5 a0_6 a0_7 a0_8 a0_9 a0_10 a0_11 a0_13 a1) (S.sub_Go_o a0_0 a0_1 a0_2 a0_3 a0_4 a0_5 a0_6 a0_7 a0_8 a0_9 a0_10 a0_11 a0_13 a1))
  | _ => none
theorem raw_sub_Go (a0_0 : Int) (a0_1 : Int) (a0_2n : Option Bool) (a0_2f : Bool) (a0_2 : List (Ty .step)) (a0_3 : Int) (a0_4 : Int) (a0_5 : Int) (a0_6 : Int) (a0_7n : Option Bool) (a0_7f : Bool) (a0_7 : List (Ty .run)) (a0_8 : Int) (a0_9 : Int) (a0_10 : Int) (a0_11n : Option Bool) (a0_11f : Bool) (a0_11 : List (Ty .mat)) (a0_12 : Bool) (a0_13 : Int) (a0_14 : Bool) (a1 : Int) : evR2 cx_sub_Go (hdI cx_sub_Go (find []) [(105, Try.f105)] none 3) none Try.f69 69 none [(true, [.sc (.int .i64 a0_0), .sc (.int .i64 a0_1), .sl a0_2n a0_2f .step a0_2, .sc (.int .i64 a0_3), .sc (.int .i64 a0_4), .sc (.int .i64 a0_5), .sc (.int .i64 a0_6), .sl a0_7n a0_7f .run a0_7, .sc (.int .i64 a0_8), .sc (.int .i64 a0_9), .sc (.int .i64 a0_10), .sl a0_11n a0_11f .mat a0_11, .sc (.bool a0_12), .sc (.int .i64 a0_13), .sc (.bool a0_14)]), (false, [.sc (.int .i64 a1)])] some = (S.sub_Go_R a0_0 a0_1 a0_2 a0_3 a0_4 a0_5 a0_6 a0_7 a0_8 a0_9 a0_10 a0_11 a0_13 a1).go (ret_sub_Go true) := by kernel_rfl
theorem bs_sub_Go : loopsIn Try.f69 [(105, Try.f105)] = [] := by kernel_rfl
theorem sub_Go_ok : Stands Try.prog tyTab 69 g_sub_Go := by
  refine stands3 (L := find []) (n := 3) (hints := []) (cx_ok rfl) rdy_sub_Go ⟨by kernel_rfl, by kernel_rfl, by kernel_rfl⟩ bs_sub_Go nilB (fun das r hG hr => ?_)
  unfold g_sub_Go at hG
  split at hG
  · rename_i a0_0 a0_1 a0_2n a0_2f a0_2 a0_3 a0_4 a0_5 a0_6 a0_7n a0_7f a0_7 a0_8 a0_9 a0_10 a0_11n a0_11f a0_11 a0_12 a0_13 a0_14 a1
    injection hG with hG; subst hG
    exact ⟨none, true, win default ((raw_sub_Go a0_0 a0_1 a0_2n a0_2f a0_2 a0_3 a0_4 a0_5 a0_6 a0_7n a0_7f a0_7 a0_8 a0_9 a0_10 a0_11n a0_11f a0_11 a0_12 a0_13 a0_14 a1).trans (DT.go_run _ _)) hr⟩
  · cases hG
abbrev cx_sub_Give : Cx := mkCx2 tyTab [(65, g_sub_May), (101, g_Clone_run), (109, g_ring_Next), (135, g_Clone_mat)] [] [] [(105, Try.f105)]
theorem rdy_sub_Give : Ready Try.prog tyTab [(65, g_sub_May), (101, g_Clone_run), (109, g_ring_Next), (135, g_Clone_mat)] [] [(105, Try.f105)] := ⟨consG2 sub_May_ok (consG2 Clone_run_ok (consG2 ring_Next_ok (consG2 Clone_mat_ok (noneG2)))), noneI2, consF2 ⟨by kernel_rfl, by kernel_rfl, by kernel_rfl⟩ (noneF2)⟩
structure S.sub_Give_T where
  x0 : Int
  x1 : Int
  x2 : List (Ty .step)
  x3 : Int
  x4 : Int
  x5 : Int
  x6 : Int
  x7 : List (Ty .run)
  x8 : Int
  x9 : Int
  x10 : Int
  x11 : List (Ty .mat)
  x12 : Bool
  x13 : Int
  x14 : Bool
  x15 : Int
  x16 : Int
  x17 : Int
  x18 : Int
  x19 : Int
  x20 : Int
  x21 : Bool
  x22 : Bool
  deriving Inhabited
def S.sub_Give_R (a0_0 : Int) (a0_1 : Int) (a0_2 : List (Ty .step)) (a0_3 : Int) (a0_4 : Int) (a0_5 : Int) (a0_6 : Int) (a0_7 : List (Ty .run)) (a0_8 : Int) (a0_9 : Int) (a0_10 : Int) (a0_11 : List (Ty .mat)) (a0_12 : Bool) (a0_13 : Int) (a0_14 : Bool) : DT S.sub_Give_T :=
let y0 : Nat := 0 + (S.Clone_run_nn_o a0_7).x1
let y1 : Bool := xdec (y0 ≤ (S.Clone_run_nn_o a0_7).x0.length) && true
let y2 : Nat := 0 + (S.Clone_mat_nn_o a0_11).x1
let y3 : Bool := y1 && (xdec (y2 ≤ (S.Clone_mat_nn_o a0_11).x0.length) && true && true) && true
let y4 : List (Ty .run) := sub (S.Clone_run_nn_o a0_7).x0 0 y0
let y5 : List (Ty .mat) := sub (S.Clone_mat_nn_o a0_11).x0 0 y2
let y6 : S.ring_Next_T := S.ring_Next_o a0_9 a0_10 a0_11
(.br (S.Clone_run_nn_is a0_7)
(.br (S.Clone_mat_nn_is a0_11)
(.br (S.sub_May_is a0_0 a0_1 a0_2 a0_7 a0_8 a0_9 a0_10 a0_11 a0_13 a0_14)
(.br (xnot (S.sub_May_o a0_0 a0_1 a0_2 a0_7 a0_8 a0_9 a0_10 a0_11 a0_13 a0_14).x0)
(.br (y3)
(.leaf ⟨a0_0, a0_1, a0_2, a0_3, a0_4, a0_5, a0_6, y4, a0_8, a0_9, a0_10, y5, a0_12, a0_13, a0_14, 0, 0, 0, 0, 0, 0, false, false⟩)
.fail)
(.br (a0_12)
(.br (y3)
(.leaf ⟨a0_0, a0_1, a0_2, a0_3, a0_4, a0_5, a0_6, y4, a0_8, a0_9, a0_10, y5, a0_12, a0_13, a0_14, 0, 0, 0, 0, 0, 0, false, false⟩)
.fail)
(.br (S.ring_Next_is a0_9 a0_10 a0_11)
(.br (y6.x8)
(.br (y1 && true && true)
(.leaf ⟨a0_0, a0_1, a0_2, a0_3, a0_4, a0_5, a0_6, y4, a0_8, y6.x0, y6.x1, y6.x2, a0_12, a0_13, a0_14, a0_0, y6.x3, 0, y6.x4, y6.x5, y6.x6, y6.x7, true⟩)
.fail)
(.br (xeqI a0_13 0)
(.br (y3)
(.leaf ⟨a0_0, a0_1, a0_2, a0_3, a0_4, a0_5, a0_6, y4, a0_8, a0_9, a0_10, y5, a0_12, a0_13, a0_14, 0, 0, 0, 0, 0, 0, false, false⟩)
.fail)
(.br (a0_14)
(.br (y3)
(.leaf ⟨a0_0, a0_1, a0_2, a0_3, a0_4, a0_5, a0_6, y4, a0_8, a0_9, a0_10, y5, a0_12, a0_13, a0_14, 0, 0, 0, 0, 0, 0, false, false⟩)
.fail)
(.br (y3)
(.leaf ⟨a0_0, a0_1, a0_2, a0_3, a0_4, a0_5, a0_6, y4, a0_8, a0_9, a0_10, y5, a0_12, a0_13, true, a0_0, 0, a0_13, 0, 0, 0, false, true⟩)
.fail))))
.fail)))
.fail)
.fail)
.fail)
def S.sub_Give (a0_0 : Int) (a0_1 : Int) (a0_2 : List (Ty .step)) (a0_3 : Int) (a0_4 : Int) (a0_5 : Int) (a0_6 : Int) (a0_7 : List (Ty .run)) (a0_8 : Int) (a0_9 : Int) (a0_10 : Int) (a0_11 : List (Ty .mat)) (a0_12 : Bool) (a0_13 : Int) (a0_14 : Bool) : Option S.sub_Give_T := (S.sub_Give_R a0_0 a0_1 a0_2 a0_3 a0_4 a0_5 a0_6 a0_7 a0_8 a0_9 a0_10 a0_11 a0_12 a0_13 a0_14).run
def S.sub_Give_is (a0_0 : Int) (a0_1 : Int) (a0_2 : List (Ty .step)) (a0_3 : Int) (a0_4 : Int) (a0_5 : Int) (a0_6 : Int) (a0_7 : List (Ty .run)) (a0_8 : Int) (a0_9 : Int) (a0_10 : Int) (a0_11 : List (Ty .mat)) (a0_12 : Bool) (a0_13 : Int) (a0_14 : Bool) : Bool := (S.sub_Give a0_0 a0_1 a0_2 a0_3 a0_4 a0_5 a0_6 a0_7 a0_8 a0_9 a0_10 a0_11 a0_12 a0_13 a0_14).isSome
def S.sub_Give_o (a0_0 : Int) (a0_1 : Int) (a0_2 : List (Ty .step)) (a0_3 : Int) (a0_4 : Int) (a0_5 : Int) (a0_6 : Int) (a0_7 : List (Ty .run)) (a0_8 : Int) (a0_9 : Int) (a0_10 : Int) (a0_11 : List (Ty .mat)) (a0_12 : Bool) (a0_13 : Int) (a0_14 : Bool) : S.sub_Give_T := (S.sub_Give a0_0 a0_1 a0_2 a0_3 a0_4 a0_5 a0_6 a0_7 a0_8 a0_9 a0_10 a0_11 a0_12 a0_13 a0_14).getD default
def ret_sub_Give (b : Bool) (r : S.sub_Give_T) : Ret := ⟨b, none, [(true,
    [C.d (.sc (.int .i64 r.x0)), C.d (.sc (.int .i64 r.x1)), C.d (.sl none false ET.step r.x2), C.d (.sc (.int .i64 r.x3)),
      C.d (.sc (.int .i64 r.x4)), C.d (.sc (.int .i64 r.x5)), C.d (.sc (.int .i64 r.x6)), C.d (.sl none false ET.run r.x7),
      C.d (.sc (.int .i64 r.x8)), C.d (.sc (.int .i64 r.x9)), C.d (.sc (.int .i64 r.x10)), C.d (.sl none false ET.mat r.x11),
      C.d (.sc (.bool r.x12)), C.d (.sc (.int .i64 r.x13)), C.d (.sc (.bool r.x14))]),
  (true,
    [C.d (.sc (.int .i64 r.x15)), C.d (.sc (.int .i64 r.x16)), C.d (.sc (.int .i64 r.x17)), C.d (.sc (.int .i64 r.x18)),
      C.d (.sc (.int .i64 r.x19)), C.d (.sc (.int .i64 r.x20)), C.d (.sc (.bool r.x21))]),
  (false, [C.d (.sc (.bool r.x22))])]⟩
def g_sub_Give : Con
  | [(true, [.sc (.int .i64 a0_0), .sc (.int .i64 a0_1), .sl a0_2n a0_2f .step a0_2, .sc (.int .i64 a0_3), .sc (.int .i64 a0_4), .sc (.int .i64 a0_5), .sc (.int .i64 a0_6), .sl a0_7n a0_7f .run a0_7, .sc (.int .i64 a0_8), .sc (.int .i64 a0_9), .sc (.int .i64 a0_10), .sl a0_11n a0_11f .mat a0_11, .sc (.bool a0_12), .sc (.int .i64 a0_13), .sc (.bool a0_14)])] => some (ret_sub_Give (S.sub_Give_is a0_0 a0_1 a0_2 a0_3 a0_4 a0_5 a0_6 a0_7 a0_8 a0_9 a0_10 a0_11 a0_12 a0_13 a0_14) (S.sub_Give_o a0_0 a0_1 a0_2 a0_3 a0_4 a0_5 a0_6 a0_7 a0_8 a0_9 a0_10 a0_11 a0_12 a0_13 a0_14))
  | _ => none
theorem raw_sub_Give (a0_0 : Int) (a0_1 : Int) (a0_2n : Option Bool) (a0_2f : Bool) (a0_2 : List (Ty .step)) (a0_3 : Int) (a0_4 : Int) (a0_5 : Int) (a0_6 : Int) (a0_7n : Option Bool) (a0_7f : Bool) (a0_7 : List (Ty .run)) (a0_8 : Int) (a0_9 : Int) (a0_10 : Int) (a0_11n : Option Bool) (a0_11f : Bool) (a0_11 : List (Ty .mat)) (a0_12 : Bool) (a0_13 : Int) (a0_14 : Bool) : evR2 cx_sub_Give (hdI cx_sub_Give (find []) [(105, Try.f105)] none 3) none Try.f68 68 none [(true, [.sc (.int .i64 a0_0), .sc (.int .i64 a0_1), .sl a0_2n a0_2f .step a0_2, .sc (.int .i64 a0_3), .sc (.int .i64 a0_4), .sc (.int .i64 a0_5), .sc (.int .i64 a0_6), .sl a0_7n a0_7f .run a0_7, .sc (.int .i64 a0_8), .sc (.int .i64 a0_9), .sc (.int .i64 a0_10), .sl a0_11n a0_11f .mat a0_11, .sc (.bool a0_12), .sc (.int .i64 a0_13), .sc (.bool a0_14)])] some = (S.sub_Give_R a0_0 a0_1 a0_2 a0_3 a0_4 a0_5 a0_6 a0_7 a0_8 a0_9 a0_10 a0_11 a0_12 a0_13 a0_14).go (ret_sub_Give true) := by kernel_rfl
theorem bs_sub_Give : loopsIn Try.f68 [(105, Try.f105)] = [] := by kernel_rfl
theorem sub_Give_ok : Stands Try.prog tyTab 68 g_sub_Give := by
  refine stands3 (L := find []) (n := 3) (hints := []) (cx_ok rfl) rdy_sub_Give ⟨by kernel_rfl, by kernel_rfl, by kernel_rfl⟩ bs_sub_Give nilB (fun das r hG hr => ?_)
  unfold g_sub_Give at hG
  split at hG
  · rename_i a0_0 a0_1 a0_2n a0_2f a0_2 a0_3 a0_4 a0_5 a0_6 a0_7n a0_7f a0_7 a0_8 a0_9 a0_10 a0_11n a0_11f a0_11 a0_12 a0_13 a0_14
    injection hG with hG; subst hG
    exact ⟨none, true, win default ((raw_sub_Give a0_0 a0_1 a0_2n a0_2f a0_2 a0_3 a0_4 a0_5 a0_6 a0_7n a0_7f a0_7 a0_8 a0_9 a0_10 a0_11n a0_11f a0_11 a0_12 a0_13 a0_14).trans (DT.go_run _ _)) hr⟩
  · cases hG
abbrev cx_sub_Feed : Cx := mkCx2 tyTab [(58, g_match_Feed), (65, g_sub_May), (101, g_Clone_run), (135, g_Clone_mat), (136, g_ring_Add)] [] [(66, 8, { keep := [6, 7, 8, 10, 42, 43, 44], acc := [] }), (66, 7, { keep := [], acc := [], frz := true }), (105, 7, { keep := [], acc := [], frz := true }), (106, 7, { keep := [], acc := [], frz := true }), (107, 7, { keep := [], acc := [], frz := true })] [(105, Try.f105), (106, Try.f106), (107, Try.f107)]
theorem rdy_sub_Feed : Ready Try.prog tyTab [(58, g_match_Feed), (65, g_sub_May), (101, g_Clone_run), (135, g_Clone_mat), (136, g_ring_Add)] [] [(105, Try.f105), (106, Try.f106), (107, Try.f107)] := ⟨consG2 match_Feed_ok (consG2 sub_May_ok (consG2 Clone_run_ok (consG2 Clone_mat_ok (consG2 ring_Add_ok (noneG2))))), noneI2, consF2 ⟨by kernel_rfl, by kernel_rfl, by kernel_rfl⟩ (consF2 ⟨by kernel_rfl, by kernel_rfl, by kernel_rfl⟩ (consF2 ⟨by kernel_rfl, by kernel_rfl, by kernel_rfl⟩ (noneF2)))⟩
structure S.sub_Feed_8_V where
  t_44_0 : Int
  h_24_9 : Int
  h_24_10 : Int
  h_24_11 : List (Ty .mat)
def S.sub_Feed_8_R (qA : List (Ty .mat)) (qB : Int) (v : S.sub_Feed_8_V) : DT (Option Nat × S.sub_Feed_8_V) :=
let y0 : Ty ET.mat := qA.getD v.t_44_0.toNat (dflt ET.mat)
let y1 : Int := y0.start
let y2 : Int := y0.fin
let y3 : Int := y0.agg
let y4 : Bool := y0.bad
let y5 : S.ring_Add_T := S.ring_Add_o v.h_24_9 v.h_24_10 v.h_24_11 y1 y2 y3 y4
let y6 : Bool := y5.x3
let y7 : Bool := xnot y6
let y8 : Int := y5.x1
let y9 : Int := y5.x0
let y10 : Int := xwrap IntKind.i64 (y8 - y9)
let y11 : List (Ty .mat) := y5.x2
let y12 : Int := xwrap IntKind.i64 (v.t_44_0 + 1)
let y13 : Int := xwrap IntKind.i64 (v.h_24_10 - v.h_24_9)
(.br (xdec (v.t_44_0 < qB))
(.br (xdec (0 ≤ v.t_44_0) && xdec (v.t_44_0 < (↑qA.length : Int)))
(.br (S.ring_Add_is v.h_24_9 v.h_24_10 v.h_24_11 y1 y2 y3 y4)
(.br (y6)
(.br (y7)
(.br (xdec (0 ≤ y10) && xdec (y10 ≤ Int.ofNat y11.length) && true)
(.leaf (some 0, v))
.fail)
(.leaf (none, ⟨y12, y9, y8, y11⟩)))
(.br (y7)
(.br (xdec (0 ≤ y13) && xdec (y13 ≤ Int.ofNat v.h_24_11.length) && true)
(.leaf (some 1, v))
.fail)
(.leaf (none, ⟨y12, v.h_24_9, v.h_24_10, v.h_24_11⟩))))
.fail)
.fail)
(.leaf (some 2, v)))
def S.sub_Feed_8_r (qA : List (Ty .mat)) (qB : Int) (v : S.sub_Feed_8_V) : Option (Option Nat × S.sub_Feed_8_V) := (S.sub_Feed_8_R qA qB v).run
def S.sub_Feed_8_j (qA : List (Ty .mat)) (qB : Int) (v : S.sub_Feed_8_V) (j : Nat) : Bool := Lp_j (S.sub_Feed_8_r qA qB) v j
def S.sub_Feed_8_v (qA : List (Ty .mat)) (qB : Int) (v : S.sub_Feed_8_V) : S.sub_Feed_8_V := Lp_v (S.sub_Feed_8_r qA qB) v
def mk_sub_Feed_8 (qA : List (Ty .mat)) (qB : Int) (qC : Int) (qD : Int) (qE : Option Bool) (qF : Bool) (qG : List (Ty .step)) (qH : Int) (qI : Int) (qJ : Int) (qK : Int) (qL : Option Bool) (qM : Bool) (qN : List (Ty .run)) (qO : Int) (qP : Int) (qQ : Int) (qR : Option Bool) (qS : Bool) (qT : List (Ty .mat)) (qU : Bool) (qV : Int) (qW : Bool) (qX : ByteArray) (qY : Int) (qZ : Option Bool) (rA : Bool) (rB : List (Ty .val)) (rC : Int) (rD : Int) (rE : List (Ty .step)) (rF : Int) (rG : Int) (rH : Int) (rI : Int) (rJ : List (Ty .run)) (rK : Int) (rL : Int) (rM : Int) (rN : List (Ty .mat)) (rO : Bool) (rP : Int) (rQ : Bool) (rR : Int) (rS : Int) (rT : Option Bool) (rU : Bool) (rV : List (Ty .step)) (rW : Int) (rX : Int) (rY : Int) (rZ : Int) (wA : List (Ty .run)) (wB : Int) (wC : Int) (wD : Int) (wE : List (Ty .mat)) (wF : Bool) (wG : Int) (wH : Bool) (wI : Int) (wJ : Int) (wK : List (Ty .step)) (wL : Int) (wM : Int) (wN : Int) (wO : Int) (wP : List (Ty .run)) (wQ : Int) (wR : Bool) (wS : Int) (wT : Bool) (wU : List (Ty .step)) (wV : Int) (wW : Int) (wX : Int) (wY : Int) (wZ : List (Ty .run)) (zA : Int) (v : S.sub_Feed_8_V) : St := ⟨[V.any, V.any, V.any, V.any, V.any, V.any, V.v false [C.ptr 2 0], V.v false [C.ptr 24 0], V.v false [C.ptr 42 0], V.any, V.v false [C.clo 106 [22 + 2] []], V.any, V.any, V.any,
  V.any, V.any, V.any, V.any, V.any, V.any, V.any, V.any, V.any, V.any, V.any, V.any, V.any, V.any, V.any, V.any, V.any, V.any, V.any, V.any, V.any, V.any, V.any, V.any, V.any,
  V.any, V.any, V.any, V.v false [C.d (.sl none false ET.mat qA)], V.v false [C.d (.sc (.int .i64 qB))], V.v false [C.d (.sc (.int .i64 v.t_44_0))],
  V.any, V.any, V.any, V.any, V.any, V.any, V.any, V.any, V.any, V.any, V.any, V.any, V.any, V.any, V.any, V.any, V.any, V.any, V.any, V.any, V.any, V.any, V.any, V.any, V.any], [some
    (Blk.box 89
      [C.d (.sc (.int .i64 qC)), C.d (.sc (.int .i64 qD)), C.d (.sl qE qF ET.step qG), C.d (.sc (.int .i64 qH)),
        C.d (.sc (.int .i64 qI)), C.d (.sc (.int .i64 qJ)), C.d (.sc (.int .i64 qK)), C.d (.sl qL qM ET.run qN),
        C.d (.sc (.int .i64 qO)), C.d (.sc (.int .i64 qP)), C.d (.sc (.int .i64 qQ)), C.d (.sl qR qS ET.mat qT),
        C.d (.sc (.bool qU)), C.d (.sc (.int .i64 qV)), C.d (.sc (.bool qW))]),
  some (Blk.box 29 [C.d (.sc (.str qX)), C.d (.sc (.int .i64 qY)), C.d (.sl qZ rA ET.val rB)]),
  some
    (Blk.box 89
      [C.d (.sc (.int .i64 rC)), C.d (.sc (.int .i64 rD)), C.d (.sl (some true) true ET.step rE), C.d (.sc (.int .i64 rF)),
        C.d (.sc (.int .i64 rG)), C.d (.sc (.int .i64 rH)), C.d (.sc (.int .i64 rI)), C.d (.sl (some true) true ET.run rJ),
        C.d (.sc (.int .i64 rK)), C.d (.sc (.int .i64 rL)), C.d (.sc (.int .i64 rM)), C.d (.sl (some true) true ET.mat rN),
        C.d (.sc (.bool rO)), C.d (.sc (.int .i64 rP)), C.d (.sc (.bool rQ))]),
  none, none, none,
  some
    (Blk.box 89
      [C.d (.sc (.int .i64 rR)), C.d (.sc (.int .i64 rS)), C.d (.sl rT rU ET.step rV), C.d (.sc (.int .i64 rW)),
        C.d (.sc (.int .i64 rX)), C.d (.sc (.int .i64 rY)), C.d (.sc (.int .i64 rZ)), C.d (.sl none false ET.run wA),
        C.d (.sc (.int .i64 wB)), C.d (.sc (.int .i64 wC)), C.d (.sc (.int .i64 wD)), C.d (.sl none false ET.mat wE),
        C.d (.sc (.bool wF)), C.d (.sc (.int .i64 wG)), C.d (.sc (.bool wH))]),
  none, none, none, none, none, none, none, none, none, none, none, none, none, none, none, none, none,
  some
    (Blk.box 143
      [C.d (.sc (.int .i64 wI)), C.d (.sc (.int .i64 wJ)), C.d (.sl none false ET.step wK), C.d (.sc (.int .i64 wL)),
        C.d (.sc (.int .i64 wM)), C.d (.sc (.int .i64 wN)), C.d (.sc (.int .i64 wO)), C.d (.sl none false ET.run wP),
        C.d (.sc (.int .i64 wQ)), C.d (.sc (.int .i64 v.h_24_9)), C.d (.sc (.int .i64 v.h_24_10)), C.d (.sl none false ET.mat v.h_24_11),
        C.d (.sc (.bool wR)), C.d (.sc (.int .i64 wS)), C.d (.sc (.bool wT))]),
  none, none, none, none, none, none, none, none, none, none, none, none, none, none, none, none, none,
  some
    (Blk.box 71
      [C.d (.sl none false ET.step wU), C.d (.sc (.int .i64 wV)), C.d (.sc (.int .i64 wW)), C.d (.sc (.int .i64 wX)),
        C.d (.sc (.int .i64 wY)), C.d (.sl none false ET.run wZ), C.d (.sc (.int .i64 zA))]),
  none, none, none, none, none, none, none, none, none, none, none, none, none, none], 0⟩
def ex_sub_Feed_8 (qA : List (Ty .mat)) (qB : Int) (qC : Int) (qD : Int) (qE : Option Bool) (qF : Bool) (qG : List (Ty .step)) (qH : Int) (qI : Int) (qJ : Int) (qK : Int) (qL : Option Bool) (qM : Bool) (qN : List (Ty .run)) (qO : Int) (qP : Int) (qQ : Int) (qR : Option Bool) (qS : Bool) (qT : List (Ty .mat)) (qU : Bool) (qV : Int) (qW : Bool) (qX : ByteArray) (qY : Int) (qZ : Option Bool) (rA : Bool) (rB : List (Ty .val)) (rC : Int) (rD : Int) (rE : List (Ty .step)) (rF : Int) (rG : Int) (rH : Int) (rI : Int) (rJ : List (Ty .run)) (rK : Int) (rL : Int) (rM : Int) (rN : List (Ty .mat)) (rO : Bool) (rP : Int) (rQ : Bool) (rR : Int) (rS : Int) (rT : Option Bool) (rU : Bool) (rV : List (Ty .step)) (rW : Int) (rX : Int) (rY : Int) (rZ : Int) (wA : List (Ty .run)) (wB : Int) (wC : Int) (wD : Int) (wE : List (Ty .mat)) (wF : Bool) (wG : Int) (wH : Bool) (wI : Int) (wJ : Int) (wK : List (Ty .step)) (wL : Int) (wM : Int) (wN : Int) (wO : Int) (wP : List (Ty .run)) (wQ : Int) (wR : Bool) (wS : Int) (wT : Bool) (wU : List (Ty .step)) (wV : Int) (wW : Int) (wX : Int) (wY : Int) (wZ : List (Ty .run)) (zA : Int) (j : Nat) (v : S.sub_Feed_8_V) : Ex × St := match j with
  | 0 => (Ex.ret, ⟨[V.any, V.any, V.any, V.any, V.any, V.any, V.v false [C.ptr 2 0], V.v false [C.ptr 24 0], V.v false [C.ptr 42 0], V.any, V.any, V.any, V.any, V.any, V.any, V.any, V.any, V.any,
  V.any, V.any, V.any, V.any, V.any, V.any, V.any, V.any, V.any, V.any, V.any, V.any, V.any, V.any, V.any, V.any, V.any, V.any, V.any, V.any, V.any, V.any, V.any, V.any, V.any,
  V.any, V.any, V.any, V.any, V.any, V.any, V.any, V.any, V.any, V.any, V.any, V.any, V.any, V.any, V.any, V.any, V.any, V.any, V.any, V.any, V.any, V.any, V.any, V.any, V.any,
  V.any, V.any], [some
    (Blk.box 89
      [C.d (.sc (.int .i64 qC)), C.d (.sc (.int .i64 qD)), C.d (.sl qE qF ET.step qG), C.d (.sc (.int .i64 qH)),
        C.d (.sc (.int .i64 qI)), C.d (.sc (.int .i64 qJ)), C.d (.sc (.int .i64 qK)), C.d (.sl qL qM ET.run qN),
        C.d (.sc (.int .i64 qO)), C.d (.sc (.int .i64 qP)), C.d (.sc (.int .i64 qQ)), C.d (.sl qR qS ET.mat qT),
        C.d (.sc (.bool qU)), C.d (.sc (.int .i64 qV)), C.d (.sc (.bool qW))]),
  some (Blk.box 29 [C.d (.sc (.str qX)), C.d (.sc (.int .i64 qY)), C.d (.sl qZ rA ET.val rB)]),
  some
    (Blk.box 89
      [C.d (.sc (.int .i64 wI)), C.d (.sc (.int .i64 wJ)), C.d (.sl none false ET.step wK), C.d (.sc (.int .i64 wL)),
        C.d (.sc (.int .i64 wM)), C.d (.sc (.int .i64 wN)), C.d (.sc (.int .i64 wO)), C.d (.sl (some true) true ET.run []),
        C.d (.sc (.int .i64 wQ)),
        C.d
          (D.sc
            (Sc.int IntKind.i64
              (S.ring_Add_o v.h_24_9 v.h_24_10 v.h_24_11 (qA.getD v.t_44_0.toNat (dflt ET.mat)).start (qA.getD v.t_44_0.toNat (dflt ET.mat)).fin
                  (qA.getD v.t_44_0.toNat (dflt ET.mat)).agg (qA.getD v.t_44_0.toNat (dflt ET.mat)).bad).x0)),
        C.d
          (D.sc
            (Sc.int IntKind.i64
              (S.ring_Add_o v.h_24_9 v.h_24_10 v.h_24_11 (qA.getD v.t_44_0.toNat (dflt ET.mat)).start (qA.getD v.t_44_0.toNat (dflt ET.mat)).fin
                  (qA.getD v.t_44_0.toNat (dflt ET.mat)).agg (qA.getD v.t_44_0.toNat (dflt ET.mat)).bad).x1)),
        C.d
          (D.sl none
            (false &&
              xdec
                (xwrap IntKind.i64
                    ((S.ring_Add_o v.h_24_9 v.h_24_10 v.h_24_11 (qA.getD v.t_44_0.toNat (dflt ET.mat)).start (qA.getD v.t_44_0.toNat (dflt ET.mat)).fin
                          (qA.getD v.t_44_0.toNat (dflt ET.mat)).agg (qA.getD v.t_44_0.toNat (dflt ET.mat)).bad).x1 -
                      (S.ring_Add_o v.h_24_9 v.h_24_10 v.h_24_11 (qA.getD v.t_44_0.toNat (dflt ET.mat)).start (qA.getD v.t_44_0.toNat (dflt ET.mat)).fin
                          (qA.getD v.t_44_0.toNat (dflt ET.mat)).agg (qA.getD v.t_44_0.toNat (dflt ET.mat)).bad).x0) =
                  (↑(S.ring_Add_o v.h_24_9 v.h_24_10 v.h_24_11 (qA.getD v.t_44_0.toNat (dflt ET.mat)).start (qA.getD v.t_44_0.toNat (dflt ET.mat)).fin
                            (qA.getD v.t_44_0.toNat (dflt ET.mat)).agg (qA.getD v.t_44_0.toNat (dflt ET.mat)).bad).x2.length :
                    Int)))
            ET.mat
            (sub
              (S.ring_Add_o v.h_24_9 v.h_24_10 v.h_24_11 (qA.getD v.t_44_0.toNat (dflt ET.mat)).start (qA.getD v.t_44_0.toNat (dflt ET.mat)).fin
                  (qA.getD v.t_44_0.toNat (dflt ET.mat)).agg (qA.getD v.t_44_0.toNat (dflt ET.mat)).bad).x2
              0
              (xwrap IntKind.i64
                  ((S.ring_Add_o v.h_24_9 v.h_24_10 v.h_24_11 (qA.getD v.t_44_0.toNat (dflt ET.mat)).start (qA.getD v.t_44_0.toNat (dflt ET.mat)).fin
                        (qA.getD v.t_44_0.toNat (dflt ET.mat)).agg (qA.getD v.t_44_0.toNat (dflt ET.mat)).bad).x1 -
                    (S.ring_Add_o v.h_24_9 v.h_24_10 v.h_24_11 (qA.getD v.t_44_0.toNat (dflt ET.mat)).start (qA.getD v.t_44_0.toNat (dflt ET.mat)).fin
                        (qA.getD v.t_44_0.toNat (dflt ET.mat)).agg (qA.getD v.t_44_0.toNat (dflt ET.mat)).bad).x0)).toNat)),
        C.d (.sc (.bool wR)), C.d (.sc (.int .i64 2)), C.d (.sc (.bool wT))]),
  none, none, none,
  some
    (Blk.box 89
      [C.d (.sc (.int .i64 rR)), C.d (.sc (.int .i64 rS)), C.d (.sl rT rU ET.step rV), C.d (.sc (.int .i64 rW)),
        C.d (.sc (.int .i64 rX)), C.d (.sc (.int .i64 rY)), C.d (.sc (.int .i64 rZ)), C.d (.sl none false ET.run wA),
        C.d (.sc (.int .i64 wB)), C.d (.sc (.int .i64 wC)), C.d (.sc (.int .i64 wD)), C.d (.sl none false ET.mat wE),
        C.d (.sc (.bool wF)), C.d (.sc (.int .i64 wG)), C.d (.sc (.bool wH))]),
  none, none, none, none, none, none, none, none, none, none, none, none, none, none, none, none, none,
  some
    (Blk.box 143
      [C.d (.sc (.int .i64 wI)), C.d (.sc (.int .i64 wJ)), C.d (.sl none false ET.step wK), C.d (.sc (.int .i64 wL)),
        C.d (.sc (.int .i64 wM)), C.d (.sc (.int .i64 wN)), C.d (.sc (.int .i64 wO)), C.d (.sl (some true) true ET.run []),
        C.d (.sc (.int .i64 wQ)),
        C.d
          (D.sc
            (Sc.int IntKind.i64
              (S.ring_Add_o v.h_24_9 v.h_24_10 v.h_24_11 (qA.getD v.t_44_0.toNat (dflt ET.mat)).start (qA.getD v.t_44_0.toNat (dflt ET.mat)).fin
                  (qA.getD v.t_44_0.toNat (dflt ET.mat)).agg (qA.getD v.t_44_0.toNat (dflt ET.mat)).bad).x0)),
        C.d
          (D.sc
            (Sc.int IntKind.i64
              (S.ring_Add_o v.h_24_9 v.h_24_10 v.h_24_11 (qA.getD v.t_44_0.toNat (dflt ET.mat)).start (qA.getD v.t_44_0.toNat (dflt ET.mat)).fin
                  (qA.getD v.t_44_0.toNat (dflt ET.mat)).agg (qA.getD v.t_44_0.toNat (dflt ET.mat)).bad).x1)),
        C.d
          (D.sl none
            (false &&
              xdec
                (xwrap IntKind.i64
                    ((S.ring_Add_o v.h_24_9 v.h_24_10 v.h_24_11 (qA.getD v.t_44_0.toNat (dflt ET.mat)).start (qA.getD v.t_44_0.toNat (dflt ET.mat)).fin
                          (qA.getD v.t_44_0.toNat (dflt ET.mat)).agg (qA.getD v.t_44_0.toNat (dflt ET.mat)).bad).x1 -
                      (S.ring_Add_o v.h_24_9 v.h_24_10 v.h_24_11 (qA.getD v.t_44_0.toNat (dflt ET.mat)).start (qA.getD v.t_44_0.toNat (dflt ET.mat)).fin
                          (qA.getD v.t_44_0.toNat (dflt ET.mat)).agg (qA.getD v.t_44_0.toNat (dflt ET.mat)).bad).x0) =
                  (↑(S.ring_Add_o v.h_24_9 v.h_24_10 v.h_24_11 (qA.getD v.t_44_0.toNat (dflt ET.mat)).start (qA.getD v.t_44_0.toNat (dflt ET.mat)).fin
                            (qA.getD v.t_44_0.toNat (dflt ET.mat)).agg (qA.getD v.t_44_0.toNat (dflt ET.mat)).bad).x2.length :
                    Int)))
            ET.mat
            (sub
              (S.ring_Add_o v.h_24_9 v.h_24_10 v.h_24_11 (qA.getD v.t_44_0.toNat (dflt ET.mat)).start (qA.getD v.t_44_0.toNat (dflt ET.mat)).fin
                  (qA.getD v.t_44_0.toNat (dflt ET.mat)).agg (qA.getD v.t_44_0.toNat (dflt ET.mat)).bad).x2
              0
              (xwrap IntKind.i64
                  ((S.ring_Add_o v.h_24_9 v.h_24_10 v.h_24_11 (qA.getD v.t_44_0.toNat (dflt ET.mat)).start (qA.getD v.t_44_0.toNat (dflt ET.mat)).fin
                        (qA.getD v.t_44_0.toNat (dflt ET.mat)).agg (qA.getD v.t_44_0.toNat (dflt ET.mat)).bad).x1 -
                    (S.ring_Add_o v.h_24_9 v.h_24_10 v.h_24_11 (qA.getD v.t_44_0.toNat (dflt ET.mat)).start (qA.getD v.t_44_0.toNat (dflt ET.mat)).fin
                        (qA.getD v.t_44_0.toNat (dflt ET.mat)).agg (qA.getD v.t_44_0.toNat (dflt ET.mat)).bad).x0)).toNat)),
        C.d (.sc (.bool wR)), C.d (.sc (.int .i64 2)), C.d (.sc (.bool wT))]),
  none, none, none, none, none, none, none, none, none, none, none, none, none, none, none, none, none,
  some
    (Blk.box 71
      [C.d (.sl none false ET.step wU), C.d (.sc (.int .i64 wV)), C.d (.sc (.int .i64 wW)), C.d (.sc (.int .i64 wX)),
        C.d (.sc (.int .i64 wY)), C.d (.sl none false ET.run wZ), C.d (.sc (.int .i64 zA))]),
  none, none, none, none, none, none, none, none, none, none, none, none, none, none, none, none, none,
  some
    (Blk.box 81
      [C.d (.sc (.int .i64 (qA.getD v.t_44_0.toNat (dflt ET.mat)).start)), C.d (.sc (.int .i64 (qA.getD v.t_44_0.toNat (dflt ET.mat)).fin)),
        C.d (.sc (.int .i64 (qA.getD v.t_44_0.toNat (dflt ET.mat)).agg)), C.d (.sc (.bool (qA.getD v.t_44_0.toNat (dflt ET.mat)).bad))]),
  none, none, none, none, none,
  some
    (Blk.box 81
      [C.d (.sc (.int .i64 (qA.getD v.t_44_0.toNat (dflt ET.mat)).start)), C.d (.sc (.int .i64 (qA.getD v.t_44_0.toNat (dflt ET.mat)).fin)),
        C.d (.sc (.int .i64 (qA.getD v.t_44_0.toNat (dflt ET.mat)).agg)), C.d (.sc (.bool (qA.getD v.t_44_0.toNat (dflt ET.mat)).bad))]),
  none, none, none, none, none, none, none, none, none, none, none,
  some
    (Blk.box 87
      [C.d
          (D.sc
            (Sc.int IntKind.i64
              (S.ring_Add_o v.h_24_9 v.h_24_10 v.h_24_11 (qA.getD v.t_44_0.toNat (dflt ET.mat)).start (qA.getD v.t_44_0.toNat (dflt ET.mat)).fin
                  (qA.getD v.t_44_0.toNat (dflt ET.mat)).agg (qA.getD v.t_44_0.toNat (dflt ET.mat)).bad).x0)),
        C.d
          (D.sc
            (Sc.int IntKind.i64
              (S.ring_Add_o v.h_24_9 v.h_24_10 v.h_24_11 (qA.getD v.t_44_0.toNat (dflt ET.mat)).start (qA.getD v.t_44_0.toNat (dflt ET.mat)).fin
                  (qA.getD v.t_44_0.toNat (dflt ET.mat)).agg (qA.getD v.t_44_0.toNat (dflt ET.mat)).bad).x1)),
        C.d
          (D.sl none false ET.mat
            (S.ring_Add_o v.h_24_9 v.h_24_10 v.h_24_11 (qA.getD v.t_44_0.toNat (dflt ET.mat)).start (qA.getD v.t_44_0.toNat (dflt ET.mat)).fin
                (qA.getD v.t_44_0.toNat (dflt ET.mat)).agg (qA.getD v.t_44_0.toNat (dflt ET.mat)).bad).x2)]),
  none, none, none, none, none, none, none, none, none, none, none, none, none, none, none, none, none, none, none, none, none, none, none, none, none, none, none, none, none,
  none, none, none, none, none, none, none, none, none, none, none, none, none, none, none, none, none, none, none, none, none, none, none, none, none, none], 0⟩)
  | 1 => (Ex.ret, ⟨[V.any, V.any, V.any, V.any, V.any, V.any, V.v false [C.ptr 2 0], V.v false [C.ptr 24 0], V.v false [C.ptr 42 0], V.any, V.any, V.any, V.any, V.any, V.any, V.any, V.any, V.any,
  V.any, V.any, V.any, V.any, V.any, V.any, V.any, V.any, V.any, V.any, V.any, V.any, V.any, V.any, V.any, V.any, V.any, V.any, V.any, V.any, V.any, V.any, V.any, V.any, V.any,
  V.any, V.any, V.any, V.any, V.any, V.any, V.any, V.any, V.any, V.any, V.any, V.any, V.any, V.any, V.any, V.any, V.any, V.any, V.any, V.any, V.any, V.any, V.any, V.any, V.any,
  V.any, V.any], [some
    (Blk.box 89
      [C.d (.sc (.int .i64 qC)), C.d (.sc (.int .i64 qD)), C.d (.sl qE qF ET.step qG), C.d (.sc (.int .i64 qH)),
        C.d (.sc (.int .i64 qI)), C.d (.sc (.int .i64 qJ)), C.d (.sc (.int .i64 qK)), C.d (.sl qL qM ET.run qN),
        C.d (.sc (.int .i64 qO)), C.d (.sc (.int .i64 qP)), C.d (.sc (.int .i64 qQ)), C.d (.sl qR qS ET.mat qT),
        C.d (.sc (.bool qU)), C.d (.sc (.int .i64 qV)), C.d (.sc (.bool qW))]),
  some (Blk.box 29 [C.d (.sc (.str qX)), C.d (.sc (.int .i64 qY)), C.d (.sl qZ rA ET.val rB)]),
  some
    (Blk.box 89
      [C.d (.sc (.int .i64 wI)), C.d (.sc (.int .i64 wJ)), C.d (.sl none false ET.step wK), C.d (.sc (.int .i64 wL)),
        C.d (.sc (.int .i64 wM)), C.d (.sc (.int .i64 wN)), C.d (.sc (.int .i64 wO)), C.d (.sl (some true) true ET.run []),
        C.d (.sc (.int .i64 wQ)), C.d (.sc (.int .i64 v.h_24_9)), C.d (.sc (.int .i64 v.h_24_10)),
        C.d
          (D.sl none (false && xdec (xwrap IntKind.i64 (v.h_24_10 - v.h_24_9) = (↑v.h_24_11.length : Int))) ET.mat
            (sub v.h_24_11 0 (xwrap IntKind.i64 (v.h_24_10 - v.h_24_9)).toNat)),
        C.d (.sc (.bool wR)), C.d (.sc (.int .i64 2)), C.d (.sc (.bool wT))]),
  none, none, none,
  some
    (Blk.box 89
      [C.d (.sc (.int .i64 rR)), C.d (.sc (.int .i64 rS)), C.d (.sl rT rU ET.step rV), C.d (.sc (.int .i64 rW)),
        C.d (.sc (.int .i64 rX)), C.d (.sc (.int .i64 rY)), C.d (.sc (.int .i64 rZ)), C.d (.sl none false ET.run wA),
        C.d (.sc (.int .i64 wB)), C.d (.sc (.int .i64 wC)), C.d (.sc (.int .i64 wD)), C.d (.sl none false ET.mat wE),
        C.d (.sc (.bool wF)), C.d (.sc (.int .i64 wG)), C.d (.sc (.bool wH))]),
  none, none, none, none, none, none, none, none, none, none, none, none, none, none, none, none, none,
  some
    (Blk.box 143
      [C.d (.sc (.int .i64 wI)), C.d (.sc (.int .i64 wJ)), C.d (.sl none false ET.step wK), C.d (.sc (.int .i64 wL)),
        C.d (.sc (.int .i64 wM)), C.d (.sc (.int .i64 wN)), C.d (.sc (.int .i64 wO)), C.d (.sl (some true) true ET.run []),
        C.d (.sc (.int .i64 wQ)), C.d (.sc (.int .i64 v.h_24_9)), C.d (.sc (.int .i64 v.h_24_10)),
        C.d
          (D.sl none (false && xdec (xwrap IntKind.i64 (v.h_24_10 - v.h_24_9) = (↑v.h_24_11.length : Int))) ET.mat
            (sub v.h_24_11 0 (xwrap IntKind.i64 (v.h_24_10 - v.h_24_9)).toNat)),
        C.d (.sc (.bool wR)), C.d (.sc (.int .i64 2)), C.d (.sc (.bool wT))]),
  none, none, none, none, none, none, none, none, none, none, none, none, none, none, none, none, none,
  some
    (Blk.box 71
      [C.d (.sl none false ET.step wU), C.d (.sc (.int .i64 wV)), C.d (.sc (.int .i64 wW)), C.d (.sc (.int .i64 wX)),
        C.d (.sc (.int .i64 wY)), C.d (.sl none false ET.run wZ), C.d (.sc (.int .i64 zA))]),
  none, none, none, none, none, none, none, none, none, none, none, none, none, none, none, none, none,
  some
    (Blk.box 81
      [C.d (.sc (.int .i64 (qA.getD v.t_44_0.toNat (dflt ET.mat)).start)), C.d (.sc (.int .i64 (qA.getD v.t_44_0.toNat (dflt ET.mat)).fin)),
        C.d (.sc (.int .i64 (qA.getD v.t_44_0.toNat (dflt ET.mat)).agg)), C.d (.sc (.bool (qA.getD v.t_44_0.toNat (dflt ET.mat)).bad))]),
  none, none, none, none, none,
  some
    (Blk.box 81
      [C.d (.sc (.int .i64 (qA.getD v.t_44_0.toNat (dflt ET.mat)).start)), C.d (.sc (.int .i64 (qA.getD v.t_44_0.toNat (dflt ET.mat)).fin)),
        C.d (.sc (.int .i64 (qA.getD v.t_44_0.toNat (dflt ET.mat)).agg)), C.d (.sc (.bool (qA.getD v.t_44_0.toNat (dflt ET.mat)).bad))]),
  none, none, none, none, none, none, none, none, none, none, none,
  some
    (Blk.box 87
      [C.d
          (D.sc
            (Sc.int IntKind.i64
              (S.ring_Add_o v.h_24_9 v.h_24_10 v.h_24_11 (qA.getD v.t_44_0.toNat (dflt ET.mat)).start (qA.getD v.t_44_0.toNat (dflt ET.mat)).fin
                  (qA.getD v.t_44_0.toNat (dflt ET.mat)).agg (qA.getD v.t_44_0.toNat (dflt ET.mat)).bad).x0)),
        C.d
          (D.sc
            (Sc.int IntKind.i64
              (S.ring_Add_o v.h_24_9 v.h_24_10 v.h_24_11 (qA.getD v.t_44_0.toNat (dflt ET.mat)).start (qA.getD v.t_44_0.toNat (dflt ET.mat)).fin
                  (qA.getD v.t_44_0.toNat (dflt ET.mat)).agg (qA.getD v.t_44_0.toNat (dflt ET.mat)).bad).x1)),
        C.d
          (D.sl none false ET.mat
            (S.ring_Add_o v.h_24_9 v.h_24_10 v.h_24_11 (qA.getD v.t_44_0.toNat (dflt ET.mat)).start (qA.getD v.t_44_0.toNat (dflt ET.mat)).fin
                (qA.getD v.t_44_0.toNat (dflt ET.mat)).agg (qA.getD v.t_44_0.toNat (dflt ET.mat)).bad).x2)]),
  none, none, none, none, none, none, none, none, none, none, none, none, none, none, none, none, none, none, none, none, none, none, none, none, none, none, none, none, none,
  none, none, none, none, none, none, none, none, none, none, none, none, none, none, none, none, none, none, none, none], 0⟩)
  | 2 => (Ex.exit 0, ⟨[V.any, V.any, V.any, V.any, V.any, V.any, V.v false [C.ptr 2 0], V.v false [C.ptr 24 0], V.v false [C.ptr 42 0], V.any, V.any, V.any, V.any, V.any, V.any, V.any, V.any, V.any,
  V.any, V.any, V.any, V.any, V.any, V.any, V.any, V.any, V.any, V.any, V.any, V.any, V.any, V.any, V.any, V.any, V.any, V.any, V.any, V.any, V.any, V.any, V.any, V.any, V.any,
  V.any, V.any, V.any, V.any, V.any, V.any, V.any, V.any, V.any, V.any, V.any, V.any, V.any, V.any, V.any, V.any, V.any, V.any, V.any, V.any, V.any, V.any, V.any, V.any, V.any,
  V.any, V.any], [some
    (Blk.box 89
      [C.d (.sc (.int .i64 qC)), C.d (.sc (.int .i64 qD)), C.d (.sl qE qF ET.step qG), C.d (.sc (.int .i64 qH)),
        C.d (.sc (.int .i64 qI)), C.d (.sc (.int .i64 qJ)), C.d (.sc (.int .i64 qK)), C.d (.sl qL qM ET.run qN),
        C.d (.sc (.int .i64 qO)), C.d (.sc (.int .i64 qP)), C.d (.sc (.int .i64 qQ)), C.d (.sl qR qS ET.mat qT),
        C.d (.sc (.bool qU)), C.d (.sc (.int .i64 qV)), C.d (.sc (.bool qW))]),
  some (Blk.box 29 [C.d (.sc (.str qX)), C.d (.sc (.int .i64 qY)), C.d (.sl qZ rA ET.val rB)]),
  some
    (Blk.box 89
      [C.d (.sc (.int .i64 rC)), C.d (.sc (.int .i64 rD)), C.d (.sl (some true) true ET.step rE), C.d (.sc (.int .i64 rF)),
        C.d (.sc (.int .i64 rG)), C.d (.sc (.int .i64 rH)), C.d (.sc (.int .i64 rI)), C.d (.sl (some true) true ET.run rJ),
        C.d (.sc (.int .i64 rK)), C.d (.sc (.int .i64 rL)), C.d (.sc (.int .i64 rM)), C.d (.sl (some true) true ET.mat rN),
        C.d (.sc (.bool rO)), C.d (.sc (.int .i64 rP)), C.d (.sc (.bool rQ))]),
  none, none, none,
  some
    (Blk.box 89
      [C.d (.sc (.int .i64 rR)), C.d (.sc (.int .i64 rS)), C.d (.sl rT rU ET.step rV), C.d (.sc (.int .i64 rW)),
        C.d (.sc (.int .i64 rX)), C.d (.sc (.int .i64 rY)), C.d (.sc (.int .i64 rZ)), C.d (.sl none false ET.run wA),
        C.d (.sc (.int .i64 wB)), C.d (.sc (.int .i64 wC)), C.d (.sc (.int .i64 wD)), C.d (.sl none false ET.mat wE),
        C.d (.sc (.bool wF)), C.d (.sc (.int .i64 wG)), C.d (.sc (.bool wH))]),
  none, none, none, none, none, none, none, none, none, none, none, none, none, none, none, none, none,
  some
    (Blk.box 143
      [C.d (.sc (.int .i64 wI)), C.d (.sc (.int .i64 wJ)), C.d (.sl none false ET.step wK), C.d (.sc (.int .i64 wL)),
        C.d (.sc (.int .i64 wM)), C.d (.sc (.int .i64 wN)), C.d (.sc (.int .i64 wO)), C.d (.sl none false ET.run wP),
        C.d (.sc (.int .i64 wQ)), C.d (.sc (.int .i64 v.h_24_9)), C.d (.sc (.int .i64 v.h_24_10)), C.d (.sl none false ET.mat v.h_24_11),
        C.d (.sc (.bool wR)), C.d (.sc (.int .i64 wS)), C.d (.sc (.bool wT))]),
  none, none, none, none, none, none, none, none, none, none, none, none, none, none, none, none, none,
  some
    (Blk.box 71
      [C.d (.sl none false ET.step wU), C.d (.sc (.int .i64 wV)), C.d (.sc (.int .i64 wW)), C.d (.sc (.int .i64 wX)),
        C.d (.sc (.int .i64 wY)), C.d (.sl none false ET.run wZ), C.d (.sc (.int .i64 zA))]),
  none, none, none, none, none, none, none, none, none, none, none, none, none, none, none], 0⟩)
  | _ => (.ret, ⟨[], [], 0⟩)
def U_sub_Feed_8_e6 (x : V) (K : Tree) : Tree := match x with
  | V.v false [C.ptr 2 0] => K
  | _ => .bad
def U_sub_Feed_8_e7 (x : V) (K : Tree) : Tree := match x with
  | V.v false [C.ptr 24 0] => K
  | _ => .bad
def U_sub_Feed_8_e8 (x : V) (K : Tree) : Tree := match x with
  | V.v false [C.ptr 42 0] => K
  | _ => .bad
def U_sub_Feed_8_e10 (x : V) (K : Tree) : Tree := match x with
  | V.v false [C.clo 106 [22 + 2] []] => K
  | _ => .bad
def U_sub_Feed_8_e42 (x : V) (K : (List (Ty .mat)) → Tree) : Tree := match x with
  | V.v false [C.d (.sl none false ET.mat qA)] => K qA
  | _ => .bad
def U_sub_Feed_8_e43 (x : V) (K : Int → Tree) : Tree := match x with
  | V.v false [C.d (.sc (.int .i64 qB))] => K qB
  | _ => .bad
def U_sub_Feed_8_e44 (x : V) (K : Int → Tree) : Tree := match x with
  | V.v false [C.d (.sc (.int .i64 t_44_0))] => K t_44_0
  | _ => .bad
def U_sub_Feed_8_h0 (x : Option Blk) (K : Int → Int → (Option Bool) → Bool → (List (Ty .step)) → Int → Int → Int → Int → (Option Bool) → Bool → (List (Ty .run)) → Int → Int → Int → (Option Bool) → Bool → (List (Ty .mat)) → Bool → Int → Bool → Tree) : Tree := match x with
  | some (Blk.box 89 [C.d (.sc (.int .i64 qC)), C.d (.sc (.int .i64 qD)), C.d (.sl qE qF ET.step qG), C.d (.sc (.int .i64 qH)), C.d (.sc (.int .i64 qI)), C.d (.sc (.int .i64 qJ)), C.d (.sc (.int .i64 qK)), C.d (.sl qL qM ET.run qN), C.d (.sc (.int .i64 qO)), C.d (.sc (.int .i64 qP)), C.d (.sc (.int .i64 qQ)), C.d (.sl qR qS ET.mat qT), C.d (.sc (.bool qU)), C.d (.sc (.int .i64 qV)), C.d (.sc (.bool qW))]) => K qC qD qE qF qG qH qI qJ qK qL qM qN qO qP qQ qR qS qT qU qV qW
  | _ => .bad
def U_sub_Feed_8_h1 (x : Option Blk) (K : ByteArray → Int → (Option Bool) → Bool → (List (Ty .val)) → Tree) : Tree := match x with
  | some (Blk.box 29 [C.d (.sc (.str qX)), C.d (.sc (.int .i64 qY)), C.d (.sl qZ rA ET.val rB)]) => K qX qY qZ rA rB
  | _ => .bad
def U_sub_Feed_8_h2 (x : Option Blk) (K : Int → Int → (List (Ty .step)) → Int → Int → Int → Int → (List (Ty .run)) → Int → Int → Int → (List (Ty .mat)) → Bool → Int → Bool → Tree) : Tree := match x with
  | some (Blk.box 89 [C.d (.sc (.int .i64 rC)), C.d (.sc (.int .i64 rD)), C.d (.sl (some true) true ET.step rE), C.d (.sc (.int .i64 rF)), C.d (.sc (.int .i64 rG)), C.d (.sc (.int .i64 rH)), C.d (.sc (.int .i64 rI)), C.d (.sl (some true) true ET.run rJ), C.d (.sc (.int .i64 rK)), C.d (.sc (.int .i64 rL)), C.d (.sc (.int .i64 rM)), C.d (.sl (some true) true ET.mat rN), C.d (.sc (.bool rO)), C.d (.sc (.int .i64 rP)), C.d (.sc (.bool rQ))]) => K rC rD rE rF rG rH rI rJ rK rL rM rN rO rP rQ
  | _ => .bad
def U_sub_Feed_8_h6 (x : Option Blk) (K : Int → Int → (Option Bool) → Bool → (List (Ty .step)) → Int → Int → Int → Int → (List (Ty .run)) → Int → Int → Int → (List (Ty .mat)) → Bool → Int → Bool → Tree) : Tree := match x with
  | some (Blk.box 89 [C.d (.sc (.int .i64 rR)), C.d (.sc (.int .i64 rS)), C.d (.sl rT rU ET.step rV), C.d (.sc (.int .i64 rW)), C.d (.sc (.int .i64 rX)), C.d (.sc (.int .i64 rY)), C.d (.sc (.int .i64 rZ)), C.d (.sl none false ET.run wA), C.d (.sc (.int .i64 wB)), C.d (.sc (.int .i64 wC)), C.d (.sc (.int .i64 wD)), C.d (.sl none false ET.mat wE), C.d (.sc (.bool wF)), C.d (.sc (.int .i64 wG)), C.d (.sc (.bool wH))]) => K rR rS rT rU rV rW rX rY rZ wA wB wC wD wE wF wG wH
  | _ => .bad
def U_sub_Feed_8_h24 (x : Option Blk) (K : Int → Int → (List (Ty .step)) → Int → Int → Int → Int → (List (Ty .run)) → Int → Int → Int → (List (Ty .mat)) → Bool → Int → Bool → Tree) : Tree := match x with
  | some (Blk.box 143 [C.d (.sc (.int .i64 wI)), C.d (.sc (.int .i64 wJ)), C.d (.sl none false ET.step wK), C.d (.sc (.int .i64 wL)), C.d (.sc (.int .i64 wM)), C.d (.sc (.int .i64 wN)), C.d (.sc (.int .i64 wO)), C.d (.sl none false ET.run wP), C.d (.sc (.int .i64 wQ)), C.d (.sc (.int .i64 h_24_9)), C.d (.sc (.int .i64 h_24_10)), C.d (.sl none false ET.mat h_24_11), C.d (.sc (.bool wR)), C.d (.sc (.int .i64 wS)), C.d (.sc (.bool wT))]) => K wI wJ wK wL wM wN wO wP wQ h_24_9 h_24_10 h_24_11 wR wS wT
  | _ => .bad
def U_sub_Feed_8_h42 (x : Option Blk) (K : (List (Ty .step)) → Int → Int → Int → Int → (List (Ty .run)) → Int → Tree) : Tree := match x with
  | some (Blk.box 71 [C.d (.sl none false ET.step wU), C.d (.sc (.int .i64 wV)), C.d (.sc (.int .i64 wW)), C.d (.sc (.int .i64 wX)), C.d (.sc (.int .i64 wY)), C.d (.sl none false ET.run wZ), C.d (.sc (.int .i64 zA))]) => K wU wV wW wX wY wZ zA
  | _ => .bad
def T1_sub_Feed_8 (e6 : V) (e7 : V) (e8 : V) (e10 : V) (e42 : V) (e43 : V) (e44 : V) (h0 : Option Blk) (h1 : Option Blk) (h2 : Option Blk) (h6 : Option Blk) (h24 : Option Blk) (h42 : Option Blk) : Tree := U_sub_Feed_8_e6 e6 (U_sub_Feed_8_e7 e7 (U_sub_Feed_8_e8 e8 (U_sub_Feed_8_e10 e10 (U_sub_Feed_8_e42 e42 (fun qA => U_sub_Feed_8_e43 e43 (fun qB => U_sub_Feed_8_e44 e44 (fun t_44_0 => U_sub_Feed_8_h0 h0 (fun qC qD qE qF qG qH qI qJ qK qL qM qN qO qP qQ qR qS qT qU qV qW => U_sub_Feed_8_h1 h1 (fun qX qY qZ rA rB => U_sub_Feed_8_h2 h2 (fun rC rD rE rF rG rH rI rJ rK rL rM rN rO rP rQ => U_sub_Feed_8_h6 h6 (fun rR rS rT rU rV rW rX rY rZ wA wB wC wD wE wF wG wH => U_sub_Feed_8_h24 h24 (fun wI wJ wK wL wM wN wO wP wQ h_24_9 h_24_10 h_24_11 wR wS wT => U_sub_Feed_8_h42 h42 (fun wU wV wW wX wY wZ zA => exT (fun j => ex_sub_Feed_8 qA qB qC qD qE qF qG qH qI qJ qK qL qM qN qO qP qQ qR qS qT qU qV qW qX qY qZ rA rB rC rD rE rF rG rH rI rJ rK rL rM rN rO rP rQ rR rS rT rU rV rW rX rY rZ wA wB wC wD wE wF wG wH wI wJ wK wL wM wN wO wP wQ wR wS wT wU wV wW wX wY wZ zA j (S.sub_Feed_8_v qA qB ⟨t_44_0, h_24_9, h_24_10, h_24_11⟩)) (S.sub_Feed_8_j qA qB ⟨t_44_0, h_24_9, h_24_10, h_24_11⟩) [0, 1, 2])))))))))))))
def T_sub_Feed_8 (st : St) : Tree := bif okSt 70 57 0 [0, 1, 2, 6, 24, 42] st then T1_sub_Feed_8 (st.env.getD 6 .any) (st.env.getD 7 .any) (st.env.getD 8 .any) (st.env.getD 10 .any) (st.env.getD 42 .any) (st.env.getD 43 .any) (st.env.getD 44 .any) (lk st.heap 0) (lk st.heap 1) (lk st.heap 2) (lk st.heap 6) (lk st.heap 24) (lk st.heap 42) else .bad
def b_sub_Feed_8 : Code := loopBy Try.f66 8
theorem rnd_sub_Feed_8 (qA : List (Ty .mat)) (qB : Int) (qC : Int) (qD : Int) (qE : Option Bool) (qF : Bool) (qG : List (Ty .step)) (qH : Int) (qI : Int) (qJ : Int) (qK : Int) (qL : Option Bool) (qM : Bool) (qN : List (Ty .run)) (qO : Int) (qP : Int) (qQ : Int) (qR : Option Bool) (qS : Bool) (qT : List (Ty .mat)) (qU : Bool) (qV : Int) (qW : Bool) (qX : ByteArray) (qY : Int) (qZ : Option Bool) (rA : Bool) (rB : List (Ty .val)) (rC : Int) (rD : Int) (rE : List (Ty .step)) (rF : Int) (rG : Int) (rH : Int) (rI : Int) (rJ : List (Ty .run)) (rK : Int) (rL : Int) (rM : Int) (rN : List (Ty .mat)) (rO : Bool) (rP : Int) (rQ : Bool) (rR : Int) (rS : Int) (rT : Option Bool) (rU : Bool) (rV : List (Ty .step)) (rW : Int) (rX : Int) (rY : Int) (rZ : Int) (wA : List (Ty .run)) (wB : Int) (wC : Int) (wD : Int) (wE : List (Ty .mat)) (wF : Bool) (wG : Int) (wH : Bool) (wI : Int) (wJ : Int) (wK : List (Ty .step)) (wL : Int) (wM : Int) (wN : Int) (wO : Int) (wP : List (Ty .run)) (wQ : Int) (wR : Bool) (wS : Int) (wT : Bool) (wU : List (Ty .step)) (wV : Int) (wW : Int) (wX : Int) (wY : Int) (wZ : List (Ty .run)) (zA : Int) (v : S.sub_Feed_8_V) : round2 cx_sub_Feed (hdI cx_sub_Feed (find []) [(105, Try.f105), (106, Try.f106), (107, Try.f107)] none 3) 66 b_sub_Feed_8 [] 57 [6, 7, 8] (mk_sub_Feed_8 qA qB qC qD qE qF qG qH qI qJ qK qL qM qN qO qP qQ qR qS qT qU qV qW qX qY qZ rA rB rC rD rE rF rG rH rI rJ rK rL rM rN rO rP rQ rR rS rT rU rV rW rX rY rZ wA wB wC wD wE wF wG wH wI wJ wK wL wM wN wO wP wQ wR wS wT wU wV wW wX wY wZ zA v) = (S.sub_Feed_8_R qA qB v).go (roundOut (mk_sub_Feed_8 qA qB qC qD qE qF qG qH qI qJ qK qL qM qN qO qP qQ qR qS qT qU qV qW qX qY qZ rA rB rC rD rE rF rG rH rI rJ rK rL rM rN rO rP rQ rR rS rT rU rV rW rX rY rZ wA wB wC wD wE wF wG wH wI wJ wK wL wM wN wO wP wQ wR wS wT wU wV wW wX wY wZ zA) (ex_sub_Feed_8 qA qB qC qD qE qF qG qH qI qJ qK qL qM qN qO qP qQ qR qS qT qU qV qW qX qY qZ rA rB rC rD rE rF rG rH rI rJ rK rL rM rN rO rP rQ rR rS rT rU rV rW rX rY rZ wA wB wC wD wE wF wG wH wI wJ wK wL wM wN wO wP wQ wR wS wT wU wV wW wX wY wZ zA)) := by kernel_rfl
theorem bs_sub_Feed_8 : loopsOf b_sub_Feed_8 ++ loopsInl [(105, Try.f105), (106, Try.f106), (107, Try.f107)] = [] := by kernel_rfl
theorem ci_sub_Feed_8 (qA : List (Ty .mat)) (qB : Int) (qC : Int) (qD : Int) (qE : Option Bool) (qF : Bool) (qG : List (Ty .step)) (qH : Int) (qI : Int) (qJ : Int) (qK : Int) (qL : Option Bool) (qM : Bool) (qN : List (Ty .run)) (qO : Int) (qP : Int) (qQ : Int) (qR : Option Bool) (qS : Bool) (qT : List (Ty .mat)) (qU : Bool) (qV : Int) (qW : Bool) (qX : ByteArray) (qY : Int) (qZ : Option Bool) (rA : Bool) (rB : List (Ty .val)) (rC : Int) (rD : Int) (rE : List (Ty .step)) (rF : Int) (rG : Int) (rH : Int) (rI : Int) (rJ : List (Ty .run)) (rK : Int) (rL : Int) (rM : Int) (rN : List (Ty .mat)) (rO : Bool) (rP : Int) (rQ : Bool) (rR : Int) (rS : Int) (rT : Option Bool) (rU : Bool) (rV : List (Ty .step)) (rW : Int) (rX : Int) (rY : Int) (rZ : Int) (wA : List (Ty .run)) (wB : Int) (wC : Int) (wD : Int) (wE : List (Ty .mat)) (wF : Bool) (wG : Int) (wH : Bool) (wI : Int) (wJ : Int) (wK : List (Ty .step)) (wL : Int) (wM : Int) (wN : Int) (wO : Int) (wP : List (Ty .run)) (wQ : Int) (wR : Bool) (wS : Int) (wT : Bool) (wU : List (Ty .step)) (wV : Int) (wW : Int) (wX : Int) (wY : Int) (wZ : List (Ty .run)) (zA : Int) : ∀ v j v2, Lp (S.sub_Feed_8_r qA qB) v = some (j, v2) → Circles Try.prog cx_sub_Feed b_sub_Feed_8 (mk_sub_Feed_8 qA qB qC qD qE qF qG qH qI qJ qK qL qM qN qO qP qQ qR qS qT qU qV qW qX qY qZ rA rB rC rD rE rF rG rH rI rJ rK rL rM rN rO rP rQ rR rS rT rU rV rW rX rY rZ wA wB wC wD wE wF wG wH wI wJ wK wL wM wN wO wP wQ wR wS wT wU wV wW wX wY wZ zA v) (ex_sub_Feed_8 qA qB qC qD qE qF qG qH qI qJ qK qL qM qN qO qP qQ qR qS qT qU qV qW qX qY qZ rA rB rC rD rE rF rG rH rI rJ rK rL rM rN rO rP rQ rR rS rT rU rV rW rX rY rZ wA wB wC wD wE wF wG wH wI wJ wK wL wM wN wO wP wQ wR wS wT wU wV wW wX wY wZ zA j v2).1 (ex_sub_Feed_8 qA qB qC qD qE qF qG qH qI qJ qK qL qM qN qO qP qQ qR qS qT qU qV qW qX qY qZ rA rB rC rD rE rF rG rH rI rJ rK rL rM rN rO rP rQ rR rS rT rU rV rW rX rY rZ wA wB wC wD wE wF wG wH wI wJ wK wL wM wN wO wP wQ wR wS wT wU wV wW wX wY wZ zA j v2).2 :=
  loop_ok2 (L := find []) (n := 3) (hints := [(66, 8, { keep := [6, 7, 8, 10, 42, 43, 44], acc := [] }), (66, 7, { keep := [], acc := [], frz := true }), (105, 7, { keep := [], acc := [], frz := true }), (106, 7, { keep := [], acc := [], frz := true }), (107, 7, { keep := [], acc := [], frz := true })]) (cx_ok rfl) rdy_sub_Feed bs_sub_Feed_8 nilB (fun v => (rnd_sub_Feed_8 qA qB qC qD qE qF qG qH qI qJ qK qL qM qN qO qP qQ qR qS qT qU qV qW qX qY qZ rA rB rC rD rE rF rG rH rI rJ rK rL rM rN rO rP rQ rR rS rT rU rV rW rX rY rZ wA wB wC wD wE wF wG wH wI wJ wK wL wM wN wO wP wQ wR wS wT wU wV wW wX wY wZ zA v).trans (DT.go_run _ _)) (by intro j v; unfold ex_sub_Feed_8; split <;> rfl)
theorem mke_sub_Feed_8 (qA : List (Ty .mat)) (qB : Int) (qC : Int) (qD : Int) (qE : Option Bool) (qF : Bool) (qG : List (Ty .step)) (qH : Int) (qI : Int) (qJ : Int) (qK : Int) (qL : Option Bool) (qM : Bool) (qN : List (Ty .run)) (qO : Int) (qP : Int) (qQ : Int) (qR : Option Bool) (qS : Bool) (qT : List (Ty .mat)) (qU : Bool) (qV : Int) (qW : Bool) (qX : ByteArray) (qY : Int) (qZ : Option Bool) (rA : Bool) (rB : List (Ty .val)) (rC : Int) (rD : Int) (rE : List (Ty .step)) (rF : Int) (rG : Int) (rH : Int) (rI : Int) (rJ : List (Ty .run)) (rK : Int) (rL : Int) (rM : Int) (rN : List (Ty .mat)) (rO : Bool) (rP : Int) (rQ : Bool) (rR : Int) (rS : Int) (rT : Option Bool) (rU : Bool) (rV : List (Ty .step)) (rW : Int) (rX : Int) (rY : Int) (rZ : Int) (wA : List (Ty .run)) (wB : Int) (wC : Int) (wD : Int) (wE : List (Ty .mat)) (wF : Bool) (wG : Int) (wH : Bool) (wI : Int) (wJ : Int) (wK : List (Ty .step)) (wL : Int) (wM : Int) (wN : Int) (wO : Int) (wP : List (Ty .run)) (wQ : Int) (wR : Bool) (wS : Int) (wT : Bool) (wU : List (Ty .step)) (wV : Int) (wW : Int) (wX : Int) (wY : Int) (wZ : List (Ty .run)) (zA : Int) (v : S.sub_Feed_8_V) : mk_sub_Feed_8 qA qB qC qD qE qF qG qH qI qJ qK qL qM qN qO qP qQ qR qS qT qU qV qW qX qY qZ rA rB rC rD rE rF rG rH rI rJ rK rL rM rN rO rP rQ rR rS rT rU rV rW rX rY rZ wA wB wC wD wE wF wG wH wI wJ wK wL wM wN wO wP wQ wR wS wT wU wV wW wX wY wZ zA v = ⟨envOf 70 [(6, V.v false [C.ptr 2 0]), (7, V.v false [C.ptr 24 0]), (8, V.v false [C.ptr 42 0]), (10, V.v false [C.clo 106 [22 + 2] []]), (42, V.v false [C.d (.sl none false ET.mat qA)]), (43, V.v false [C.d (.sc (.int .i64 qB))]), (44, V.v false [C.d (.sc (.int .i64 v.t_44_0))])], heapOf 57 [(0, some
  (Blk.box 89
    [C.d (.sc (.int .i64 qC)), C.d (.sc (.int .i64 qD)), C.d (.sl qE qF ET.step qG), C.d (.sc (.int .i64 qH)),
      C.d (.sc (.int .i64 qI)), C.d (.sc (.int .i64 qJ)), C.d (.sc (.int .i64 qK)), C.d (.sl qL qM ET.run qN),
      C.d (.sc (.int .i64 qO)), C.d (.sc (.int .i64 qP)), C.d (.sc (.int .i64 qQ)), C.d (.sl qR qS ET.mat qT),
      C.d (.sc (.bool qU)), C.d (.sc (.int .i64 qV)), C.d (.sc (.bool qW))])), (1, some (Blk.box 29 [C.d (.sc (.str qX)), C.d (.sc (.int .i64 qY)), C.d (.sl qZ rA ET.val rB)])), (2, some
  (Blk.box 89
    [C.d (.sc (.int .i64 rC)), C.d (.sc (.int .i64 rD)), C.d (.sl (some true) true ET.step rE), C.d (.sc (.int .i64 rF)),
      C.d (.sc (.int .i64 rG)), C.d (.sc (.int .i64 rH)), C.d (.sc (.int .i64 rI)), C.d (.sl (some true) true ET.run rJ),
      C.d (.sc (.int .i64 rK)), C.d (.sc (.int .i64 rL)), C.d (.sc (.int .i64 rM)), C.d (.sl (some true) true ET.mat rN),
      C.d (.sc (.bool rO)), C.d (.sc (.int .i64 rP)), C.d (.sc (.bool rQ))])), (6, some
  (Blk.box 89
    [C.d (.sc (.int .i64 rR)), C.d (.sc (.int .i64 rS)), C.d (.sl rT rU ET.step rV), C.d (.sc (.int .i64 rW)),
      C.d (.sc (.int .i64 rX)), C.d (.sc (.int .i64 rY)), C.d (.sc (.int .i64 rZ)), C.d (.sl none false ET.run wA),
      C.d (.sc (.int .i64 wB)), C.d (.sc (.int .i64 wC)), C.d (.sc (.int .i64 wD)), C.d (.sl none false ET.mat wE),
      C.d (.sc (.bool wF)), C.d (.sc (.int .i64 wG)), C.d (.sc (.bool wH))])), (24, some
  (Blk.box 143
    [C.d (.sc (.int .i64 wI)), C.d (.sc (.int .i64 wJ)), C.d (.sl none false ET.step wK), C.d (.sc (.int .i64 wL)),
      C.d (.sc (.int .i64 wM)), C.d (.sc (.int .i64 wN)), C.d (.sc (.int .i64 wO)), C.d (.sl none false ET.run wP),
      C.d (.sc (.int .i64 wQ)), C.d (.sc (.int .i64 v.h_24_9)), C.d (.sc (.int .i64 v.h_24_10)), C.d (.sl none false ET.mat v.h_24_11),
      C.d (.sc (.bool wR)), C.d (.sc (.int .i64 wS)), C.d (.sc (.bool wT))])), (42, some
  (Blk.box 71
    [C.d (.sl none false ET.step wU), C.d (.sc (.int .i64 wV)), C.d (.sc (.int .i64 wW)), C.d (.sc (.int .i64 wX)),
      C.d (.sc (.int .i64 wY)), C.d (.sl none false ET.run wZ), C.d (.sc (.int .i64 zA))]))], 0⟩ := by kernel_rfl
theorem Ui_sub_Feed_8_e6 {x : V} {K : Tree} {z : Ex × St} (h : (U_sub_Feed_8_e6 x K).eval = some z) : x = V.v false [C.ptr 2 0] ∧ (K).eval = some z := by
  unfold U_sub_Feed_8_e6 at h
  split at h
  · exact ⟨rfl, h⟩
  · cases h
theorem Ui_sub_Feed_8_e7 {x : V} {K : Tree} {z : Ex × St} (h : (U_sub_Feed_8_e7 x K).eval = some z) : x = V.v false [C.ptr 24 0] ∧ (K).eval = some z := by
  unfold U_sub_Feed_8_e7 at h
  split at h
  · exact ⟨rfl, h⟩
  · cases h
theorem Ui_sub_Feed_8_e8 {x : V} {K : Tree} {z : Ex × St} (h : (U_sub_Feed_8_e8 x K).eval = some z) : x = V.v false [C.ptr 42 0] ∧ (K).eval = some z := by
  unfold U_sub_Feed_8_e8 at h
  split at h
  · exact ⟨rfl, h⟩
  · cases h
theorem Ui_sub_Feed_8_e10 {x : V} {K : Tree} {z : Ex × St} (h : (U_sub_Feed_8_e10 x K).eval = some z) : x = V.v false [C.clo 106 [22 + 2] []] ∧ (K).eval = some z := by
  unfold U_sub_Feed_8_e10 at h
  split at h
  · exact ⟨rfl, h⟩
  · cases h
theorem Ui_sub_Feed_8_e42 {x : V} {K : (List (Ty .mat)) → Tree} {z : Ex × St} (h : (U_sub_Feed_8_e42 x K).eval = some z) : ∃ (qA : List (Ty .mat)), x = V.v false [C.d (.sl none false ET.mat qA)] ∧ (K qA).eval = some z := by
  unfold U_sub_Feed_8_e42 at h
  split at h
  · exact ⟨_, rfl, h⟩
  · cases h
theorem Ui_sub_Feed_8_e43 {x : V} {K : Int → Tree} {z : Ex × St} (h : (U_sub_Feed_8_e43 x K).eval = some z) : ∃ (qB : Int), x = V.v false [C.d (.sc (.int .i64 qB))] ∧ (K qB).eval = some z := by
  unfold U_sub_Feed_8_e43 at h
  split at h
  · exact ⟨_, rfl, h⟩
  · cases h
theorem Ui_sub_Feed_8_e44 {x : V} {K : Int → Tree} {z : Ex × St} (h : (U_sub_Feed_8_e44 x K).eval = some z) : ∃ (t_44_0 : Int), x = V.v false [C.d (.sc (.int .i64 t_44_0))] ∧ (K t_44_0).eval = some z := by
  unfold U_sub_Feed_8_e44 at h
  split at h
  · exact ⟨_, rfl, h⟩
  · cases h
theorem Ui_sub_Feed_8_h0 {x : Option Blk} {K : Int → Int → (Option Bool) → Bool → (List (Ty .step)) → Int → Int → Int → Int → (Option Bool) → Bool → (List (Ty .run)) → Int → Int → Int → (Option Bool) → Bool → (List (Ty .mat)) → Bool → Int → Bool → Tree} {z : Ex × St} (h : (U_sub_Feed_8_h0 x K).eval = some z) : ∃ (qC : Int) (qD : Int) (qE : Option Bool) (qF : Bool) (qG : List (Ty .step)) (qH : Int) (qI : Int) (qJ : Int) (qK : Int) (qL : Option Bool) (qM : Bool) (qN : List (Ty .run)) (qO : Int) (qP : Int) (qQ : Int) (qR : Option Bool) (qS : Bool) (qT : List (Ty .mat)) (qU : Bool) (qV : Int) (qW : Bool), x = some (Blk.box 89 [C.d (.sc (.int .i64 qC)), C.d (.sc (.int .i64 qD)), C.d (.sl qE qF ET.step qG), C.d (.sc (.int .i64 qH)), C.d (.sc (.int .i64 qI)), C.d (.sc (.int .i64 qJ)), C.d (.sc (.int .i64 qK)), C.d (.sl qL qM ET.run qN), C.d (.sc (.int .i64 qO)), C.d (.sc (.int .i64 qP)), C.d (.sc (.int .i64 qQ)), C.d (.sl qR qS ET.mat qT), C.d (.sc (.bool qU)), C.d (.sc (.int .i64 qV)), C.d (.sc (.bool qW))]) ∧ (K qC qD qE qF qG qH qI qJ qK qL qM qN qO qP qQ qR qS qT qU qV qW).eval = some z := by
  unfold U_sub_Feed_8_h0 at h
  split at h
  · exact ⟨_, _, _, _, _, _, _, _, _, _, _, _, _, _, _, _, _, _, _, _, _, rfl, h⟩
  · cases h
theorem Ui_sub_Feed_8_h1 {x : Option Blk} {K : ByteArray → Int → (Option Bool) → Bool → (List (Ty .val)) → Tree} {z : Ex × St} (h : (U_sub_Feed_8_h1 x K).eval = some z) : ∃ (qX : ByteArray) (qY : Int) (qZ : Option Bool) (rA : Bool) (rB : List (Ty .val)), x = some (Blk.box 29 [C.d (.sc (.str qX)), C.d (.sc (.int .i64 qY)), C.d (.sl qZ rA ET.val rB)]) ∧ (K qX qY qZ rA rB).eval = some z := by
  unfold U_sub_Feed_8_h1 at h
  split at h
  · exact ⟨_, _, _, _, _, rfl, h⟩
  · cases h
theorem Ui_sub_Feed_8_h2 {x : Option Blk} {K : Int → Int → (List (Ty .step)) → Int → Int → Int → Int → (List (Ty .run)) → Int → Int → Int → (List (Ty .mat)) → Bool → Int → Bool → Tree} {z : Ex × St} (h : (U_sub_Feed_8_h2 x K).eval = some z) : ∃ (rC : Int) (rD : Int) (rE : List (Ty .step)) (rF : Int) (rG : Int) (rH : Int) (rI : Int) (rJ : List (Ty .run)) (rK : Int) (rL : Int) (rM : Int) (rN : List (Ty .mat)) (rO : Bool) (rP : Int) (rQ : Bool), x = some (Blk.box 89 [C.d (.sc (.int .i64 rC)), C.d (.sc (.int .i64 rD)), C.d (.sl (some true) true ET.step rE), C.d (.sc (.int .i64 rF)), C.d (.sc (.int .i64 rG)), C.d (.sc (.int .i64 rH)), C.d (.sc (.int .i64 rI)), C.d (.sl (some true) true ET.run rJ), C.d (.sc (.int .i64 rK)), C.d (.sc (.int .i64 rL)), C.d (.sc (.int .i64 rM)), C.d (.sl (some true) true ET.mat rN), C.d (.sc (.bool rO)), C.d (.sc (.int .i64 rP)), C.d (.sc (.bool rQ))]) ∧ (K rC rD rE rF rG rH rI rJ rK rL rM rN rO rP rQ).eval = some z := by
  unfold U_sub_Feed_8_h2 at h
  split at h
  · exact ⟨_, _, _, _, _, _, _, _, _, _, _, _, _, _, _, rfl, h⟩
  · cases h
theorem Ui_sub_Feed_8_h6 {x : Option Blk} {K : Int → Int → (Option Bool) → Bool → (List (Ty .step)) → Int → Int → Int → Int → (List (Ty .run)) → Int → Int → Int → (List (Ty .mat)) → Bool → Int → Bool → Tree} {z : Ex × St} (h : (U_sub_Feed_8_h6 x K).eval = some z) : ∃ (rR : Int) (rS : Int) (rT : Option Bool) (rU : Bool) (rV : List (Ty .step)) (rW : Int) (rX : Int) (rY : Int) (rZ : Int) (wA : List (Ty .run)) (wB : Int) (wC : Int) (wD : Int) (wE : List (Ty .mat)) (wF : Bool) (wG : Int) (wH : Bool), x = some (Blk.box 89 [C.d (.sc (.int .i64 rR)), C.d (.sc (.int .i64 rS)), C.d (.sl rT rU ET.step rV), C.d (.sc (.int .i64 rW)), C.d (.sc (.int .i64 rX)), C.d (.sc (.int .i64 rY)), C.d (.sc (.int .i64 rZ)), C.d (.sl none false ET.run wA), C.d (.sc (.int .i64 wB)), C.d (.sc (.int .i64 wC)), C.d (.sc (.int .i64 wD)), C.d (.sl none false ET.mat wE), C.d (.sc (.bool wF)), C.d (.sc (.int .i64 wG)), C.d (.sc (.bool wH))]) ∧ (K rR rS rT rU rV rW rX rY rZ wA wB wC wD wE wF wG wH).eval = some z := by
  unfold U_sub_Feed_8_h6 at h
  split at h
  · exact ⟨_, _, _, _, _, _, _, _, _, _, _, _, _, _, _, _, _, rfl, h⟩
  · cases h
theorem Ui_sub_Feed_8_h24 {x : Option Blk} {K : Int → Int → (List (Ty .step)) → Int → Int → Int → Int → (List (Ty .run)) → Int → Int → Int → (List (Ty .mat)) → Bool → Int → Bool → Tree} {z : Ex × St} (h : (U_sub_Feed_8_h24 x K).eval = some z) : ∃ (wI : Int) (wJ : Int) (wK : List (Ty .step)) (wL : Int) (wM : Int) (wN : Int) (wO : Int) (wP : List (Ty .run)) (wQ : Int) (h_24_9 : Int) (h_24_10 : Int) (h_24_11 : List (Ty .mat)) (wR : Bool) (wS : Int) (wT : Bool), x = some (Blk.box 143 [C.d (.sc (.int .i64 wI)), C.d (.sc (.int .i64 wJ)), C.d (.sl none false ET.step wK), C.d (.sc (.int .i64 wL)), C.d (.sc (.int .i64 wM)), C.d (.sc (.int .i64 wN)), C.d (.sc (.int .i64 wO)), C.d (.sl none false ET.run wP), C.d (.sc (.int .i64 wQ)), C.d (.sc (.int .i64 h_24_9)), C.d (.sc (.int .i64 h_24_10)), C.d (.sl none false ET.mat h_24_11), C.d (.sc (.bool wR)), C.d (.sc (.int .i64 wS)), C.d (.sc (.bool wT))]) ∧ (K wI wJ wK wL wM wN wO wP wQ h_24_9 h_24_10 h_24_11 wR wS wT).eval = some z := by
  unfold U_sub_Feed_8_h24 at h
  split at h
  · exact ⟨_, _, _, _, _, _, _, _, _, _, _, _, _, _, _, rfl, h⟩
  · cases h
theorem Ui_sub_Feed_8_h42 {x : Option Blk} {K : (List (Ty .step)) → Int → Int → Int → Int → (List (Ty .run)) → Int → Tree} {z : Ex × St} (h : (U_sub_Feed_8_h42 x K).eval = some z) : ∃ (wU : List (Ty .step)) (wV : Int) (wW : Int) (wX : Int) (wY : Int) (wZ : List (Ty .run)) (zA : Int), x = some (Blk.box 71 [C.d (.sl none false ET.step wU), C.d (.sc (.int .i64 wV)), C.d (.sc (.int .i64 wW)), C.d (.sc (.int .i64 wX)), C.d (.sc (.int .i64 wY)), C.d (.sl none false ET.run wZ), C.d (.sc (.int .i64 zA))]) ∧ (K wU wV wW wX wY wZ zA).eval = some z := by
  unfold U_sub_Feed_8_h42 at h
  split at h
  · exact ⟨_, _, _, _, _, _, _, rfl, h⟩
  · cases h
theorem lo1_sub_Feed_8 (e6 : V) (e7 : V) (e8 : V) (e10 : V) (e42 : V) (e43 : V) (e44 : V) (h0 : Option Blk) (h1 : Option Blk) (h2 : Option Blk) (h6 : Option Blk) (h24 : Option Blk) (h42 : Option Blk) e st2 (h : (T1_sub_Feed_8 e6 e7 e8 e10 e42 e43 e44 h0 h1 h2 h6 h24 h42).eval = some (e, st2)) : Circles Try.prog cx_sub_Feed b_sub_Feed_8 ⟨envOf 70 [(6, e6), (7, e7), (8, e8), (10, e10), (42, e42), (43, e43), (44, e44)], heapOf 57 [(0, h0), (1, h1), (2, h2), (6, h6), (24, h24), (42, h42)], 0⟩ e st2 := by
  unfold T1_sub_Feed_8 at h
  obtain ⟨rfl, h⟩ := Ui_sub_Feed_8_e6 h
  obtain ⟨rfl, h⟩ := Ui_sub_Feed_8_e7 h
  obtain ⟨rfl, h⟩ := Ui_sub_Feed_8_e8 h
  obtain ⟨rfl, h⟩ := Ui_sub_Feed_8_e10 h
  obtain ⟨qA, rfl, h⟩ := Ui_sub_Feed_8_e42 h
  obtain ⟨qB, rfl, h⟩ := Ui_sub_Feed_8_e43 h
  obtain ⟨t_44_0, rfl, h⟩ := Ui_sub_Feed_8_e44 h
  obtain ⟨qC, qD, qE, qF, qG, qH, qI, qJ, qK, qL, qM, qN, qO, qP, qQ, qR, qS, qT, qU, qV, qW, rfl, h⟩ := Ui_sub_Feed_8_h0 h
  obtain ⟨qX, qY, qZ, rA, rB, rfl, h⟩ := Ui_sub_Feed_8_h1 h
  obtain ⟨rC, rD, rE, rF, rG, rH, rI, rJ, rK, rL, rM, rN, rO, rP, rQ, rfl, h⟩ := Ui_sub_Feed_8_h2 h
  obtain ⟨rR, rS, rT, rU, rV, rW, rX, rY, rZ, wA, wB, wC, wD, wE, wF, wG, wH, rfl, h⟩ := Ui_sub_Feed_8_h6 h
  obtain ⟨wI, wJ, wK, wL, wM, wN, wO, wP, wQ, h_24_9, h_24_10, h_24_11, wR, wS, wT, rfl, h⟩ := Ui_sub_Feed_8_h24 h
  obtain ⟨wU, wV, wW, wX, wY, wZ, zA, rfl, h⟩ := Ui_sub_Feed_8_h42 h
  have := loop_tree (mk := mk_sub_Feed_8 qA qB qC qD qE qF qG qH qI qJ qK qL qM qN qO qP qQ qR qS qT qU qV qW qX qY qZ rA rB rC rD rE rF rG rH rI rJ rK rL rM rN rO rP rQ rR rS rT rU rV rW rX rY rZ wA wB wC wD wE wF wG wH wI wJ wK wL wM wN wO wP wQ wR wS wT wU wV wW wX wY wZ zA) (ci_sub_Feed_8 qA qB qC qD qE qF qG qH qI qJ qK qL qM qN qO qP qQ qR qS qT qU qV qW qX qY qZ rA rB rC rD rE rF rG rH rI rJ rK rL rM rN rO rP rQ rR rS rT rU rV rW rX rY rZ wA wB wC wD wE wF wG wH wI wJ wK wL wM wN wO wP wQ wR wS wT wU wV wW wX wY wZ zA) _ _ e st2 h
  rw [mke_sub_Feed_8] at this
  exact this
theorem lok_sub_Feed_8 : LoopOk Try.prog cx_sub_Feed b_sub_Feed_8 T_sub_Feed_8 := by
  intro st e st2 h
  unfold T_sub_Feed_8 at h
  cases hk : okSt 70 57 0 [0, 1, 2, 6, 24, 42] st with
  | false => rw [hk] at h; cases h
  | true =>
    rw [hk] at h
    exact circles_keep (ks := [6, 7, 8, 10, 42, 43, 44]) hk (lo1_sub_Feed_8 _ _ _ _ _ _ _ _ _ _ _ _ _ e st2 h)
structure S.sub_Feed_T where
  x0 : Int
  x1 : Int
  x2 : List (Ty .step)
  x3 : Int
  x4 : Int
  x5 : Int
  x6 : Int
  x7 : List (Ty .run)
  x8 : Int
  x9 : Int
  x10 : Int
  x11 : List (Ty .mat)
  x12 : Bool
  x13 : Int
  x14 : Bool
  deriving Inhabited
def S.sub_Feed_R (a0_0 : Int) (a0_1 : Int) (a0_2 : List (Ty .step)) (a0_3 : Int) (a0_4 : Int) (a0_5 : Int) (a0_6 : Int) (a0_7 : List (Ty .run)) (a0_8 : Int) (a0_9 : Int) (a0_10 : Int) (a0_11 : List (Ty .mat)) (a0_12 : Bool) (a0_13 : Int) (a0_14 : Bool) (a1_0 : ByteArray) (a1_1 : Int) (a1_2 : List (Ty .val)) (a2 : Int) : DT S.sub_Feed_T :=
let y0 : Nat := 0 + (S.Clone_run_nn_o a0_7).x1
let y1 : Nat := (S.Clone_run_nn_o a0_7).x0.length
let y2 : Nat := 0 + (S.Clone_mat_nn_o a0_11).x1
let y3 : Nat := (S.Clone_mat_nn_o a0_11).x0.length
let y4 : Bool := xdec (y0 ≤ y1) && true && (xdec (y2 ≤ y3) && true && true) && true
let y5 : List (Ty .run) := sub (S.Clone_run_nn_o a0_7).x0 0 y0
let y6 : List (Ty .mat) := sub (S.Clone_mat_nn_o a0_11).x0 0 y2
let y7 : Bool := bif decide (y2 ≤ y3) then true else false
let y8 : S.match_Feed_T := S.match_Feed_o a0_2 a0_3 a0_4 a0_5 a0_6 a0_7 a0_8 a1_0 a1_1 a1_2 a2
let y9 : List (Ty .mat) := y8.x7
let y10 : Int := (↑y9.length : Int)
let y11 : S.sub_Feed_8_V := { t_44_0 := 0, h_24_9 := a0_9, h_24_10 := a0_10, h_24_11 := y6 : S.sub_Feed_8_V }
let y12 : List (Ty .step) := y8.x0
let y13 : Int := y8.x1
let y14 : Int := y8.x2
let y15 : Int := y8.x3
let y16 : Int := y8.x4
let y17 : Int := y8.x6
let y18 : S.sub_Feed_8_V := S.sub_Feed_8_v y9 y10 y11
let y19 : Int := y18.h_24_9
let y20 : Int := y18.h_24_10
let y21 : List (Ty .mat) := y18.h_24_11
let y22 : Ty ET.mat := y9.getD y18.t_44_0.toNat (dflt ET.mat)
let y23 : S.ring_Add_T := S.ring_Add_o y19 y20 y21 y22.start y22.fin y22.agg y22.bad
let y24 : Int := y23.x0
let y25 : Int := y23.x1
let y26 : List (Ty .run) := y8.x5
(.br (S.Clone_run_nn_is a0_7)
(.br (S.Clone_mat_nn_is a0_11)
(.br (S.sub_May_is a0_0 a0_1 a0_2 a0_7 a0_8 a0_9 a0_10 a0_11 a0_13 a0_14)
(.br (xnot (S.sub_May_o a0_0 a0_1 a0_2 a0_7 a0_8 a0_9 a0_10 a0_11 a0_13 a0_14).x0)
(.br (y4)
(.leaf ⟨a0_0, a0_1, a0_2, a0_3, a0_4, a0_5, a0_6, y5, a0_8, a0_9, a0_10, y6, a0_12, a0_13, a0_14⟩)
.fail)
(.br (xneI a0_13 0)
(.br (y4)
(.leaf ⟨a0_0, a0_1, a0_2, a0_3, a0_4, a0_5, a0_6, y5, a0_8, a0_9, a0_10, y6, a0_12, a0_13, a0_14⟩)
.fail)
(.br (S.match_Feed_is a0_2 a0_3 a0_4 a0_5 a0_6 a0_7 a0_8 a1_0 a1_1 a1_2 a2)
(.br (bif bif decide (y0 ≤ y1) then y7 else false then bif y7 then true else false else false)
(.br (S.sub_Feed_8_j y9 y10 y11 0)
(.leaf ⟨a0_0, a0_1, y12, y13, y14, y15, y16, [], y17, y24, y25, sub y23.x2 0 (xwrap IntKind.i64 (y25 - y24)).toNat, a0_12, 2, a0_14⟩)
(.br (S.sub_Feed_8_j y9 y10 y11 1)
(.leaf ⟨a0_0, a0_1, y12, y13, y14, y15, y16, [], y17, y19, y20, sub y21 0 (xwrap IntKind.i64 (y20 - y19)).toNat, a0_12, 2, a0_14⟩)
(.br (S.sub_Feed_8_j y9 y10 y11 2)
(.br (xneI y17 (-1))
(.leaf ⟨a0_0, a0_1, y12, y13, y14, y15, y16, y26, y17, y19, y20, y21, a0_12, 1, a0_14⟩)
(.leaf ⟨a0_0, a0_1, y12, y13, y14, y15, y16, y26, y17, y19, y20, y21, a0_12, a0_13, a0_14⟩))
.fail)))
.fail)
.fail)))
.fail)
.fail)
.fail)
def S.sub_Feed (a0_0 : Int) (a0_1 : Int) (a0_2 : List (Ty .step)) (a0_3 : Int) (a0_4 : Int) (a0_5 : Int) (a0_6 : Int) (a0_7 : List (Ty .run)) (a0_8 : Int) (a0_9 : Int) (a0_10 : Int) (a0_11 : List (Ty .mat)) (a0_12 : Bool) (a0_13 : Int) (a0_14 : Bool) (a1_0 : ByteArray) (a1_1 : Int) (a1_2 : List (Ty .val)) (a2 : Int) : Option S.sub_Feed_T := (S.sub_Feed_R a0_0 a0_1 a0_2 a0_3 a0_4 a0_5 a0_6 a0_7 a0_8 a0_9 a0_10 a0_11 a0_12 a0_13 a0_14 a1_0 a1_1 a1_2 a2).run
def S.sub_Feed_is (a0_0 : Int) (a0_1 : Int) (a0_2 : List (Ty .step)) (a0_3 : Int) (a0_4 : Int) (a0_5 : Int) (a0_6 : Int) (a0_7 : List (Ty .run)) (a0_8 : Int) (a0_9 : Int) (a0_10 : Int) (a0_11 : List (Ty .mat)) (a0_12 : Bool) (a0_13 : Int) (a0_14 : Bool) (a1_0 : ByteArray) (a1_1 : Int) (a1_2 : List (Ty .val)) (a2 : Int) : Bool := (S.sub_Feed a0_0 a0_1 a0_2 a0_3 a0_4 a0_5 a0_6 a0_7 a0_8 a0_9 a0_10 a0_11 a0_12 a0_13 a0_14 a1_0 a1_1 a1_2 a2).isSome
def S.sub_Feed_o (a0_0 : Int) (a0_1 : Int) (a0_2 : List (Ty .step)) (a0_3 : Int) (a0_4 : Int) (a0_5 : Int) (a0_6 : Int) (a0_7 : List (Ty .run)) (a0_8 : Int) (a0_9 : Int) (a0_10 : Int) (a0_11 : List (Ty .mat)) (a0_12 : Bool) (a0_13 : Int) (a0_14 : Bool) (a1_0 : ByteArray) (a1_1 : Int) (a1_2 : List (Ty .val)) (a2 : Int) : S.sub_Feed_T := (S.sub_Feed a0_0 a0_1 a0_2 a0_3 a0_4 a0_5 a0_6 a0_7 a0_8 a0_9 a0_10 a0_11 a0_12 a0_13 a0_14 a1_0 a1_1 a1_2 a2).getD default
def ret_sub_Feed (b : Bool) (r : S.sub_Feed_T) : Ret := ⟨b, none, [(true,
    [C.d (.sc (.int .i64 r.x0)), C.d (.sc (.int .i64 r.x1)), C.d (.sl none false ET.step r.x2), C.d (.sc (.int .i64 r.x3)),
      C.d (.sc (.int .i64 r.x4)), C.d (.sc (.int .i64 r.x5)), C.d (.sc (.int .i64 r.x6)), C.d (.sl none false ET.run r.x7),
      C.d (.sc (.int .i64 r.x8)), C.d (.sc (.int .i64 r.x9)), C.d (.sc (.int .i64 r.x10)), C.d (.sl none false ET.mat r.x11),
      C.d (.sc (.bool r.x12)), C.d (.sc (.int .i64 r.x13)), C.d (.sc (.bool r.x14))])]⟩
def g_sub_Feed : Con
  | [(true, [.sc (.int .i64 a0_0), .sc (.int .i64 a0_1), .sl a0_2n a0_2f .step a0_2, .sc (.int .i64 a0_3), .sc (.int .i64 a0_4), .sc (.int .i64 a0_5), .sc (.int .i64 a0_6), .sl a0_7n a0_7f .run a0_7, .sc (.int .i64 a0_8), .sc (.int .i64 a0_9), .sc (.int .i64 a0_10), .sl a0_11n a0_11f .mat a0_11, .sc (.bool a0_12), .sc (.int .i64 a0_13), .sc (.bool a0_14)]), (true, [.sc (.str a1_0), .sc (.int .i64 a1_1), .sl a1_2n a1_2f .val a1_2]), (false, [.sc (.int .i64 a2)])] => some (ret_sub_Feed (S.sub_Feed_is a0_0 a0_1 a0_2 a0_3 a0_4 a0_5 a0_6 a0_7 a0_8 a0_9 a0_10 a0_11 a0_12 a0_13 a0_14 a1_0 a1_1 a1_2 a2) (S.sub_Feed_o a0_0 a0_1 a0_2 a0_3 a0_4 a0_5 a0_6 a0_7 a0_8 a0_9 a0_10 a0_11 a0_12 a0_13 a0_14 a1_0 a1_1 a1_2 a2))
  | _ => none
theorem raw_sub_Feed (a0_0 : Int) (a0_1 : Int) (a0_2n : Option Bool) (a0_2f : Bool) (a0_2 : List (Ty .step)) (a0_3 : Int) (a0_4 : Int) (a0_5 : Int) (a0_6 : Int) (a0_7n : Option Bool) (a0_7f : Bool) (a0_7 : List (Ty .run)) (a0_8 : Int) (a0_9 : Int) (a0_10 : Int) (a0_11n : Option Bool) (a0_11f : Bool) (a0_11 : List (Ty .mat)) (a0_12 : Bool) (a0_13 : Int) (a0_14 : Bool) (a1_0 : ByteArray) (a1_1 : Int) (a1_2n : Option Bool) (a1_2f : Bool) (a1_2 : List (Ty .val)) (a2 : Int) : evR2 cx_sub_Feed (hdI cx_sub_Feed (find [(8, T_sub_Feed_8)]) [(105, Try.f105), (106, Try.f106), (107, Try.f107)] none 3) none Try.f66 66 none [(true, [.sc (.int .i64 a0_0), .sc (.int .i64 a0_1), .sl a0_2n a0_2f .step a0_2, .sc (.int .i64 a0_3), .sc (.int .i64 a0_4), .sc (.int .i64 a0_5), .sc (.int .i64 a0_6), .sl a0_7n a0_7f .run a0_7, .sc (.int .i64 a0_8), .sc (.int .i64 a0_9), .sc (.int .i64 a0_10), .sl a0_11n a0_11f .mat a0_11, .sc (.bool a0_12), .sc (.int .i64 a0_13), .sc (.bool a0_14)]), (true, [.sc (.str a1_0), .sc (.int .i64 a1_1), .sl a1_2n a1_2f .val a1_2]), (false, [.sc (.int .i64 a2)])] some = (S.sub_Feed_R a0_0 a0_1 a0_2 a0_3 a0_4 a0_5 a0_6 a0_7 a0_8 a0_9 a0_10 a0_11 a0_12 a0_13 a0_14 a1_0 a1_1 a1_2 a2).go (ret_sub_Feed true) := by kernel_rfl
theorem bs_sub_Feed : loopsIn Try.f66 [(105, Try.f105), (106, Try.f106), (107, Try.f107)] = [b_sub_Feed_8] := by kernel_rfl
theorem sub_Feed_ok : Stands Try.prog tyTab 66 g_sub_Feed := by
  refine stands3 (L := find [(8, T_sub_Feed_8)]) (n := 3) (hints := [(66, 8, { keep := [6, 7, 8, 10, 42, 43, 44], acc := [] }), (66, 7, { keep := [], acc := [], frz := true }), (105, 7, { keep := [], acc := [], frz := true }), (106, 7, { keep := [], acc := [], frz := true }), (107, 7, { keep := [], acc := [], frz := true })]) (cx_ok rfl) rdy_sub_Feed ⟨by kernel_rfl, by kernel_rfl, by kernel_rfl⟩ bs_sub_Feed (consB (fun T h => by have e : T_sub_Feed_8 = T := Option.some.inj (show some T_sub_Feed_8 = some T from h); exact e ▸ lok_sub_Feed_8) nilB) (fun das r hG hr => ?_)
  unfold g_sub_Feed at hG
  split at hG
  · rename_i a0_0 a0_1 a0_2n a0_2f a0_2 a0_3 a0_4 a0_5 a0_6 a0_7n a0_7f a0_7 a0_8 a0_9 a0_10 a0_11n a0_11f a0_11 a0_12 a0_13 a0_14 a1_0 a1_1 a1_2n a1_2f a1_2 a2
    injection hG with hG; subst hG
    exact ⟨none, true, win default ((raw_sub_Feed a0_0 a0_1 a0_2n a0_2f a0_2 a0_3 a0_4 a0_5 a0_6 a0_7n a0_7f a0_7 a0_8 a0_9 a0_10 a0_11n a0_11f a0_11 a0_12 a0_13 a0_14 a1_0 a1_1 a1_2n a1_2f a1_2 a2).trans (DT.go_run _ _)) hr⟩
  · cases hG
abbrev cx_law15_awake : Cx := mkCx2 tyTab [(65, g_sub_May), (66, g_sub_Feed), (67, g_sub_Same), (68, g_sub_Give), (78, g_sub_New), (80, g_law09_One)] [] [(63, 3, { keep := [1, 2], acc := [] })] []
theorem rdy_law15_awake : Ready Try.prog tyTab [(65, g_sub_May), (66, g_sub_Feed), (67, g_sub_Same), (68, g_sub_Give), (78, g_sub_New), (80, g_law09_One)] [] [] := ⟨consG2 sub_May_ok (consG2 sub_Feed_ok (consG2 sub_Same_ok (consG2 sub_Give_ok (consG2 sub_New_ok (consG2 law09_One_ok (noneG2)))))), noneI2, noneF2⟩
structure S.law15_awake_3_V where
  t_2_0 : Int
  h_3_0 : Int
  h_3_1 : Int
  h_3_2 : List (Ty .step)
  h_3_3 : Int
  h_3_4 : Int
  h_3_5 : Int
  h_3_6 : Int
  h_3_7 : List (Ty .run)
  h_3_8 : Int
  h_3_9 : Int
  h_3_10 : Int
  h_3_11 : List (Ty .mat)
  h_3_12 : Bool
  h_3_13 : Int
  h_3_14 : Bool
def S.law15_awake_3_R  (v : S.law15_awake_3_V) : DT (Option Nat × S.law15_awake_3_V) :=
let y0 : ByteArray := { data := { toList := [97] : Array UInt8 } : ByteArray }
let y1 : S.sub_Feed_T := S.sub_Feed_o v.h_3_0 v.h_3_1 v.h_3_2 v.h_3_3 v.h_3_4 v.h_3_5 v.h_3_6 v.h_3_7 v.h_3_8 v.h_3_9 v.h_3_10 v.h_3_11 v.h_3_12 v.h_3_13 v.h_3_14 y0 0 [] v.t_2_0
(.br (xdec (v.t_2_0 < 6))
(.br (S.sub_Feed_is v.h_3_0 v.h_3_1 v.h_3_2 v.h_3_3 v.h_3_4 v.h_3_5 v.h_3_6 v.h_3_7 v.h_3_8 v.h_3_9 v.h_3_10 v.h_3_11 v.h_3_12 v.h_3_13 v.h_3_14 y0 0 [] v.t_2_0)
(.leaf (none, ⟨xwrap IntKind.i64 (v.t_2_0 + 1), y1.x0, y1.x1, y1.x2, y1.x3, y1.x4, y1.x5, y1.x6, y1.x7, y1.x8, y1.x9, y1.x10, y1.x11, y1.x12, y1.x13, y1.x14⟩))
.fail)
(.leaf (some 0, v)))
def S.law15_awake_3_r  (v : S.law15_awake_3_V) : Option (Option Nat × S.law15_awake_3_V) := (S.law15_awake_3_R  v).run
def S.law15_awake_3_j  (v : S.law15_awake_3_V) (j : Nat) : Bool := Lp_j (S.law15_awake_3_r ) v j
def S.law15_awake_3_v  (v : S.law15_awake_3_V) : S.law15_awake_3_V := Lp_v (S.law15_awake_3_r ) v
def mk_law15_awake_3  (v : S.law15_awake_3_V) : St := ⟨[V.any, V.v false [C.ptr 3 0], V.v false [C.d (.sc (.int .i64 v.t_2_0))], V.any, V.any, V.any, V.any, V.any, V.any, V.any, V.any, V.any, V.any, V.any, V.any, V.any,
  V.any, V.any, V.any, V.any, V.any, V.any, V.any, V.any, V.any, V.any, V.any, V.any, V.any, V.any, V.any, V.any, V.any, V.any, V.any, V.any, V.any, V.any, V.any, V.any, V.any,
  V.any, V.any, V.any, V.any, V.any, V.any, V.any, V.any, V.any, V.any, V.any, V.any, V.any, V.any, V.any, V.any, V.any, V.any, V.any, V.any, V.any, V.any, V.any, V.any, V.any,
  V.any, V.any, V.any, V.any, V.any, V.any, V.any, V.any, V.any, V.any, V.any, V.any, V.any, V.any, V.any, V.any, V.any, V.any, V.any, V.any, V.any], [none, none, none,
  some
    (Blk.box 89
      [C.d (.sc (.int .i64 v.h_3_0)), C.d (.sc (.int .i64 v.h_3_1)), C.d (.sl none false ET.step v.h_3_2), C.d (.sc (.int .i64 v.h_3_3)),
        C.d (.sc (.int .i64 v.h_3_4)), C.d (.sc (.int .i64 v.h_3_5)), C.d (.sc (.int .i64 v.h_3_6)), C.d (.sl none false ET.run v.h_3_7),
        C.d (.sc (.int .i64 v.h_3_8)), C.d (.sc (.int .i64 v.h_3_9)), C.d (.sc (.int .i64 v.h_3_10)), C.d (.sl none false ET.mat v.h_3_11),
        C.d (.sc (.bool v.h_3_12)), C.d (.sc (.int .i64 v.h_3_13)), C.d (.sc (.bool v.h_3_14))]),
  none, none], 0⟩
def ex_law15_awake_3  (j : Nat) (v : S.law15_awake_3_V) : Ex × St := match j with
  | 0 => (Ex.exit 0, ⟨[V.any, V.v false [C.ptr 3 0], V.any, V.any, V.any, V.any, V.any, V.any, V.any, V.any, V.any, V.any, V.any, V.any, V.any, V.any, V.any, V.any, V.any, V.any, V.any, V.any, V.any,
  V.any, V.any, V.any, V.any, V.any, V.any, V.any, V.any, V.any, V.any, V.any, V.any, V.any, V.any, V.any, V.any, V.any, V.any, V.any, V.any, V.any, V.any, V.any, V.any, V.any,
  V.any, V.any, V.any, V.any, V.any, V.any, V.any, V.any, V.any, V.any, V.any, V.any, V.any, V.any, V.any, V.any, V.any, V.any, V.any, V.any, V.any, V.any, V.any, V.any, V.any,
  V.any, V.any, V.any, V.any, V.any, V.any, V.any, V.any, V.any, V.any, V.any, V.any, V.any, V.any], [none, none, none,
  some
    (Blk.box 89
      [C.d (.sc (.int .i64 v.h_3_0)), C.d (.sc (.int .i64 v.h_3_1)), C.d (.sl none false ET.step v.h_3_2), C.d (.sc (.int .i64 v.h_3_3)),
        C.d (.sc (.int .i64 v.h_3_4)), C.d (.sc (.int .i64 v.h_3_5)), C.d (.sc (.int .i64 v.h_3_6)), C.d (.sl none false ET.run v.h_3_7),
        C.d (.sc (.int .i64 v.h_3_8)), C.d (.sc (.int .i64 v.h_3_9)), C.d (.sc (.int .i64 v.h_3_10)), C.d (.sl none false ET.mat v.h_3_11),
        C.d (.sc (.bool v.h_3_12)), C.d (.sc (.int .i64 v.h_3_13)), C.d (.sc (.bool v.h_3_14))]),
  none, none, none, none], 0⟩)
  | _ => (.ret, ⟨[], [], 0⟩)
def T1_law15_awake_3 : V → V → Option Blk → Tree
  | V.v false [C.ptr 3 0], V.v false [C.d (.sc (.int .i64 t_2_0))], some (Blk.box 89 [C.d (.sc (.int .i64 h_3_0)), C.d (.sc (.int .i64 h_3_1)), C.d (.sl none false ET.step h_3_2), C.d (.sc (.int .i64 h_3_3)), C.d (.sc (.int .i64 h_3_4)), C.d (.sc (.int .i64 h_3_5)), C.d (.sc (.int .i64 h_3_6)), C.d (.sl none false ET.run h_3_7), C.d (.sc (.int .i64 h_3_8)), C.d (.sc (.int .i64 h_3_9)), C.d (.sc (.int .i64 h_3_10)), C.d (.sl none false ET.mat h_3_11), C.d (.sc (.bool h_3_12)), C.d (.sc (.int .i64 h_3_13)), C.d (.sc (.bool h_3_14))]) => exT (fun j => ex_law15_awake_3  j (S.law15_awake_3_v  ⟨t_2_0, h_3_0, h_3_1, h_3_2, h_3_3, h_3_4, h_3_5, h_3_6, h_3_7, h_3_8, h_3_9, h_3_10, h_3_11, h_3_12, h_3_13, h_3_14⟩)) (S.law15_awake_3_j  ⟨t_2_0, h_3_0, h_3_1, h_3_2, h_3_3, h_3_4, h_3_5, h_3_6, h_3_7, h_3_8, h_3_9, h_3_10, h_3_11, h_3_12, h_3_13, h_3_14⟩) [0]
  | _, _, _ => .bad
def T_law15_awake_3 (st : St) : Tree := bif okSt 87 6 0 [3] st then T1_law15_awake_3 (st.env.getD 1 .any) (st.env.getD 2 .any) (lk st.heap 3) else .bad
def b_law15_awake_3 : Code := loopBy Try.f63 3
theorem rnd_law15_awake_3  (v : S.law15_awake_3_V) : round2 cx_law15_awake (hdI cx_law15_awake (find []) [] none 0) 63 b_law15_awake_3 [] 6 [1] (mk_law15_awake_3  v) = (S.law15_awake_3_R  v).go (roundOut (mk_law15_awake_3 ) (ex_law15_awake_3 )) := by kernel_rfl
theorem bs_law15_awake_3 : loopsOf b_law15_awake_3 ++ loopsInl [] = [] := by kernel_rfl
theorem ci_law15_awake_3  : ∀ v j v2, Lp (S.law15_awake_3_r ) v = some (j, v2) → Circles Try.prog cx_law15_awake b_law15_awake_3 (mk_law15_awake_3  v) (ex_law15_awake_3  j v2).1 (ex_law15_awake_3  j v2).2 :=
  loop_ok2 (L := find []) (n := 0) (hints := [(63, 3, { keep := [1, 2], acc := [] })]) (cx_ok rfl) rdy_law15_awake bs_law15_awake_3 nilB (fun v => (rnd_law15_awake_3  v).trans (DT.go_run _ _)) (by intro j v; unfold ex_law15_awake_3; split <;> rfl)
theorem mke_law15_awake_3  (v : S.law15_awake_3_V) : mk_law15_awake_3  v = ⟨envOf 87 [(1, V.v false [C.ptr 3 0]), (2, V.v false [C.d (.sc (.int .i64 v.t_2_0))])], heapOf 6 [(3, some
  (Blk.box 89
    [C.d (.sc (.int .i64 v.h_3_0)), C.d (.sc (.int .i64 v.h_3_1)), C.d (.sl none false ET.step v.h_3_2), C.d (.sc (.int .i64 v.h_3_3)),
      C.d (.sc (.int .i64 v.h_3_4)), C.d (.sc (.int .i64 v.h_3_5)), C.d (.sc (.int .i64 v.h_3_6)), C.d (.sl none false ET.run v.h_3_7),
      C.d (.sc (.int .i64 v.h_3_8)), C.d (.sc (.int .i64 v.h_3_9)), C.d (.sc (.int .i64 v.h_3_10)), C.d (.sl none false ET.mat v.h_3_11),
      C.d (.sc (.bool v.h_3_12)), C.d (.sc (.int .i64 v.h_3_13)), C.d (.sc (.bool v.h_3_14))]))], 0⟩ := by kernel_rfl
theorem lo1_law15_awake_3 (e1 : V) (e2 : V) (h3 : Option Blk) e st2 (h : (T1_law15_awake_3 e1 e2 h3).eval = some (e, st2)) : Circles Try.prog cx_law15_awake b_law15_awake_3 ⟨envOf 87 [(1, e1), (2, e2)], heapOf 6 [(3, h3)], 0⟩ e st2 := by
  unfold T1_law15_awake_3 at h
  split at h
  · have := loop_tree (mk := mk_law15_awake_3 ) (ci_law15_awake_3 ) _ _ e st2 h
    rw [mke_law15_awake_3] at this
    exact this
  · cases h
theorem lok_law15_awake_3 : LoopOk Try.prog cx_law15_awake b_law15_awake_3 T_law15_awake_3 := by
  intro st e st2 h
  unfold T_law15_awake_3 at h
  cases hk : okSt 87 6 0 [3] st with
  | false => rw [hk] at h; cases h
  | true =>
    rw [hk] at h
    exact circles_keep (ks := [1, 2]) hk (lo1_law15_awake_3 _ _ _ e st2 h)
structure S.law15_awake_T where
  x0 : Bool
  deriving Inhabited
def S.law15_awake_R  : DT S.law15_awake_T :=
let y0 : S.sub_New_T := S.sub_New_o 3 1 S.law09_One_o.x0 S.law09_One_o.x1 S.law09_One_o.x2 S.law09_One_o.x3 S.law09_One_o.x4
let y1 : S.law15_awake_3_V := { t_2_0 := 0, h_3_0 := y0.x0, h_3_1 := y0.x1, h_3_2 := y0.x2, h_3_3 := y0.x3, h_3_4 := y0.x4, h_3_5 := y0.x5, h_3_6 := y0.x6, h_3_7 := y0.x7, h_3_8 := y0.x8, h_3_9 := y0.x9, h_3_10 := y0.x10, h_3_11 := y0.x11, h_3_12 := y0.x12, h_3_13 := y0.x13, h_3_14 := y0.x14 : S.law15_awake_3_V }
let y2 : S.law15_awake_3_V := S.law15_awake_3_v y1
let y3 : Int := y2.h_3_0
let y4 : Int := y2.h_3_1
let y5 : List (Ty .step) := y2.h_3_2
let y6 : Int := y2.h_3_3
let y7 : Int := y2.h_3_4
let y8 : Int := y2.h_3_5
let y9 : Int := y2.h_3_6
let y10 : List (Ty .run) := y2.h_3_7
let y11 : Int := y2.h_3_8
let y12 : Int := y2.h_3_9
let y13 : Int := y2.h_3_10
let y14 : List (Ty .mat) := y2.h_3_11
let y15 : Bool := y2.h_3_12
let y16 : Int := y2.h_3_13
let y17 : Bool := y2.h_3_14
let y18 : ByteArray := { data := { toList := [97] : Array UInt8 } : ByteArray }
let y19 : S.sub_Feed_T := S.sub_Feed_o y3 y4 y5 y6 y7 y8 y9 y10 y11 y12 y13 y14 y15 y16 y17 y18 0 [] 6
let y20 : Int := y19.x0
let y21 : Int := y19.x1
let y22 : List (Ty .step) := y19.x2
let y23 : Int := y19.x3
let y24 : Int := y19.x4
let y25 : Int := y19.x5
let y26 : Int := y19.x6
let y27 : List (Ty .run) := y19.x7
let y28 : Int := y19.x8
let y29 : Int := y19.x9
let y30 : Int := y19.x10
let y31 : List (Ty .mat) := y19.x11
let y32 : Bool := y19.x12
let y33 : Int := y19.x13
let y34 : Bool := y19.x14
let y35 : S.sub_Give_T := S.sub_Give_o y20 y21 y22 y23 y24 y25 y26 y27 y28 y29 y30 y31 y32 y33 y34
let y36 : Bool := y35.x14
let y37 : S.sub_Give_T := S.sub_Give_o y3 y4 y5 y6 y7 y8 y9 y10 y11 y12 y13 y14 y15 y16 y17
let y38 : Int := y35.x0
let y39 : Int := y35.x1
let y40 : List (Ty .step) := y35.x2
let y41 : List (Ty .run) := y35.x7
let y42 : Int := y35.x8
let y43 : Int := y35.x9
let y44 : Int := y35.x10
let y45 : List (Ty .mat) := y35.x11
let y46 : Int := y35.x13
(.br (S.law09_One_is)
(.br (S.law15_awake_3_j y1 0)
(.br (S.sub_Feed_is y3 y4 y5 y6 y7 y8 y9 y10 y11 y12 y13 y14 y15 y16 y17 y18 0 [] 6)
(.br (S.sub_Give_is y20 y21 y22 y23 y24 y25 y26 y27 y28 y29 y30 y31 y32 y33 y34)
(.br (S.sub_Give_is y3 y4 y5 y6 y7 y8 y9 y10 y11 y12 y13 y14 y15 y16 y17)
(.br (xeqI y16 0)
(.br (xeqI (↑y14.length : Int) 6)
(.br (xeqI y33 2)
(.br (xeqI (↑y31.length : Int) 0)
(.br (y35.x22)
(.br (xeqI y35.x15 3 && (xeqI y35.x16 0 && (xeqI y35.x17 2 && (xeqI y35.x18 0 && (xeqI y35.x19 0 && (xeqI y35.x20 0 && xeqB y35.x21 false))))))
(.br (y36)
(.br (y37.x22)
(.br (xeqI y37.x16 1)
(.br (S.sub_May_is y38 y39 y40 y41 y42 y43 y44 y45 y46 y36)
(.br ((S.sub_May_o y38 y39 y40 y41 y42 y43 y44 y45 y46 y36).x0)
(.br (S.sub_Same_is y3 y4 y5 y6 y7 y8 y9 y10 y11 y12 y13 y14 y15 y16 y17 y20 y21 y22 y23 y24 y25 y26 y27 y28 y29 y30 y31 y32 y33 y34)
(.leaf ⟨xnot (S.sub_Same_o y3 y4 y5 y6 y7 y8 y9 y10 y11 y12 y13 y14 y15 y16 y17 y20 y21 y22 y23 y24 y25 y26 y27 y28 y29 y30 y31 y32 y33 y34).x0⟩)
.fail)
(.leaf ⟨false⟩))
.fail)
(.leaf ⟨false⟩))
(.leaf ⟨false⟩))
(.leaf ⟨false⟩))
(.leaf ⟨false⟩))
(.leaf ⟨false⟩))
(.leaf ⟨false⟩))
(.leaf ⟨false⟩))
(.leaf ⟨false⟩))
(.leaf ⟨false⟩))
.fail)
.fail)
.fail)
.fail)
.fail)
def S.law15_awake  : Option S.law15_awake_T := (S.law15_awake_R ).run
def S.law15_awake_is  : Bool := (S.law15_awake ).isSome
def S.law15_awake_o  : S.law15_awake_T := (S.law15_awake ).getD default
def ret_law15_awake (b : Bool) (r : S.law15_awake_T) : Ret := ⟨b, none, [(false, [C.d (.sc (.bool r.x0))])]⟩
def g_law15_awake : Con
  | [] => some (ret_law15_awake (S.law15_awake_is ) (S.law15_awake_o ))
  | _ => none
theorem raw_law15_awake  : evR2 cx_law15_awake (hdI cx_law15_awake (find [(3, T_law15_awake_3)]) [] none 0) none Try.f63 63 none [] some = (S.law15_awake_R ).go (ret_law15_awake true) := by kernel_rfl
theorem bs_law15_awake : loopsIn Try.f63 [] = [b_law15_awake_3] := by kernel_rfl
theorem law15_awake_ok : Stands Try.prog tyTab 63 g_law15_awake := by
  refine stands3 (L := find [(3, T_law15_awake_3)]) (n := 0) (hints := [(63, 3, { keep := [1, 2], acc := [] })]) (cx_ok rfl) rdy_law15_awake ⟨by kernel_rfl, by kernel_rfl, by kernel_rfl⟩ bs_law15_awake (consB (fun T h => by have e : T_law15_awake_3 = T := Option.some.inj (show some T_law15_awake_3 = some T from h); exact e ▸ lok_law15_awake_3) nilB) (fun das r hG hr => ?_)
  unfold g_law15_awake at hG
  split at hG
  · injection hG with hG; subst hG
    exact ⟨none, true, win default ((raw_law15_awake ).trans (DT.go_run _ _)) hr⟩
  · cases hG
end
end Go.Eng
