/- Contracts, laid by program. -/
import Derived.Test.YtnafjjkjogngjaaG1
set_option linter.unusedVariables false
set_option linter.unusedSimpArgs false
namespace Go.Eng
open Go Go.Eng Go.Proofs Go.Eng.Tab
noncomputable abbrev cx_ref14_own : Cx := mkCx2 tyTab [] [] [] []
theorem rdy_ref14_own : Ready Try.prog tyTab [] [] [] := ⟨noneG2, noneI2, noneF2⟩
structure S.ref14_own_T where
  x0 : List (Ty ET.mat)
  x1 : Nat
  deriving Inhabited
noncomputable def S.ref14_own_R (a0 : List (Ty .mat)) (a1 : Int) : DT S.ref14_own_T :=
let y0 : Nat := a0.length
let y1 : List (Ty ET.mat) := sub a0 a1.toNat y0
let y2 : Nat := y1.length
(.br (xdec (0 ≤ a1) && xdec (a1 ≤ Int.ofNat y0) && true && true)
(.br (xdec (y2 ≤ 1048576))
(.leaf ⟨y1, y2⟩)
.fail)
.fail)
noncomputable def S.ref14_own (a0 : List (Ty .mat)) (a1 : Int) : Option S.ref14_own_T := (S.ref14_own_R a0 a1).run
noncomputable def S.ref14_own_is (a0 : List (Ty .mat)) (a1 : Int) : Bool := (S.ref14_own a0 a1).isSome
noncomputable def S.ref14_own_o (a0 : List (Ty .mat)) (a1 : Int) : S.ref14_own_T := (S.ref14_own a0 a1).getD default
noncomputable def ret_ref14_own (b : Bool) (r : S.ref14_own_T) : Ret := ⟨b, some (31, (⟨ET.mat, r.x0⟩ : (t : ET) × List (Ty t))), [(false, [C.own 4 ET.mat false 0 r.x1])]⟩
noncomputable def g_ref14_own : Con
  | [(false, [.sl a0n a0f .mat a0]), (false, [.sc (.int .i64 a1)])] => some (ret_ref14_own (S.ref14_own_is a0 a1) (S.ref14_own_o a0 a1))
  | _ => none
theorem raw_ref14_own (a0n : Option Bool) (a0f : Bool) (a0 : List (Ty .mat)) (a1 : Int) : evR2 cx_ref14_own (hdI cx_ref14_own (find []) [] none 0) none Try.f40 40 (some 31) [(false, [.sl a0n a0f .mat a0]), (false, [.sc (.int .i64 a1)])] some = (S.ref14_own_R a0 a1).go (ret_ref14_own true) := by kernel_rfl
theorem bs_ref14_own : loopsIn Try.f40 [] = [] := by kernel_rfl
theorem ref14_own_ok : Stands Try.prog tyTab 40 g_ref14_own := by
  refine stands3 (L := find []) (n := 0) (hints := []) (cx_ok rfl) rdy_ref14_own ⟨by kernel_rfl, by kernel_rfl, by kernel_rfl⟩ bs_ref14_own nilB (fun das r hG hr => ?_)
  unfold g_ref14_own at hG
  split at hG
  · rename_i a0n a0f a0 a1
    injection hG with hG; subst hG
    exact ⟨(some 31), true, win default ((raw_ref14_own a0n a0f a0 a1).trans (DT.go_run _ _)) hr⟩
  · cases hG
noncomputable abbrev cx_ref14_May : Cx := mkCx2 tyTab [] [] [] []
theorem rdy_ref14_May : Ready Try.prog tyTab [] [] [] := ⟨noneG2, noneI2, noneF2⟩
structure S.ref14_May_T where
  x0 : Bool
  deriving Inhabited
noncomputable def S.ref14_May_R (a0_0 : Int) (a0_1 : Int) (a0_2 : List (Ty .mat)) : DT S.ref14_May_T :=
let y0 : Int := (↑a0_2.length : Int)
let y1 : Int := xwrap IntKind.i64 (a0_0 + y0)
(.br (xdec (a0_0 < 0))
(.leaf ⟨false⟩)
(.br (xdec (a0_0 > 1099511627776))
(.leaf ⟨false⟩)
(.br (xdec (y0 > 6))
(.leaf ⟨false⟩)
(.br (xdec (y1 > 1099511627776))
(.leaf ⟨false⟩)
(.br (xdec (a0_1 ≥ a0_0))
(.leaf ⟨xdec (a0_1 ≤ y1)⟩)
(.leaf ⟨false⟩))))))
noncomputable def S.ref14_May (a0_0 : Int) (a0_1 : Int) (a0_2 : List (Ty .mat)) : Option S.ref14_May_T := (S.ref14_May_R a0_0 a0_1 a0_2).run
noncomputable def S.ref14_May_is (a0_0 : Int) (a0_1 : Int) (a0_2 : List (Ty .mat)) : Bool := (S.ref14_May a0_0 a0_1 a0_2).isSome
noncomputable def S.ref14_May_o (a0_0 : Int) (a0_1 : Int) (a0_2 : List (Ty .mat)) : S.ref14_May_T := (S.ref14_May a0_0 a0_1 a0_2).getD default
noncomputable def ret_ref14_May (b : Bool) (r : S.ref14_May_T) : Ret := ⟨b, none, [(false, [C.d (D.sc (Sc.bool r.x0))])]⟩
noncomputable def g_ref14_May : Con
  | [(true, [.sc (.int .i64 a0_0), .sc (.int .i64 a0_1), .sl a0_2n a0_2f .mat a0_2])] => some (ret_ref14_May (S.ref14_May_is a0_0 a0_1 a0_2) (S.ref14_May_o a0_0 a0_1 a0_2))
  | _ => none
theorem raw_ref14_May (a0_0 : Int) (a0_1 : Int) (a0_2n : Option Bool) (a0_2f : Bool) (a0_2 : List (Ty .mat)) : evR2 cx_ref14_May (hdI cx_ref14_May (find []) [] none 0) none Try.f26 26 none [(true, [.sc (.int .i64 a0_0), .sc (.int .i64 a0_1), .sl a0_2n a0_2f .mat a0_2])] some = (S.ref14_May_R a0_0 a0_1 a0_2).go (ret_ref14_May true) := by kernel_rfl
theorem bs_ref14_May : loopsIn Try.f26 [] = [] := by kernel_rfl
theorem ref14_May_ok : Stands Try.prog tyTab 26 g_ref14_May := by
  refine stands3 (L := find []) (n := 0) (hints := []) (cx_ok rfl) rdy_ref14_May ⟨by kernel_rfl, by kernel_rfl, by kernel_rfl⟩ bs_ref14_May nilB (fun das r hG hr => ?_)
  unfold g_ref14_May at hG
  split at hG
  · rename_i a0_0 a0_1 a0_2n a0_2f a0_2
    injection hG with hG; subst hG
    exact ⟨none, true, win default ((raw_ref14_May a0_0 a0_1 a0_2n a0_2f a0_2).trans (DT.go_run _ _)) hr⟩
  · cases hG
noncomputable abbrev cx_ref14_why : Cx := mkCx2 tyTab [(26, g_ref14_May)] [] [] []
theorem rdy_ref14_why : Ready Try.prog tyTab [(26, g_ref14_May)] [] [] := ⟨consG2 ref14_May_ok (noneG2), noneI2, noneF2⟩
structure S.ref14_why_T where
  x0 : Int
  deriving Inhabited
noncomputable def S.ref14_why_R (a0_0 : Int) (a0_1 : Int) (a0_2 : List (Ty .mat)) (a1 : Int) : DT S.ref14_why_T :=
(.br (S.ref14_May_is a0_0 a0_1 a0_2)
(.br (xnot (S.ref14_May_o a0_0 a0_1 a0_2).x0)
(.leaf ⟨1⟩)
(.br (xdec (a1 < a0_0))
(.leaf ⟨9⟩)
(.br (xdec (a1 > a0_1))
(.leaf ⟨9⟩)
(.leaf ⟨0⟩))))
.fail)
noncomputable def S.ref14_why (a0_0 : Int) (a0_1 : Int) (a0_2 : List (Ty .mat)) (a1 : Int) : Option S.ref14_why_T := (S.ref14_why_R a0_0 a0_1 a0_2 a1).run
noncomputable def S.ref14_why_is (a0_0 : Int) (a0_1 : Int) (a0_2 : List (Ty .mat)) (a1 : Int) : Bool := (S.ref14_why a0_0 a0_1 a0_2 a1).isSome
noncomputable def S.ref14_why_o (a0_0 : Int) (a0_1 : Int) (a0_2 : List (Ty .mat)) (a1 : Int) : S.ref14_why_T := (S.ref14_why a0_0 a0_1 a0_2 a1).getD default
noncomputable def ret_ref14_why (b : Bool) (r : S.ref14_why_T) : Ret := ⟨b, none, [(false, [C.d (D.sc (Sc.int IntKind.i64 r.x0))])]⟩
noncomputable def g_ref14_why : Con
  | [(true, [.sc (.int .i64 a0_0), .sc (.int .i64 a0_1), .sl a0_2n a0_2f .mat a0_2]), (false, [.sc (.int .i64 a1)])] => some (ret_ref14_why (S.ref14_why_is a0_0 a0_1 a0_2 a1) (S.ref14_why_o a0_0 a0_1 a0_2 a1))
  | _ => none
theorem raw_ref14_why (a0_0 : Int) (a0_1 : Int) (a0_2n : Option Bool) (a0_2f : Bool) (a0_2 : List (Ty .mat)) (a1 : Int) : evR2 cx_ref14_why (hdI cx_ref14_why (find []) [] none 0) none Try.f41 41 none [(true, [.sc (.int .i64 a0_0), .sc (.int .i64 a0_1), .sl a0_2n a0_2f .mat a0_2]), (false, [.sc (.int .i64 a1)])] some = (S.ref14_why_R a0_0 a0_1 a0_2 a1).go (ret_ref14_why true) := by kernel_rfl
theorem bs_ref14_why : loopsIn Try.f41 [] = [] := by kernel_rfl
theorem ref14_why_ok : Stands Try.prog tyTab 41 g_ref14_why := by
  refine stands3 (L := find []) (n := 0) (hints := []) (cx_ok rfl) rdy_ref14_why ⟨by kernel_rfl, by kernel_rfl, by kernel_rfl⟩ bs_ref14_why nilB (fun das r hG hr => ?_)
  unfold g_ref14_why at hG
  split at hG
  · rename_i a0_0 a0_1 a0_2n a0_2f a0_2 a1
    injection hG with hG; subst hG
    exact ⟨none, true, win default ((raw_ref14_why a0_0 a0_1 a0_2n a0_2f a0_2 a1).trans (DT.go_run _ _)) hr⟩
  · cases hG
noncomputable abbrev cx_ref14_Add : Cx := mkCx2 tyTab [(26, g_ref14_May), (40, g_ref14_own)] [] [] []
theorem rdy_ref14_Add : Ready Try.prog tyTab [(26, g_ref14_May), (40, g_ref14_own)] [] [] := ⟨consG2 ref14_May_ok (consG2 ref14_own_ok (noneG2)), noneI2, noneF2⟩
structure S.ref14_Add_T where
  x0 : Int
  x1 : Int
  x2 : List (Ty ET.mat)
  x3 : Bool
  deriving Inhabited
noncomputable def S.ref14_Add_R (a0_0 : Int) (a0_1 : Int) (a0_2 : List (Ty .mat)) (a1_0 : Int) (a1_1 : Int) (a1_2 : Int) (a1_3 : Bool) : DT S.ref14_Add_T :=
let y0 : Int := (↑a0_2.length : Int)
let y1 : Mat := { start := a1_0, fin := a1_1, agg := a1_2, bad := a1_3 : Mat }
let y2 : S.ref14_own_T := S.ref14_own_o a0_2 0
let y3 : Nat := y2.x1
let y4 : List (Ty ET.mat) := y2.x0
let y5 : Nat := y3 + 1
let y6 : Nat := 0 + y5
let y7 : List (Ty ET.mat) := List.take y3 y4 ++ [y1]
(.br (S.ref14_May_is a0_0 a0_1 a0_2)
(.br (xnot (S.ref14_May_o a0_0 a0_1 a0_2).x0)
(.leaf ⟨a0_0, a0_1, a0_2, false⟩)
(.br (xdec (y0 ≥ 6))
(.leaf ⟨a0_0, a0_1, a0_2, false⟩)
(.br (xdec (xwrap IntKind.i64 (a0_0 + y0) ≥ 1099511627776))
(.leaf ⟨a0_0, a0_1, a0_2, false⟩)
(.br (S.ref14_own_is a0_2 0)
(.br (xdec (0 + 1 ≤ ((List.replicate 1 (dflt ET.mat)).set 0 y1).length) && xdec (y3 ≤ y4.length) && xdec (y5 ≤ 1048576))
(.br (xdec (y6 ≤ y7.length) && true && true && true)
(.leaf ⟨a0_0, a0_1, sub y7 0 y6, true⟩)
.fail)
.fail)
.fail))))
.fail)
noncomputable def S.ref14_Add (a0_0 : Int) (a0_1 : Int) (a0_2 : List (Ty .mat)) (a1_0 : Int) (a1_1 : Int) (a1_2 : Int) (a1_3 : Bool) : Option S.ref14_Add_T := (S.ref14_Add_R a0_0 a0_1 a0_2 a1_0 a1_1 a1_2 a1_3).run
noncomputable def S.ref14_Add_is (a0_0 : Int) (a0_1 : Int) (a0_2 : List (Ty .mat)) (a1_0 : Int) (a1_1 : Int) (a1_2 : Int) (a1_3 : Bool) : Bool := (S.ref14_Add a0_0 a0_1 a0_2 a1_0 a1_1 a1_2 a1_3).isSome
noncomputable def S.ref14_Add_o (a0_0 : Int) (a0_1 : Int) (a0_2 : List (Ty .mat)) (a1_0 : Int) (a1_1 : Int) (a1_2 : Int) (a1_3 : Bool) : S.ref14_Add_T := (S.ref14_Add a0_0 a0_1 a0_2 a1_0 a1_1 a1_2 a1_3).getD default
noncomputable def ret_ref14_Add (b : Bool) (r : S.ref14_Add_T) : Ret := ⟨b, none, [(true, [C.d (D.sc (Sc.int IntKind.i64 r.x0)), C.d (D.sc (Sc.int IntKind.i64 r.x1)), C.d (D.sl none false ET.mat r.x2)]), (false, [C.d (D.sc (Sc.bool r.x3))])]⟩
noncomputable def g_ref14_Add : Con
  | [(true, [.sc (.int .i64 a0_0), .sc (.int .i64 a0_1), .sl a0_2n a0_2f .mat a0_2]), (true, [.sc (.int .i64 a1_0), .sc (.int .i64 a1_1), .sc (.int .i64 a1_2), .sc (.bool a1_3)])] => some (ret_ref14_Add (S.ref14_Add_is a0_0 a0_1 a0_2 a1_0 a1_1 a1_2 a1_3) (S.ref14_Add_o a0_0 a0_1 a0_2 a1_0 a1_1 a1_2 a1_3))
  | _ => none
theorem raw_ref14_Add (a0_0 : Int) (a0_1 : Int) (a0_2n : Option Bool) (a0_2f : Bool) (a0_2 : List (Ty .mat)) (a1_0 : Int) (a1_1 : Int) (a1_2 : Int) (a1_3 : Bool) : evR2 cx_ref14_Add (hdI cx_ref14_Add (find []) [] none 0) none Try.f21 21 none [(true, [.sc (.int .i64 a0_0), .sc (.int .i64 a0_1), .sl a0_2n a0_2f .mat a0_2]), (true, [.sc (.int .i64 a1_0), .sc (.int .i64 a1_1), .sc (.int .i64 a1_2), .sc (.bool a1_3)])] some = (S.ref14_Add_R a0_0 a0_1 a0_2 a1_0 a1_1 a1_2 a1_3).go (ret_ref14_Add true) := by kernel_rfl
theorem bs_ref14_Add : loopsIn Try.f21 [] = [] := by kernel_rfl
theorem ref14_Add_ok : Stands Try.prog tyTab 21 g_ref14_Add := by
  refine stands3 (L := find []) (n := 0) (hints := []) (cx_ok rfl) rdy_ref14_Add ⟨by kernel_rfl, by kernel_rfl, by kernel_rfl⟩ bs_ref14_Add nilB (fun das r hG hr => ?_)
  unfold g_ref14_Add at hG
  split at hG
  · rename_i a0_0 a0_1 a0_2n a0_2f a0_2 a1_0 a1_1 a1_2 a1_3
    injection hG with hG; subst hG
    exact ⟨none, true, win default ((raw_ref14_Add a0_0 a0_1 a0_2n a0_2f a0_2 a1_0 a1_1 a1_2 a1_3).trans (DT.go_run _ _)) hr⟩
  · cases hG
noncomputable abbrev cx_ref14_Next : Cx := mkCx2 tyTab [(26, g_ref14_May)] [] [] []
theorem rdy_ref14_Next : Ready Try.prog tyTab [(26, g_ref14_May)] [] [] := ⟨consG2 ref14_May_ok (noneG2), noneI2, noneF2⟩
structure S.ref14_Next_T where
  x0 : Int
  x1 : Int
  x2 : List (Ty ET.mat)
  x3 : Int
  x4 : Int
  x5 : Int
  x6 : Int
  x7 : Bool
  x8 : Bool
  deriving Inhabited
noncomputable def S.ref14_Next_R (a0_0 : Int) (a0_1 : Int) (a0_2 : List (Ty .mat)) : DT S.ref14_Next_T :=
let y0 : Int := (↑a0_2.length : Int)
let y1 : Int := xwrap IntKind.i64 (a0_1 - a0_0)
let y2 : Int := xwrap IntKind.i64 (a0_1 + 1)
let y3 : Ty ET.mat := a0_2.getD y1.toNat (dflt ET.mat)
(.br (S.ref14_May_is a0_0 a0_1 a0_2)
(.br (xnot (S.ref14_May_o a0_0 a0_1 a0_2).x0)
(.leaf ⟨a0_0, a0_1, a0_2, 0, 0, 0, 0, false, false⟩)
(.br (xdec (a0_1 ≥ xwrap IntKind.i64 (a0_0 + y0)))
(.leaf ⟨a0_0, a0_1, a0_2, 0, 0, 0, 0, false, false⟩)
(.br (xdec (0 ≤ y1) && xdec (y1 < y0))
(.leaf ⟨a0_0, y2, a0_2, y2, y3.start, y3.fin, y3.agg, y3.bad, true⟩)
.fail)))
.fail)
noncomputable def S.ref14_Next (a0_0 : Int) (a0_1 : Int) (a0_2 : List (Ty .mat)) : Option S.ref14_Next_T := (S.ref14_Next_R a0_0 a0_1 a0_2).run
noncomputable def S.ref14_Next_is (a0_0 : Int) (a0_1 : Int) (a0_2 : List (Ty .mat)) : Bool := (S.ref14_Next a0_0 a0_1 a0_2).isSome
noncomputable def S.ref14_Next_o (a0_0 : Int) (a0_1 : Int) (a0_2 : List (Ty .mat)) : S.ref14_Next_T := (S.ref14_Next a0_0 a0_1 a0_2).getD default
noncomputable def ret_ref14_Next (b : Bool) (r : S.ref14_Next_T) : Ret := ⟨b, none, [(true, [C.d (D.sc (Sc.int IntKind.i64 r.x0)), C.d (D.sc (Sc.int IntKind.i64 r.x1)), C.d (D.sl none false ET.mat r.x2)]), (false, [C.d (D.sc (Sc.int IntKind.i64 r.x3))]),
  (true, [C.d (D.sc (Sc.int IntKind.i64 r.x4)), C.d (D.sc (Sc.int IntKind.i64 r.x5)), C.d (D.sc (Sc.int IntKind.i64 r.x6)), C.d (D.sc (Sc.bool r.x7))]),
  (false, [C.d (D.sc (Sc.bool r.x8))])]⟩
noncomputable def g_ref14_Next : Con
  | [(true, [.sc (.int .i64 a0_0), .sc (.int .i64 a0_1), .sl a0_2n a0_2f .mat a0_2])] => some (ret_ref14_Next (S.ref14_Next_is a0_0 a0_1 a0_2) (S.ref14_Next_o a0_0 a0_1 a0_2))
  | _ => none
theorem raw_ref14_Next (a0_0 : Int) (a0_1 : Int) (a0_2n : Option Bool) (a0_2f : Bool) (a0_2 : List (Ty .mat)) : evR2 cx_ref14_Next (hdI cx_ref14_Next (find []) [] none 0) none Try.f22 22 none [(true, [.sc (.int .i64 a0_0), .sc (.int .i64 a0_1), .sl a0_2n a0_2f .mat a0_2])] some = (S.ref14_Next_R a0_0 a0_1 a0_2).go (ret_ref14_Next true) := by kernel_rfl
theorem bs_ref14_Next : loopsIn Try.f22 [] = [] := by kernel_rfl
theorem ref14_Next_ok : Stands Try.prog tyTab 22 g_ref14_Next := by
  refine stands3 (L := find []) (n := 0) (hints := []) (cx_ok rfl) rdy_ref14_Next ⟨by kernel_rfl, by kernel_rfl, by kernel_rfl⟩ bs_ref14_Next nilB (fun das r hG hr => ?_)
  unfold g_ref14_Next at hG
  split at hG
  · rename_i a0_0 a0_1 a0_2n a0_2f a0_2
    injection hG with hG; subst hG
    exact ⟨none, true, win default ((raw_ref14_Next a0_0 a0_1 a0_2n a0_2f a0_2).trans (DT.go_run _ _)) hr⟩
  · cases hG
noncomputable abbrev cx_ref14_Ack : Cx := mkCx2 tyTab [(40, g_ref14_own), (41, g_ref14_why)] [] [] []
theorem rdy_ref14_Ack : Ready Try.prog tyTab [(40, g_ref14_own), (41, g_ref14_why)] [] [] := ⟨consG2 ref14_own_ok (consG2 ref14_why_ok (noneG2)), noneI2, noneF2⟩
structure S.ref14_Ack_T where
  x0 : Int
  x1 : Int
  x2 : List (Ty ET.mat)
  x3 : Int
  deriving Inhabited
noncomputable def S.ref14_Ack_R (a0_0 : Int) (a0_1 : Int) (a0_2 : List (Ty .mat)) (a1 : Int) : DT S.ref14_Ack_T :=
let y0 : Int := (S.ref14_why_o a0_0 a0_1 a0_2 a1).x0
let y1 : Int := xwrap IntKind.i64 (a1 - a0_0)
let y2 : S.ref14_own_T := S.ref14_own_o a0_2 y1
let y3 : Nat := 0 + y2.x1
let y4 : List (Ty ET.mat) := y2.x0
(.br (S.ref14_why_is a0_0 a0_1 a0_2 a1)
(.br (xneI y0 0)
(.leaf ⟨0, 0, [], y0⟩)
(.br (S.ref14_own_is a0_2 y1)
(.br (xdec (y3 ≤ y4.length) && true && true && true)
(.leaf ⟨a1, a0_1, sub y4 0 y3, 0⟩)
.fail)
.fail))
.fail)
noncomputable def S.ref14_Ack (a0_0 : Int) (a0_1 : Int) (a0_2 : List (Ty .mat)) (a1 : Int) : Option S.ref14_Ack_T := (S.ref14_Ack_R a0_0 a0_1 a0_2 a1).run
noncomputable def S.ref14_Ack_is (a0_0 : Int) (a0_1 : Int) (a0_2 : List (Ty .mat)) (a1 : Int) : Bool := (S.ref14_Ack a0_0 a0_1 a0_2 a1).isSome
noncomputable def S.ref14_Ack_o (a0_0 : Int) (a0_1 : Int) (a0_2 : List (Ty .mat)) (a1 : Int) : S.ref14_Ack_T := (S.ref14_Ack a0_0 a0_1 a0_2 a1).getD default
noncomputable def ret_ref14_Ack (b : Bool) (r : S.ref14_Ack_T) : Ret := ⟨b, none, [(true, [C.d (D.sc (Sc.int IntKind.i64 r.x0)), C.d (D.sc (Sc.int IntKind.i64 r.x1)), C.d (D.sl none false ET.mat r.x2)]), (false, [C.d (D.sc (Sc.int IntKind.i64 r.x3))])]⟩
noncomputable def g_ref14_Ack : Con
  | [(true, [.sc (.int .i64 a0_0), .sc (.int .i64 a0_1), .sl a0_2n a0_2f .mat a0_2]), (false, [.sc (.int .i64 a1)])] => some (ret_ref14_Ack (S.ref14_Ack_is a0_0 a0_1 a0_2 a1) (S.ref14_Ack_o a0_0 a0_1 a0_2 a1))
  | _ => none
theorem raw_ref14_Ack (a0_0 : Int) (a0_1 : Int) (a0_2n : Option Bool) (a0_2f : Bool) (a0_2 : List (Ty .mat)) (a1 : Int) : evR2 cx_ref14_Ack (hdI cx_ref14_Ack (find []) [] none 0) none Try.f23 23 none [(true, [.sc (.int .i64 a0_0), .sc (.int .i64 a0_1), .sl a0_2n a0_2f .mat a0_2]), (false, [.sc (.int .i64 a1)])] some = (S.ref14_Ack_R a0_0 a0_1 a0_2 a1).go (ret_ref14_Ack true) := by kernel_rfl
theorem bs_ref14_Ack : loopsIn Try.f23 [] = [] := by kernel_rfl
theorem ref14_Ack_ok : Stands Try.prog tyTab 23 g_ref14_Ack := by
  refine stands3 (L := find []) (n := 0) (hints := []) (cx_ok rfl) rdy_ref14_Ack ⟨by kernel_rfl, by kernel_rfl, by kernel_rfl⟩ bs_ref14_Ack nilB (fun das r hG hr => ?_)
  unfold g_ref14_Ack at hG
  split at hG
  · rename_i a0_0 a0_1 a0_2n a0_2f a0_2 a1
    injection hG with hG; subst hG
    exact ⟨none, true, win default ((raw_ref14_Ack a0_0 a0_1 a0_2n a0_2f a0_2 a1).trans (DT.go_run _ _)) hr⟩
  · cases hG
noncomputable abbrev cx_ref14_Back : Cx := mkCx2 tyTab [(40, g_ref14_own), (41, g_ref14_why)] [] [] []
theorem rdy_ref14_Back : Ready Try.prog tyTab [(40, g_ref14_own), (41, g_ref14_why)] [] [] := ⟨consG2 ref14_own_ok (consG2 ref14_why_ok (noneG2)), noneI2, noneF2⟩
structure S.ref14_Back_T where
  x0 : Int
  x1 : Int
  x2 : List (Ty ET.mat)
  x3 : Int
  deriving Inhabited
noncomputable def S.ref14_Back_R (a0_0 : Int) (a0_1 : Int) (a0_2 : List (Ty .mat)) (a1 : Int) : DT S.ref14_Back_T :=
let y0 : Int := (S.ref14_why_o a0_0 a0_1 a0_2 a1).x0
let y1 : S.ref14_own_T := S.ref14_own_o a0_2 0
let y2 : Nat := 0 + y1.x1
let y3 : List (Ty ET.mat) := y1.x0
(.br (S.ref14_why_is a0_0 a0_1 a0_2 a1)
(.br (xneI y0 0)
(.leaf ⟨0, 0, [], y0⟩)
(.br (S.ref14_own_is a0_2 0)
(.br (xdec (y2 ≤ y3.length) && true && true && true)
(.leaf ⟨a0_0, a1, sub y3 0 y2, 0⟩)
.fail)
.fail))
.fail)
noncomputable def S.ref14_Back (a0_0 : Int) (a0_1 : Int) (a0_2 : List (Ty .mat)) (a1 : Int) : Option S.ref14_Back_T := (S.ref14_Back_R a0_0 a0_1 a0_2 a1).run
noncomputable def S.ref14_Back_is (a0_0 : Int) (a0_1 : Int) (a0_2 : List (Ty .mat)) (a1 : Int) : Bool := (S.ref14_Back a0_0 a0_1 a0_2 a1).isSome
noncomputable def S.ref14_Back_o (a0_0 : Int) (a0_1 : Int) (a0_2 : List (Ty .mat)) (a1 : Int) : S.ref14_Back_T := (S.ref14_Back a0_0 a0_1 a0_2 a1).getD default
noncomputable def ret_ref14_Back (b : Bool) (r : S.ref14_Back_T) : Ret := ⟨b, none, [(true, [C.d (D.sc (Sc.int IntKind.i64 r.x0)), C.d (D.sc (Sc.int IntKind.i64 r.x1)), C.d (D.sl none false ET.mat r.x2)]), (false, [C.d (D.sc (Sc.int IntKind.i64 r.x3))])]⟩
noncomputable def g_ref14_Back : Con
  | [(true, [.sc (.int .i64 a0_0), .sc (.int .i64 a0_1), .sl a0_2n a0_2f .mat a0_2]), (false, [.sc (.int .i64 a1)])] => some (ret_ref14_Back (S.ref14_Back_is a0_0 a0_1 a0_2 a1) (S.ref14_Back_o a0_0 a0_1 a0_2 a1))
  | _ => none
theorem raw_ref14_Back (a0_0 : Int) (a0_1 : Int) (a0_2n : Option Bool) (a0_2f : Bool) (a0_2 : List (Ty .mat)) (a1 : Int) : evR2 cx_ref14_Back (hdI cx_ref14_Back (find []) [] none 0) none Try.f24 24 none [(true, [.sc (.int .i64 a0_0), .sc (.int .i64 a0_1), .sl a0_2n a0_2f .mat a0_2]), (false, [.sc (.int .i64 a1)])] some = (S.ref14_Back_R a0_0 a0_1 a0_2 a1).go (ret_ref14_Back true) := by kernel_rfl
theorem bs_ref14_Back : loopsIn Try.f24 [] = [] := by kernel_rfl
theorem ref14_Back_ok : Stands Try.prog tyTab 24 g_ref14_Back := by
  refine stands3 (L := find []) (n := 0) (hints := []) (cx_ok rfl) rdy_ref14_Back ⟨by kernel_rfl, by kernel_rfl, by kernel_rfl⟩ bs_ref14_Back nilB (fun das r hG hr => ?_)
  unfold g_ref14_Back at hG
  split at hG
  · rename_i a0_0 a0_1 a0_2n a0_2f a0_2 a1
    injection hG with hG; subst hG
    exact ⟨none, true, win default ((raw_ref14_Back a0_0 a0_1 a0_2n a0_2f a0_2 a1).trans (DT.go_run _ _)) hr⟩
  · cases hG
noncomputable abbrev cx_ref12_Same : Cx := mkCx2 tyTab [] [] [(42, 4, { keep := [0, 1, 5], acc := [] })] []
theorem rdy_ref12_Same : Ready Try.prog tyTab [] [] [] := ⟨noneG2, noneI2, noneF2⟩
structure S.ref12_Same_4_V where
  t_5_0 : Int
noncomputable def S.ref12_Same_4_R (t_0_0 : List (Ty ET.mat)) (t_1_0 : List (Ty ET.mat)) (v : S.ref12_Same_4_V) : DT (Option Nat × S.ref12_Same_4_V) :=
let y0 : Bool := xdec (v.t_5_0 < (↑t_0_0.length : Int))
let y1 : Bool := xdec (0 ≤ v.t_5_0)
let y2 : Ty ET.mat := t_0_0.getD v.t_5_0.toNat (dflt ET.mat)
let y3 : Ty ET.mat := t_1_0.getD v.t_5_0.toNat (dflt ET.mat)
(.br (y0)
(.br (y1 && y0)
(.br (y1 && xdec (v.t_5_0 < (↑t_1_0.length : Int)))
(.br (bif xeqI y2.start y3.start && (xeqI y2.fin y3.fin && (xeqI y2.agg y3.agg && xeqB y2.bad y3.bad)) then false else true)
(.leaf (some 0, v))
(.leaf (none, ⟨xwrap IntKind.i64 (v.t_5_0 + 1)⟩)))
.fail)
.fail)
(.leaf (some 1, v)))
noncomputable def S.ref12_Same_4_r (t_0_0 : List (Ty ET.mat)) (t_1_0 : List (Ty ET.mat)) (v : S.ref12_Same_4_V) : Option (Option Nat × S.ref12_Same_4_V) := (S.ref12_Same_4_R t_0_0 t_1_0 v).run
noncomputable def S.ref12_Same_4_j (t_0_0 : List (Ty ET.mat)) (t_1_0 : List (Ty ET.mat)) (v : S.ref12_Same_4_V) (j : Nat) : Bool := Lp_j (S.ref12_Same_4_r t_0_0 t_1_0) v j
noncomputable def S.ref12_Same_4_v (t_0_0 : List (Ty ET.mat)) (t_1_0 : List (Ty ET.mat)) (v : S.ref12_Same_4_V) : S.ref12_Same_4_V := Lp_v (S.ref12_Same_4_r t_0_0 t_1_0) v
noncomputable def mk_ref12_Same_4 (t_0_0n : Option Bool) (t_0_0f : Bool) (t_0_0 : List (Ty ET.mat)) (t_1_0n : Option Bool) (t_1_0f : Bool) (t_1_0 : List (Ty ET.mat)) (v : S.ref12_Same_4_V) : St := ⟨[V.v false [C.d (D.sl t_0_0n t_0_0f ET.mat t_0_0)], V.v false [C.d (D.sl t_1_0n t_1_0f ET.mat t_1_0)], V.any, V.any, V.any, V.v false [C.d (D.sc (Sc.int IntKind.i64 v.t_5_0))],
  V.any, V.any, V.any, V.any, V.any, V.any, V.any, V.any, V.any, V.any, V.any, V.any, V.any, V.any, V.any, V.any, V.any, V.any, V.any, V.any], [none, none, none, none, none, none, none], 0⟩
noncomputable def ex_ref12_Same_4 (t_0_0n : Option Bool) (t_0_0f : Bool) (t_0_0 : List (Ty ET.mat)) (t_1_0n : Option Bool) (t_1_0f : Bool) (t_1_0 : List (Ty ET.mat)) (j : Nat) (v : S.ref12_Same_4_V) : Ex × St := match j with
  | 0 => (Ex.ret, ⟨[V.any, V.any, V.any, V.any, V.v false [C.d (D.sc (Sc.bool false))], V.any, V.any, V.any, V.any, V.any, V.any, V.any, V.any, V.any, V.any, V.any, V.any, V.any, V.any, V.any, V.any,
  V.any, V.any, V.any, V.any, V.any], [none, none, none, none, none, none, none, none, none, none, none, none, none, none, none, none, none, none, none, none, none], 0⟩)
  | 1 => (Ex.exit 0, ⟨[V.any, V.any, V.any, V.any, V.any, V.any, V.any, V.any, V.any, V.any, V.any, V.any, V.any, V.any, V.any, V.any, V.any, V.any, V.any, V.any, V.any, V.any, V.any, V.any, V.any,
  V.any], [none, none, none, none, none, none, none, none, none, none, none], 0⟩)
  | _ => (.ret, ⟨[], [], 0⟩)
noncomputable def T1_ref12_Same_4 : V → V → V → Tree
  | V.v false [C.d (D.sl t_0_0n t_0_0f ET.mat t_0_0)], V.v false [C.d (D.sl t_1_0n t_1_0f ET.mat t_1_0)], V.v false [C.d (D.sc (Sc.int IntKind.i64 t_5_0))] => exT (fun j => ex_ref12_Same_4 t_0_0n t_0_0f t_0_0 t_1_0n t_1_0f t_1_0 j (S.ref12_Same_4_v t_0_0 t_1_0 ⟨t_5_0⟩)) (S.ref12_Same_4_j t_0_0 t_1_0 ⟨t_5_0⟩) [0, 1]
  | _, _, _ => .bad
noncomputable def T_ref12_Same_4 (st : St) : Tree := bif okSt 26 7 0 [] st then T1_ref12_Same_4 (st.env.getD 0 .any) (st.env.getD 1 .any) (st.env.getD 5 .any) else .bad
noncomputable def b_ref12_Same_4 : Code := loopBy Try.f42 4
theorem rnd_ref12_Same_4 (t_0_0n : Option Bool) (t_0_0f : Bool) (t_0_0 : List (Ty ET.mat)) (t_1_0n : Option Bool) (t_1_0f : Bool) (t_1_0 : List (Ty ET.mat)) (v : S.ref12_Same_4_V) : round2 cx_ref12_Same (hdI cx_ref12_Same (find []) [] none 0) 42 b_ref12_Same_4 [] 7 [4] (mk_ref12_Same_4 t_0_0n t_0_0f t_0_0 t_1_0n t_1_0f t_1_0 v) = (S.ref12_Same_4_R t_0_0 t_1_0 v).go (roundOut (mk_ref12_Same_4 t_0_0n t_0_0f t_0_0 t_1_0n t_1_0f t_1_0) (ex_ref12_Same_4 t_0_0n t_0_0f t_0_0 t_1_0n t_1_0f t_1_0)) := by kernel_rfl
theorem bs_ref12_Same_4 : loopsOf b_ref12_Same_4 ++ loopsInl [] = [] := by kernel_rfl
theorem ci_ref12_Same_4 (t_0_0n : Option Bool) (t_0_0f : Bool) (t_0_0 : List (Ty ET.mat)) (t_1_0n : Option Bool) (t_1_0f : Bool) (t_1_0 : List (Ty ET.mat)) : ∀ v j v2, Lp (S.ref12_Same_4_r t_0_0 t_1_0) v = some (j, v2) → Circles Try.prog cx_ref12_Same b_ref12_Same_4 (mk_ref12_Same_4 t_0_0n t_0_0f t_0_0 t_1_0n t_1_0f t_1_0 v) (ex_ref12_Same_4 t_0_0n t_0_0f t_0_0 t_1_0n t_1_0f t_1_0 j v2).1 (ex_ref12_Same_4 t_0_0n t_0_0f t_0_0 t_1_0n t_1_0f t_1_0 j v2).2 :=
  loop_ok2 (L := find []) (n := 0) (hints := [(42, 4, { keep := [0, 1, 5], acc := [] })]) (cx_ok rfl) rdy_ref12_Same bs_ref12_Same_4 nilB (fun v => (rnd_ref12_Same_4 t_0_0n t_0_0f t_0_0 t_1_0n t_1_0f t_1_0 v).trans (DT.go_run _ _)) (by intro j v; unfold ex_ref12_Same_4; split <;> rfl)
theorem mke_ref12_Same_4 (t_0_0n : Option Bool) (t_0_0f : Bool) (t_0_0 : List (Ty ET.mat)) (t_1_0n : Option Bool) (t_1_0f : Bool) (t_1_0 : List (Ty ET.mat)) (v : S.ref12_Same_4_V) : mk_ref12_Same_4 t_0_0n t_0_0f t_0_0 t_1_0n t_1_0f t_1_0 v = ⟨envOf 26 [(0, V.v false [C.d (D.sl t_0_0n t_0_0f ET.mat t_0_0)]), (1, V.v false [C.d (D.sl t_1_0n t_1_0f ET.mat t_1_0)]), (5, V.v false [C.d (D.sc (Sc.int IntKind.i64 v.t_5_0))])], heapOf 7 [], 0⟩ := by kernel_rfl
theorem lo1_ref12_Same_4 (e0 : V) (e1 : V) (e5 : V)  e st2 (h : (T1_ref12_Same_4 e0 e1 e5).eval = some (e, st2)) : Circles Try.prog cx_ref12_Same b_ref12_Same_4 ⟨envOf 26 [(0, e0), (1, e1), (5, e5)], heapOf 7 [], 0⟩ e st2 := by
  unfold T1_ref12_Same_4 at h
  split at h
  · have := loop_tree (mk := mk_ref12_Same_4 _ _ _ _ _ _) (ci_ref12_Same_4 _ _ _ _ _ _) _ _ e st2 h
    rw [mke_ref12_Same_4] at this
    exact this
  · cases h
theorem lok_ref12_Same_4 : LoopOk Try.prog cx_ref12_Same b_ref12_Same_4 T_ref12_Same_4 := by
  intro st e st2 h
  unfold T_ref12_Same_4 at h
  cases hk : okSt 26 7 0 [] st with
  | false => rw [hk] at h; cases h
  | true =>
    rw [hk] at h
    exact circles_keep (ks := [0, 1, 5]) hk (lo1_ref12_Same_4 _ _ _ e st2 h)
structure S.ref12_Same_T where
  x0 : Bool
  deriving Inhabited
noncomputable def S.ref12_Same_R (a0 : List (Ty .mat)) (a1 : List (Ty .mat)) : DT S.ref12_Same_T :=
let y0 : S.ref12_Same_4_V := { t_5_0 := 0 : S.ref12_Same_4_V }
(.br (xneI (↑a0.length : Int) (↑a1.length : Int))
(.leaf ⟨false⟩)
(.br (S.ref12_Same_4_j a0 a1 y0 0)
(.leaf ⟨false⟩)
(.br (S.ref12_Same_4_j a0 a1 y0 1)
(.leaf ⟨true⟩)
.fail)))
noncomputable def S.ref12_Same (a0 : List (Ty .mat)) (a1 : List (Ty .mat)) : Option S.ref12_Same_T := (S.ref12_Same_R a0 a1).run
noncomputable def S.ref12_Same_is (a0 : List (Ty .mat)) (a1 : List (Ty .mat)) : Bool := (S.ref12_Same a0 a1).isSome
noncomputable def S.ref12_Same_o (a0 : List (Ty .mat)) (a1 : List (Ty .mat)) : S.ref12_Same_T := (S.ref12_Same a0 a1).getD default
noncomputable def ret_ref12_Same (b : Bool) (r : S.ref12_Same_T) : Ret := ⟨b, none, [(false, [C.d (D.sc (Sc.bool r.x0))])]⟩
noncomputable def g_ref12_Same : Con
  | [(false, [.sl a0n a0f .mat a0]), (false, [.sl a1n a1f .mat a1])] => some (ret_ref12_Same (S.ref12_Same_is a0 a1) (S.ref12_Same_o a0 a1))
  | _ => none
theorem raw_ref12_Same (a0n : Option Bool) (a0f : Bool) (a0 : List (Ty .mat)) (a1n : Option Bool) (a1f : Bool) (a1 : List (Ty .mat)) : evR2 cx_ref12_Same (hdI cx_ref12_Same (find [(4, T_ref12_Same_4)]) [] none 0) none Try.f42 42 none [(false, [.sl a0n a0f .mat a0]), (false, [.sl a1n a1f .mat a1])] some = (S.ref12_Same_R a0 a1).go (ret_ref12_Same true) := by kernel_rfl
theorem bs_ref12_Same : loopsIn Try.f42 [] = [b_ref12_Same_4] := by kernel_rfl
theorem ref12_Same_ok : Stands Try.prog tyTab 42 g_ref12_Same := by
  refine stands3 (L := find [(4, T_ref12_Same_4)]) (n := 0) (hints := [(42, 4, { keep := [0, 1, 5], acc := [] })]) (cx_ok rfl) rdy_ref12_Same ⟨by kernel_rfl, by kernel_rfl, by kernel_rfl⟩ bs_ref12_Same (consB (fun T h => by have e : T_ref12_Same_4 = T := Option.some.inj (show some T_ref12_Same_4 = some T from h); exact e ▸ lok_ref12_Same_4) nilB) (fun das r hG hr => ?_)
  unfold g_ref12_Same at hG
  split at hG
  · rename_i a0n a0f a0 a1n a1f a1
    injection hG with hG; subst hG
    exact ⟨none, true, win default ((raw_ref12_Same a0n a0f a0 a1n a1f a1).trans (DT.go_run _ _)) hr⟩
  · cases hG
noncomputable abbrev cx_ref14_Same : Cx := mkCx2 tyTab [(42, g_ref12_Same)] [] [] []
theorem rdy_ref14_Same : Ready Try.prog tyTab [(42, g_ref12_Same)] [] [] := ⟨consG2 ref12_Same_ok (noneG2), noneI2, noneF2⟩
structure S.ref14_Same_T where
  x0 : Bool
  deriving Inhabited
noncomputable def S.ref14_Same_R (a0_0 : Int) (a0_1 : Int) (a0_2 : List (Ty .mat)) (a1_0 : Int) (a1_1 : Int) (a1_2 : List (Ty .mat)) : DT S.ref14_Same_T :=
(.br (S.ref12_Same_is a0_2 a1_2)
(.br ((S.ref12_Same_o a0_2 a1_2).x0)
(.br (xeqI a0_0 a1_0)
(.leaf ⟨xeqI a0_1 a1_1⟩)
(.leaf ⟨false⟩))
(.leaf ⟨false⟩))
.fail)
noncomputable def S.ref14_Same (a0_0 : Int) (a0_1 : Int) (a0_2 : List (Ty .mat)) (a1_0 : Int) (a1_1 : Int) (a1_2 : List (Ty .mat)) : Option S.ref14_Same_T := (S.ref14_Same_R a0_0 a0_1 a0_2 a1_0 a1_1 a1_2).run
noncomputable def S.ref14_Same_is (a0_0 : Int) (a0_1 : Int) (a0_2 : List (Ty .mat)) (a1_0 : Int) (a1_1 : Int) (a1_2 : List (Ty .mat)) : Bool := (S.ref14_Same a0_0 a0_1 a0_2 a1_0 a1_1 a1_2).isSome
noncomputable def S.ref14_Same_o (a0_0 : Int) (a0_1 : Int) (a0_2 : List (Ty .mat)) (a1_0 : Int) (a1_1 : Int) (a1_2 : List (Ty .mat)) : S.ref14_Same_T := (S.ref14_Same a0_0 a0_1 a0_2 a1_0 a1_1 a1_2).getD default
noncomputable def ret_ref14_Same (b : Bool) (r : S.ref14_Same_T) : Ret := ⟨b, none, [(false, [C.d (D.sc (Sc.bool r.x0))])]⟩
noncomputable def g_ref14_Same : Con
  | [(true, [.sc (.int .i64 a0_0), .sc (.int .i64 a0_1), .sl a0_2n a0_2f .mat a0_2]), (true, [.sc (.int .i64 a1_0), .sc (.int .i64 a1_1), .sl a1_2n a1_2f .mat a1_2])] => some (ret_ref14_Same (S.ref14_Same_is a0_0 a0_1 a0_2 a1_0 a1_1 a1_2) (S.ref14_Same_o a0_0 a0_1 a0_2 a1_0 a1_1 a1_2))
  | _ => none
theorem raw_ref14_Same (a0_0 : Int) (a0_1 : Int) (a0_2n : Option Bool) (a0_2f : Bool) (a0_2 : List (Ty .mat)) (a1_0 : Int) (a1_1 : Int) (a1_2n : Option Bool) (a1_2f : Bool) (a1_2 : List (Ty .mat)) : evR2 cx_ref14_Same (hdI cx_ref14_Same (find []) [] none 0) none Try.f25 25 none [(true, [.sc (.int .i64 a0_0), .sc (.int .i64 a0_1), .sl a0_2n a0_2f .mat a0_2]), (true, [.sc (.int .i64 a1_0), .sc (.int .i64 a1_1), .sl a1_2n a1_2f .mat a1_2])] some = (S.ref14_Same_R a0_0 a0_1 a0_2 a1_0 a1_1 a1_2).go (ret_ref14_Same true) := by kernel_rfl
theorem bs_ref14_Same : loopsIn Try.f25 [] = [] := by kernel_rfl
theorem ref14_Same_ok : Stands Try.prog tyTab 25 g_ref14_Same := by
  refine stands3 (L := find []) (n := 0) (hints := []) (cx_ok rfl) rdy_ref14_Same ⟨by kernel_rfl, by kernel_rfl, by kernel_rfl⟩ bs_ref14_Same nilB (fun das r hG hr => ?_)
  unfold g_ref14_Same at hG
  split at hG
  · rename_i a0_0 a0_1 a0_2n a0_2f a0_2 a1_0 a1_1 a1_2n a1_2f a1_2
    injection hG with hG; subst hG
    exact ⟨none, true, win default ((raw_ref14_Same a0_0 a0_1 a0_2n a0_2f a0_2 a1_0 a1_1 a1_2n a1_2f a1_2).trans (DT.go_run _ _)) hr⟩
  · cases hG
noncomputable abbrev cx_law14_awake : Cx := mkCx2 tyTab [(16, g_ring_May), (17, g_ring_Back), (18, g_ring_Next), (19, g_ring_Add), (20, g_ring_Ack)] [] [] []
theorem rdy_law14_awake : Ready Try.prog tyTab [(16, g_ring_May), (17, g_ring_Back), (18, g_ring_Next), (19, g_ring_Add), (20, g_ring_Ack)] [] [] := ⟨consG2 ring_May_ok (consG2 ring_Back_ok (consG2 ring_Next_ok (consG2 ring_Add_ok (consG2 ring_Ack_ok (noneG2))))), noneI2, noneF2⟩
structure S.law14_awake_T where
  x0 : Bool
  deriving Inhabited
noncomputable def S.law14_awake_R  : DT S.law14_awake_T :=
let y0 : S.ring_Add_T := S.ring_Add_o 0 0 [] 0 5 0 false
let y1 : Int := y0.x0
let y2 : Int := y0.x1
let y3 : List (Ty ET.mat) := y0.x2
let y4 : S.ring_Add_T := S.ring_Add_o y1 y2 y3 0 6 0 false
let y5 : Int := y4.x0
let y6 : Int := y4.x1
let y7 : List (Ty ET.mat) := y4.x2
let y8 : S.ring_Next_T := S.ring_Next_o y5 y6 y7
let y9 : Int := y8.x0
let y10 : Int := y8.x1
let y11 : List (Ty ET.mat) := y8.x2
let y12 : S.ring_Ack_T := S.ring_Ack_o y9 y10 y11 1
let y13 : Int := y12.x0
let y14 : Int := y12.x1
let y15 : List (Ty ET.mat) := y12.x2
let y16 : S.ring_Next_T := S.ring_Next_o y13 y14 y15
let y17 : Int := y16.x0
let y18 : Int := y16.x1
let y19 : List (Ty ET.mat) := y16.x2
(.br (S.ring_Add_is 0 0 [] 0 5 0 false)
(.br (S.ring_Add_is y1 y2 y3 0 6 0 false)
(.br (S.ring_Next_is y5 y6 y7)
(.br (S.ring_Ack_is y9 y10 y11 1)
(.br (S.ring_Next_is y13 y14 y15)
(.br (S.ring_Back_is y17 y18 y19 0)
(.br (y0.x3)
(.br (y4.x3)
(.br (xeqI y8.x3 1)
(.br (xeqI y8.x5 5)
(.br (y8.x8)
(.br (xeqI y12.x3 0)
(.br (xeqI y16.x3 2)
(.br (xeqI y16.x5 6)
(.br (y16.x8)
(.br (xeqI (S.ring_Back_o y17 y18 y19 0).x3 9)
(.br (S.ring_May_is y17 y18 y19)
(.br ((S.ring_May_o y17 y18 y19).x0)
(.leaf ⟨xeqI (↑y19.length : Int) 1⟩)
(.leaf ⟨false⟩))
.fail)
(.leaf ⟨false⟩))
(.leaf ⟨false⟩))
(.leaf ⟨false⟩))
(.leaf ⟨false⟩))
(.leaf ⟨false⟩))
(.leaf ⟨false⟩))
(.leaf ⟨false⟩))
(.leaf ⟨false⟩))
(.leaf ⟨false⟩))
(.leaf ⟨false⟩))
.fail)
.fail)
.fail)
.fail)
.fail)
.fail)
noncomputable def S.law14_awake  : Option S.law14_awake_T := (S.law14_awake_R ).run
noncomputable def S.law14_awake_is  : Bool := (S.law14_awake ).isSome
noncomputable def S.law14_awake_o  : S.law14_awake_T := (S.law14_awake ).getD default
noncomputable def ret_law14_awake (b : Bool) (r : S.law14_awake_T) : Ret := ⟨b, none, [(false, [C.d (D.sc (Sc.bool r.x0))])]⟩
noncomputable def g_law14_awake : Con
  | [] => some (ret_law14_awake (S.law14_awake_is ) (S.law14_awake_o ))
  | _ => none
theorem raw_law14_awake  : evR2 cx_law14_awake (hdI cx_law14_awake (find []) [] none 0) none Try.f15 15 none [] some = (S.law14_awake_R ).go (ret_law14_awake true) := by kernel_rfl
theorem bs_law14_awake : loopsIn Try.f15 [] = [] := by kernel_rfl
theorem law14_awake_ok : Stands Try.prog tyTab 15 g_law14_awake := by
  refine stands3 (L := find []) (n := 0) (hints := []) (cx_ok rfl) rdy_law14_awake ⟨by kernel_rfl, by kernel_rfl, by kernel_rfl⟩ bs_law14_awake nilB (fun das r hG hr => ?_)
  unfold g_law14_awake at hG
  split at hG
  · injection hG with hG; subst hG
    exact ⟨none, true, win default ((raw_law14_awake ).trans (DT.go_run _ _)) hr⟩
  · cases hG
end Go.Eng
