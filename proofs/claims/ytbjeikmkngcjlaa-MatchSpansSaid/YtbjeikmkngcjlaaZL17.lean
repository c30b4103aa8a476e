/- Contracts, laid by program. -/
import Derived.Test.YtbjeikmkngcjlaaZG8
set_option linter.unusedVariables false
set_option linter.unusedSimpArgs false
namespace Go.Eng
open Go Go.Eng Go.Proofs Go.Eng.Tab
noncomputable abbrev cx_law13_MatchParts : Cx := mkCx2 tyTab [(50, g_law09_Few), (55, g_law13_awake), (59, g_ref13_Same), (60, g_law12_Log), (61, g_match_New), (62, g_law13_fed)] [] [] []
theorem rdy_law13_MatchParts : Ready Try.prog tyTab [(50, g_law09_Few), (55, g_law13_awake), (59, g_ref13_Same), (60, g_law12_Log), (61, g_match_New), (62, g_law13_fed)] [] [] := ⟨consG2 law09_Few_ok (consG2 law13_awake_ok (consG2 ref13_Same_ok (consG2 law12_Log_ok (consG2 match_New_ok (consG2 law13_fed_ok (noneG2)))))), noneI2, noneF2⟩
structure S.law13_MatchParts_T where
  x0 : Bool
  deriving Inhabited
noncomputable def S.law13_MatchParts_R (a0_0 : List (Ty .step)) (a0_1 : Int) (a0_2 : Int) (a0_3 : Int) (a0_4 : Int) (a1 : List (Ty .evt)) (a2 : Int) : DT S.law13_MatchParts_T :=
let y0 : Nat := a1.length
let y1 : Bool := xdec (0 ≤ a2)
let y2 : S.match_New_T := S.match_New_o a0_0 a0_1 a0_2 a0_3 a0_4
let y3 : List (Ty ET.step) := y2.x0
let y4 : Int := y2.x1
let y5 : Int := y2.x2
let y6 : Int := y2.x3
let y7 : Int := y2.x4
let y8 : List (Ty ET.run) := y2.x5
let y9 : Int := y2.x6
let y10 : List (Ty ET.evt) := sub a1 0 a2.toNat
let y11 : S.law13_fed_T := S.law13_fed_o none false y3 y4 y5 y6 y7 none false y8 y9 y10 0
let y12 : List (Ty ET.step) := y11.x0
let y13 : Int := y11.x1
let y14 : Int := y11.x2
let y15 : Int := y11.x3
let y16 : Int := y11.x4
let y17 : List (Ty ET.run) := y11.x5
let y18 : Int := y11.x6
let y19 : List (Ty ET.evt) := sub a1 a2.toNat y0
let y20 : S.law13_fed_T := S.law13_fed_o none false y12 y13 y14 y15 y16 none false y17 y18 y19 a2
let y21 : List (Ty ET.step) := y20.x0
let y22 : Int := y20.x1
let y23 : Int := y20.x2
let y24 : Int := y20.x3
let y25 : Int := y20.x4
let y26 : List (Ty ET.run) := y20.x5
let y27 : Int := y20.x6
let y28 : S.law13_fed_T := S.law13_fed_o none false y3 y4 y5 y6 y7 none false y8 y9 a1 0
let y29 : List (Ty ET.step) := y28.x0
let y30 : Int := y28.x1
let y31 : Int := y28.x2
let y32 : Int := y28.x3
let y33 : Int := y28.x4
let y34 : List (Ty ET.run) := y28.x5
let y35 : Int := y28.x6
(.br (S.law13_awake_is)
(.br (S.law09_Few_is a0_0)
(.br (S.law12_Log_is a1 25)
(.br (xnot S.law13_awake_o.x0)
(.leaf ⟨S.law13_awake_o.x0⟩)
(.br (xnot (S.law09_Few_o a0_0).x0)
(.leaf ⟨S.law13_awake_o.x0⟩)
(.br (xnot (S.law12_Log_o a1 25).x0)
(.leaf ⟨S.law13_awake_o.x0⟩)
(.br (xdec (a2 < 0))
(.leaf ⟨S.law13_awake_o.x0⟩)
(.br (xdec (a2 > (↑y0 : Int)))
(.leaf ⟨S.law13_awake_o.x0⟩)
(.br (y1 && xdec (a2 ≤ Int.ofNat y0) && true)
(.br (S.law13_fed_is none false y3 y4 y5 y6 y7 none false y8 y9 y10 0)
(.br (y1 && xdec (a2 ≤ Int.ofNat y0) && true && true)
(.br (S.law13_fed_is none false y12 y13 y14 y15 y16 none false y17 y18 y19 a2)
(.br (S.law13_fed_is none false y3 y4 y5 y6 y7 none false y8 y9 a1 0)
(.br (S.ref13_Same_is y21 y22 y23 y24 y25 y26 y27 y29 y30 y31 y32 y33 y34 y35)
(.br ((S.ref13_Same_o y21 y22 y23 y24 y25 y26 y27 y29 y30 y31 y32 y33 y34 y35).x0)
(.leaf ⟨xeqI (xwrap IntKind.i64 (y11.x7 + y20.x7)) y28.x7⟩)
(.leaf ⟨false⟩))
.fail)
.fail)
.fail)
.fail)
.fail)
.fail))))))
.fail)
.fail)
.fail)
noncomputable def S.law13_MatchParts (a0_0 : List (Ty .step)) (a0_1 : Int) (a0_2 : Int) (a0_3 : Int) (a0_4 : Int) (a1 : List (Ty .evt)) (a2 : Int) : Option S.law13_MatchParts_T := (S.law13_MatchParts_R a0_0 a0_1 a0_2 a0_3 a0_4 a1 a2).run
noncomputable def S.law13_MatchParts_is (a0_0 : List (Ty .step)) (a0_1 : Int) (a0_2 : Int) (a0_3 : Int) (a0_4 : Int) (a1 : List (Ty .evt)) (a2 : Int) : Bool := (S.law13_MatchParts a0_0 a0_1 a0_2 a0_3 a0_4 a1 a2).isSome
noncomputable def S.law13_MatchParts_o (a0_0 : List (Ty .step)) (a0_1 : Int) (a0_2 : Int) (a0_3 : Int) (a0_4 : Int) (a1 : List (Ty .evt)) (a2 : Int) : S.law13_MatchParts_T := (S.law13_MatchParts a0_0 a0_1 a0_2 a0_3 a0_4 a1 a2).getD default
noncomputable def ret_law13_MatchParts (b : Bool) (r : S.law13_MatchParts_T) : Ret := ⟨b, none, [(false, [C.d (D.sc (Sc.bool r.x0))])]⟩
noncomputable def g_law13_MatchParts : Con
  | [(true, [.sl a0_0n a0_0f .step a0_0, .sc (.int .i64 a0_1), .sc (.int .i64 a0_2), .sc (.int .i64 a0_3), .sc (.int .i64 a0_4)]), (false, [.sl a1n a1f .evt a1]), (false, [.sc (.int .i64 a2)])] => some (ret_law13_MatchParts (S.law13_MatchParts_is a0_0 a0_1 a0_2 a0_3 a0_4 a1 a2) (S.law13_MatchParts_o a0_0 a0_1 a0_2 a0_3 a0_4 a1 a2))
  | _ => none
theorem raw_law13_MatchParts (a0_0n : Option Bool) (a0_0f : Bool) (a0_0 : List (Ty .step)) (a0_1 : Int) (a0_2 : Int) (a0_3 : Int) (a0_4 : Int) (a1n : Option Bool) (a1f : Bool) (a1 : List (Ty .evt)) (a2 : Int) : evR2 cx_law13_MatchParts (hdI cx_law13_MatchParts (find []) [] none 0) none Try.f17 17 none [(true, [.sl a0_0n a0_0f .step a0_0, .sc (.int .i64 a0_1), .sc (.int .i64 a0_2), .sc (.int .i64 a0_3), .sc (.int .i64 a0_4)]), (false, [.sl a1n a1f .evt a1]), (false, [.sc (.int .i64 a2)])] some = (S.law13_MatchParts_R a0_0 a0_1 a0_2 a0_3 a0_4 a1 a2).go (ret_law13_MatchParts true) := by kernel_rfl
theorem bs_law13_MatchParts : loopsIn Try.f17 [] = [] := by kernel_rfl
theorem law13_MatchParts_ok : Stands Try.prog tyTab 17 g_law13_MatchParts := by
  refine stands3 (L := find []) (n := 0) (hints := []) (cx_ok rfl) rdy_law13_MatchParts ⟨by kernel_rfl, by kernel_rfl, by kernel_rfl⟩ bs_law13_MatchParts nilB (fun das r hG hr => ?_)
  unfold g_law13_MatchParts at hG
  split at hG
  · rename_i a0_0n a0_0f a0_0 a0_1 a0_2 a0_3 a0_4 a1n a1f a1 a2
    injection hG with hG; subst hG
    exact ⟨none, true, win default ((raw_law13_MatchParts a0_0n a0_0f a0_0 a0_1 a0_2 a0_3 a0_4 a1n a1f a1 a2).trans (DT.go_run _ _)) hr⟩
  · cases hG
end Go.Eng
