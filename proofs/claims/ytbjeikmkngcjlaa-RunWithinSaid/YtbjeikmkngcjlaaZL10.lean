/- Contracts, laid by program. -/
import Derived.Test.YtbjeikmkngcjlaaZG5
set_option linter.unusedVariables false
set_option linter.unusedSimpArgs false
namespace Go.Eng
open Go Go.Eng Go.Proofs Go.Eng.Tab
noncomputable abbrev cx_law11_RunWithin : Cx := mkCx2 tyTab [(36, g_law06_Few), (49, g_law11_awake), (50, g_law09_Few), (54, g_run_Next)] [] [] []
theorem rdy_law11_RunWithin : Ready Try.prog tyTab [(36, g_law06_Few), (49, g_law11_awake), (50, g_law09_Few), (54, g_run_Next)] [] [] := ⟨consG2 law06_Few_ok (consG2 law11_awake_ok (consG2 law09_Few_ok (consG2 run_Next_ok (noneG2)))), noneI2, noneF2⟩
structure S.law11_RunWithin_T where
  x0 : Bool
  deriving Inhabited
noncomputable def S.law11_RunWithin_R (a0_0 : List (Ty .step)) (a0_1 : Int) (a0_2 : Int) (a0_3 : Int) (a0_4 : Int) (a1_0 : Int) (a1_1 : Int) (a1_2 : Int) (a1_3 : Int) (a1_4 : Int) (a1_5 : Int) (a1_6 : Bool) (a2_0 : ByteArray) (a2_1 : Int) (a2_2 : List (Ty .val)) : DT S.law11_RunWithin_T :=
let y0 : S.run_Next_T := S.run_Next_o a0_0 a0_1 a0_2 a0_3 a0_4 a1_0 a1_1 a1_2 a1_3 a1_4 a1_5 a1_6 a2_0 a2_1 a2_2
let y1 : Bool := xeqI y0.x0 a1_0 && (xeqI y0.x1 a1_1 && (xeqI y0.x2 a1_2 && (xeqI y0.x3 a1_3 && (xeqI y0.x4 a1_4 && (xeqI y0.x5 a1_5 && xeqB y0.x6 a1_6)))))
let y2 : Int := y0.x7
let y3 : Bool := xeqI y2 0
let y4 : Bool := xeqI y2 1
(.br (S.law11_awake_is)
(.br (S.law09_Few_is a0_0)
(.br (S.law06_Few_is a2_0 a2_2)
(.br (xnot S.law11_awake_o.x0)
(.leaf ⟨S.law11_awake_o.x0⟩)
(.br (xnot (S.law09_Few_o a0_0).x0)
(.leaf ⟨S.law11_awake_o.x0⟩)
(.br (xnot (S.law06_Few_o a2_0 a2_2).x0)
(.leaf ⟨S.law11_awake_o.x0⟩)
(.br (xdec (a1_2 < 0))
(.leaf ⟨S.law11_awake_o.x0⟩)
(.br (xdec (a1_2 ≥ (↑a0_0.length : Int)))
(.leaf ⟨S.law11_awake_o.x0⟩)
(.br (xdec (a0_1 < 0))
(.leaf ⟨S.law11_awake_o.x0⟩)
(.br (xdec (a1_1 < 0))
(.leaf ⟨S.law11_awake_o.x0⟩)
(.br (xdec (a1_1 > 2251799813685248))
(.leaf ⟨S.law11_awake_o.x0⟩)
(.br (xdec (a0_1 > 2251799813685248))
(.leaf ⟨S.law11_awake_o.x0⟩)
(.br (S.run_Next_is a0_0 a0_1 a0_2 a0_3 a0_4 a1_0 a1_1 a1_2 a1_3 a1_4 a1_5 a1_6 a2_0 a2_1 a2_2)
(.br (xdec (a2_1 < a1_1))
(.br (y1)
(.leaf ⟨y3⟩)
(.leaf ⟨false⟩))
(.br (xdec (a2_1 > xwrap IntKind.i64 (a1_1 + a0_1)))
(.br (y1)
(.leaf ⟨y4⟩)
(.leaf ⟨false⟩))
(.br (y4)
(.leaf ⟨true⟩)
(.br (y3)
(.leaf ⟨true⟩)
(.leaf ⟨xeqI y2 2⟩)))))
.fail))))))))))
.fail)
.fail)
.fail)
noncomputable def S.law11_RunWithin (a0_0 : List (Ty .step)) (a0_1 : Int) (a0_2 : Int) (a0_3 : Int) (a0_4 : Int) (a1_0 : Int) (a1_1 : Int) (a1_2 : Int) (a1_3 : Int) (a1_4 : Int) (a1_5 : Int) (a1_6 : Bool) (a2_0 : ByteArray) (a2_1 : Int) (a2_2 : List (Ty .val)) : Option S.law11_RunWithin_T := (S.law11_RunWithin_R a0_0 a0_1 a0_2 a0_3 a0_4 a1_0 a1_1 a1_2 a1_3 a1_4 a1_5 a1_6 a2_0 a2_1 a2_2).run
noncomputable def S.law11_RunWithin_is (a0_0 : List (Ty .step)) (a0_1 : Int) (a0_2 : Int) (a0_3 : Int) (a0_4 : Int) (a1_0 : Int) (a1_1 : Int) (a1_2 : Int) (a1_3 : Int) (a1_4 : Int) (a1_5 : Int) (a1_6 : Bool) (a2_0 : ByteArray) (a2_1 : Int) (a2_2 : List (Ty .val)) : Bool := (S.law11_RunWithin a0_0 a0_1 a0_2 a0_3 a0_4 a1_0 a1_1 a1_2 a1_3 a1_4 a1_5 a1_6 a2_0 a2_1 a2_2).isSome
noncomputable def S.law11_RunWithin_o (a0_0 : List (Ty .step)) (a0_1 : Int) (a0_2 : Int) (a0_3 : Int) (a0_4 : Int) (a1_0 : Int) (a1_1 : Int) (a1_2 : Int) (a1_3 : Int) (a1_4 : Int) (a1_5 : Int) (a1_6 : Bool) (a2_0 : ByteArray) (a2_1 : Int) (a2_2 : List (Ty .val)) : S.law11_RunWithin_T := (S.law11_RunWithin a0_0 a0_1 a0_2 a0_3 a0_4 a1_0 a1_1 a1_2 a1_3 a1_4 a1_5 a1_6 a2_0 a2_1 a2_2).getD default
noncomputable def ret_law11_RunWithin (b : Bool) (r : S.law11_RunWithin_T) : Ret := ⟨b, none, [(false, [C.d (D.sc (Sc.bool r.x0))])]⟩
noncomputable def g_law11_RunWithin : Con
  | [(true, [.sl a0_0n a0_0f .step a0_0, .sc (.int .i64 a0_1), .sc (.int .i64 a0_2), .sc (.int .i64 a0_3), .sc (.int .i64 a0_4)]), (true, [.sc (.int .i64 a1_0), .sc (.int .i64 a1_1), .sc (.int .i64 a1_2), .sc (.int .i64 a1_3), .sc (.int .i64 a1_4), .sc (.int .i64 a1_5), .sc (.bool a1_6)]), (true, [.sc (.str a2_0), .sc (.int .i64 a2_1), .sl a2_2n a2_2f .val a2_2])] => some (ret_law11_RunWithin (S.law11_RunWithin_is a0_0 a0_1 a0_2 a0_3 a0_4 a1_0 a1_1 a1_2 a1_3 a1_4 a1_5 a1_6 a2_0 a2_1 a2_2) (S.law11_RunWithin_o a0_0 a0_1 a0_2 a0_3 a0_4 a1_0 a1_1 a1_2 a1_3 a1_4 a1_5 a1_6 a2_0 a2_1 a2_2))
  | _ => none
theorem raw_law11_RunWithin (a0_0n : Option Bool) (a0_0f : Bool) (a0_0 : List (Ty .step)) (a0_1 : Int) (a0_2 : Int) (a0_3 : Int) (a0_4 : Int) (a1_0 : Int) (a1_1 : Int) (a1_2 : Int) (a1_3 : Int) (a1_4 : Int) (a1_5 : Int) (a1_6 : Bool) (a2_0 : ByteArray) (a2_1 : Int) (a2_2n : Option Bool) (a2_2f : Bool) (a2_2 : List (Ty .val)) : evR2 cx_law11_RunWithin (hdI cx_law11_RunWithin (find []) [] none 0) none Try.f10 10 none [(true, [.sl a0_0n a0_0f .step a0_0, .sc (.int .i64 a0_1), .sc (.int .i64 a0_2), .sc (.int .i64 a0_3), .sc (.int .i64 a0_4)]), (true, [.sc (.int .i64 a1_0), .sc (.int .i64 a1_1), .sc (.int .i64 a1_2), .sc (.int .i64 a1_3), .sc (.int .i64 a1_4), .sc (.int .i64 a1_5), .sc (.bool a1_6)]), (true, [.sc (.str a2_0), .sc (.int .i64 a2_1), .sl a2_2n a2_2f .val a2_2])] some = (S.law11_RunWithin_R a0_0 a0_1 a0_2 a0_3 a0_4 a1_0 a1_1 a1_2 a1_3 a1_4 a1_5 a1_6 a2_0 a2_1 a2_2).go (ret_law11_RunWithin true) := by kernel_rfl
theorem bs_law11_RunWithin : loopsIn Try.f10 [] = [] := by kernel_rfl
theorem law11_RunWithin_ok : Stands Try.prog tyTab 10 g_law11_RunWithin := by
  refine stands3 (L := find []) (n := 0) (hints := []) (cx_ok rfl) rdy_law11_RunWithin ⟨by kernel_rfl, by kernel_rfl, by kernel_rfl⟩ bs_law11_RunWithin nilB (fun das r hG hr => ?_)
  unfold g_law11_RunWithin at hG
  split at hG
  · rename_i a0_0n a0_0f a0_0 a0_1 a0_2 a0_3 a0_4 a1_0 a1_1 a1_2 a1_3 a1_4 a1_5 a1_6 a2_0 a2_1 a2_2n a2_2f a2_2
    injection hG with hG; subst hG
    exact ⟨none, true, win default ((raw_law11_RunWithin a0_0n a0_0f a0_0 a0_1 a0_2 a0_3 a0_4 a1_0 a1_1 a1_2 a1_3 a1_4 a1_5 a1_6 a2_0 a2_1 a2_2n a2_2f a2_2).trans (DT.go_run _ _)) hr⟩
  · cases hG
end Go.Eng
