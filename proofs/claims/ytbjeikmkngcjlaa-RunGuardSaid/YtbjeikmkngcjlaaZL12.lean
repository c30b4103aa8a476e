/- Contracts, laid by program. -/
import Derived.Test.YtbjeikmkngcjlaaZG5
set_option linter.unusedVariables false
set_option linter.unusedSimpArgs false
namespace Go.Eng
open Go Go.Eng Go.Proofs Go.Eng.Tab
noncomputable abbrev cx_law11_RunGuard : Cx := mkCx2 tyTab [(49, g_law11_awake), (54, g_run_Next)] [] [] []
theorem rdy_law11_RunGuard : Ready Try.prog tyTab [(49, g_law11_awake), (54, g_run_Next)] [] [] := ⟨consG2 law11_awake_ok (consG2 run_Next_ok (noneG2)), noneI2, noneF2⟩
structure S.law11_RunGuard_T where
  x0 : Bool
  deriving Inhabited
noncomputable def S.law11_RunGuard_R (a0 : Int) (a1 : Int) (a2 : ByteArray) : DT S.law11_RunGuard_T :=
let y0 : Nat := 0 + 2
let y1 : ByteArray := { data := { toList := [97] : Array UInt8 } : ByteArray }
let y2 : Step := { name := y1, ifs := [], min := a0, max := 4, guard := false, notName := ByteArray.empty, notIf := [] : Step }
let y3 : Step := { name := { data := { toList := [98] : Array UInt8 } : ByteArray }, ifs := [], min := 1, max := 1, guard := true, notName := a2, notIf := [] : Step }
let y4 : List (Ty ET.step) := sub [y2, y3] 0 y0
let y5 : S.run_Next_T := S.run_Next_o y4 9 0 0 0 0 0 0 a1 a1 a1 false a2 0 []
let y6 : Int := y5.x7
let y7 : Int := y5.x3
(.br (S.law11_awake_is)
(.br (xnot S.law11_awake_o.x0)
(.leaf ⟨S.law11_awake_o.x0⟩)
(.br (xdec (a0 < 1))
(.leaf ⟨S.law11_awake_o.x0⟩)
(.br (xdec (a0 > 4))
(.leaf ⟨S.law11_awake_o.x0⟩)
(.br (xdec (a1 < 1))
(.leaf ⟨S.law11_awake_o.x0⟩)
(.br (xdec (a1 > 4))
(.leaf ⟨S.law11_awake_o.x0⟩)
(.br (xdec ((↑a2.size : Int) > 60))
(.leaf ⟨S.law11_awake_o.x0⟩)
(.br (xdec (y0 ≤ (((List.replicate 2 (dflt ET.step)).set 0 y2).set 1 y3).length) && true && true && S.run_Next_is y4 9 0 0 0 0 0 0 a1 a1 a1 false a2 0 [])
(.br (xdec (a1 ≥ a0))
(.br (xeqI y6 1)
(.leaf ⟨xeqI y5.x0 0 && (xeqI y5.x1 0 && (xeqI y5.x2 0 && (xeqI y7 a1 && (xeqI y5.x4 a1 && (xeqI y5.x5 a1 && xeqB y5.x6 false)))))⟩)
(.leaf ⟨false⟩))
(.br (xeqI y6 0)
(.leaf ⟨xdec (a2 = y1) == xeqI y7 (xwrap IntKind.i64 (a1 + 1))⟩)
(.leaf ⟨false⟩)))
.fail)))))))
.fail)
noncomputable def S.law11_RunGuard (a0 : Int) (a1 : Int) (a2 : ByteArray) : Option S.law11_RunGuard_T := (S.law11_RunGuard_R a0 a1 a2).run
noncomputable def S.law11_RunGuard_is (a0 : Int) (a1 : Int) (a2 : ByteArray) : Bool := (S.law11_RunGuard a0 a1 a2).isSome
noncomputable def S.law11_RunGuard_o (a0 : Int) (a1 : Int) (a2 : ByteArray) : S.law11_RunGuard_T := (S.law11_RunGuard a0 a1 a2).getD default
noncomputable def ret_law11_RunGuard (b : Bool) (r : S.law11_RunGuard_T) : Ret := ⟨b, none, [(false, [C.d (D.sc (Sc.bool r.x0))])]⟩
noncomputable def g_law11_RunGuard : Con
  | [(false, [.sc (.int .i64 a0)]), (false, [.sc (.int .i64 a1)]), (false, [.sc (.str a2)])] => some (ret_law11_RunGuard (S.law11_RunGuard_is a0 a1 a2) (S.law11_RunGuard_o a0 a1 a2))
  | _ => none
theorem raw_law11_RunGuard (a0 : Int) (a1 : Int) (a2 : ByteArray) : evR2 cx_law11_RunGuard (hdI cx_law11_RunGuard (find []) [] none 0) none Try.f12 12 none [(false, [.sc (.int .i64 a0)]), (false, [.sc (.int .i64 a1)]), (false, [.sc (.str a2)])] some = (S.law11_RunGuard_R a0 a1 a2).go (ret_law11_RunGuard true) := by kernel_rfl
theorem bs_law11_RunGuard : loopsIn Try.f12 [] = [] := by kernel_rfl
theorem law11_RunGuard_ok : Stands Try.prog tyTab 12 g_law11_RunGuard := by
  refine stands3 (L := find []) (n := 0) (hints := []) (cx_ok rfl) rdy_law11_RunGuard ⟨by kernel_rfl, by kernel_rfl, by kernel_rfl⟩ bs_law11_RunGuard nilB (fun das r hG hr => ?_)
  unfold g_law11_RunGuard at hG
  split at hG
  · rename_i a0 a1 a2
    injection hG with hG; subst hG
    exact ⟨none, true, win default ((raw_law11_RunGuard a0 a1 a2).trans (DT.go_run _ _)) hr⟩
  · cases hG
end Go.Eng
