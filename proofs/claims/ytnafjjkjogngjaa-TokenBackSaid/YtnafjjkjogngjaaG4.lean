/- Contracts, laid by program. -/
import Derived.Test.YtnafjjkjogngjaaE40
import Derived.Test.YtnafjjkjogngjaaTab
set_option linter.unusedVariables false
set_option linter.unusedSimpArgs false
namespace Go.Eng
open Go Go.Eng Go.Proofs Go.Eng.Tab
noncomputable abbrev cx_Clone_pass_nil : Cx := mkCx2 tyTab [] [] [] []
theorem rdy_Clone_pass_nil : Ready Try.prog tyTab [] [] [] := ⟨noneG2, noneI2, noneF2⟩
structure S.Clone_pass_nil_T where
  x0 : List (Ty ET.pass)
  x1 : Nat
  deriving Inhabited
noncomputable def S.Clone_pass_nil_R  : DT S.Clone_pass_nil_T :=
(.leaf ⟨[], 0⟩)
noncomputable def S.Clone_pass_nil  : Option S.Clone_pass_nil_T := (S.Clone_pass_nil_R ).run
noncomputable def S.Clone_pass_nil_is  : Bool := (S.Clone_pass_nil ).isSome
noncomputable def S.Clone_pass_nil_o  : S.Clone_pass_nil_T := (S.Clone_pass_nil ).getD default
noncomputable def ret_Clone_pass_nil (b : Bool) (r : S.Clone_pass_nil_T) : Ret := ⟨b, some (46, (⟨ET.pass, r.x0⟩ : (t : ET) × List (Ty t))), [(false, [C.own 4 ET.pass false 0 r.x1])]⟩
noncomputable def g_Clone_pass_nil : Con
  | [(false, [.sl (some true) true .pass []])] => some (ret_Clone_pass_nil (S.Clone_pass_nil_is ) (S.Clone_pass_nil_o ))
  | _ => none
theorem raw_Clone_pass_nil  : evR2 cx_Clone_pass_nil (hdI cx_Clone_pass_nil (find []) [] none 0) none Try.f49 49 (some 46) [(false, [.sl (some true) true .pass []])] some = (S.Clone_pass_nil_R ).go (ret_Clone_pass_nil true) := by kernel_rfl
theorem bs_Clone_pass_nil : loopsIn Try.f49 [] = [] := by kernel_rfl
theorem Clone_pass_nil_ok : Stands Try.prog tyTab 49 g_Clone_pass_nil := by
  refine stands3 (L := find []) (n := 0) (hints := []) (cx_ok rfl) rdy_Clone_pass_nil ⟨by kernel_rfl, by kernel_rfl, by kernel_rfl⟩ bs_Clone_pass_nil nilB (fun das r hG hr => ?_)
  unfold g_Clone_pass_nil at hG
  split at hG
  · injection hG with hG; subst hG
    exact ⟨(some 46), true, win default ((raw_Clone_pass_nil ).trans (DT.go_run _ _)) hr⟩
  · cases hG
noncomputable abbrev cx_Clone_pass_nn : Cx := mkCx2 tyTab [] [] [] []
theorem rdy_Clone_pass_nn : Ready Try.prog tyTab [] [] [] := ⟨noneG2, noneI2, noneF2⟩
structure S.Clone_pass_nn_T where
  x0 : List (Ty ET.pass)
  x1 : Nat
  deriving Inhabited
noncomputable def S.Clone_pass_nn_R (a0 : List (Ty .pass)) : DT S.Clone_pass_nn_T :=
let y0 : Nat := 0 + a0.length
(.br (xdec (0 ≤ (List.replicate 0 (dflt ET.pass)).length) && xdec (y0 ≤ 1048576))
(.leaf ⟨List.take 0 [] ++ a0, y0⟩)
.fail)
noncomputable def S.Clone_pass_nn (a0 : List (Ty .pass)) : Option S.Clone_pass_nn_T := (S.Clone_pass_nn_R a0).run
noncomputable def S.Clone_pass_nn_is (a0 : List (Ty .pass)) : Bool := (S.Clone_pass_nn a0).isSome
noncomputable def S.Clone_pass_nn_o (a0 : List (Ty .pass)) : S.Clone_pass_nn_T := (S.Clone_pass_nn a0).getD default
noncomputable def ret_Clone_pass_nn (b : Bool) (r : S.Clone_pass_nn_T) : Ret := ⟨b, some (46, (⟨ET.pass, r.x0⟩ : (t : ET) × List (Ty t))), [(false, [C.own 5 ET.pass false 0 r.x1])]⟩
noncomputable def g_Clone_pass_nn : Con
  | [(false, [.sl (some false) false .pass a0])] => some (ret_Clone_pass_nn (S.Clone_pass_nn_is a0) (S.Clone_pass_nn_o a0))
  | _ => none
theorem raw_Clone_pass_nn (a0 : List (Ty .pass)) : evR2 cx_Clone_pass_nn (hdI cx_Clone_pass_nn (find []) [] none 0) none Try.f49 49 (some 46) [(false, [.sl (some false) false .pass a0])] some = (S.Clone_pass_nn_R a0).go (ret_Clone_pass_nn true) := by kernel_rfl
theorem bs_Clone_pass_nn : loopsIn Try.f49 [] = [] := by kernel_rfl
theorem Clone_pass_nn_ok : Stands Try.prog tyTab 49 g_Clone_pass_nn := by
  refine stands3 (L := find []) (n := 0) (hints := []) (cx_ok rfl) rdy_Clone_pass_nn ⟨by kernel_rfl, by kernel_rfl, by kernel_rfl⟩ bs_Clone_pass_nn nilB (fun das r hG hr => ?_)
  unfold g_Clone_pass_nn at hG
  split at hG
  · rename_i a0
    injection hG with hG; subst hG
    exact ⟨(some 46), true, win default ((raw_Clone_pass_nn a0).trans (DT.go_run _ _)) hr⟩
  · cases hG
noncomputable def g_Clone_pass : Con := fun das => match das with | [(false, [.sl _ _ t2 l])] => if e : t2 = ET.pass then some (ret_Clone_pass_nn (S.Clone_pass_nn_is (e ▸ l)) (S.Clone_pass_nn_o (e ▸ l))) else none | _ => none
theorem Clone_pass_ok : Stands Try.prog tyTab 49 g_Clone_pass := nil_split (t := .pass) (r := fun l => ret_Clone_pass_nn (S.Clone_pass_nn_is l) (S.Clone_pass_nn_o l)) Clone_pass_nil_ok Clone_pass_nn_ok (r0 := ret_Clone_pass_nil true (S.Clone_pass_nil_o)) (by kernel_rfl) ⟨by kernel_rfl, by kernel_rfl, fun nm => by kernel_rfl⟩ (fun l => rfl)
noncomputable abbrev cx_token_byConn_1 : Cx := mkCx2 tyTab [] [] [] []
theorem rdy_token_byConn_1 : Ready Try.prog tyTab [] [] [] := ⟨noneG2, noneI2, noneF2⟩
structure S.token_byConn_1_T where
  x0 : Bool
  deriving Inhabited
noncomputable def S.token_byConn_1_R (a0_2 : Int) (c0 : Int) : DT S.token_byConn_1_T :=
(.br (xdec (c0 ≥ 0))
(.leaf ⟨xeqI a0_2 c0⟩)
(.leaf ⟨false⟩))
noncomputable def S.token_byConn_1 (a0_2 : Int) (c0 : Int) : Option S.token_byConn_1_T := (S.token_byConn_1_R a0_2 c0).run
noncomputable def S.token_byConn_1_is (a0_2 : Int) (c0 : Int) : Bool := (S.token_byConn_1 a0_2 c0).isSome
noncomputable def S.token_byConn_1_o (a0_2 : Int) (c0 : Int) : S.token_byConn_1_T := (S.token_byConn_1 a0_2 c0).getD default
noncomputable def ret_token_byConn_1 (b : Bool) (r : S.token_byConn_1_T) : Ret := ⟨b, none, [(false, [C.d (D.sc (Sc.bool r.x0))])]⟩
noncomputable def g_token_byConn_1 : Con
  | [(true, [.sc (.int .u64 a0_0), .sc (.int .i64 a0_1), .sc (.int .i64 a0_2), .sc (.int .i64 a0_3)]), (false, [.ref [.sc (.int .i64 c0)]])] => some (ret_token_byConn_1 (S.token_byConn_1_is a0_2 c0) (S.token_byConn_1_o a0_2 c0))
  | _ => none
theorem raw_token_byConn_1 (a0_0 : Int) (a0_1 : Int) (a0_2 : Int) (a0_3 : Int) (c0 : Int) : evR2 cx_token_byConn_1 (hdI cx_token_byConn_1 (find []) [] none 0) none Try.f52 52 none [(true, [.sc (.int .u64 a0_0), .sc (.int .i64 a0_1), .sc (.int .i64 a0_2), .sc (.int .i64 a0_3)]), (false, [.ref [.sc (.int .i64 c0)]])] some = (S.token_byConn_1_R a0_2 c0).go (ret_token_byConn_1 true) := by kernel_rfl
theorem bs_token_byConn_1 : loopsIn Try.f52 [] = [] := by kernel_rfl
theorem token_byConn_1_ok : Stands Try.prog tyTab 52 g_token_byConn_1 := by
  refine stands3 (L := find []) (n := 0) (hints := []) (cx_ok rfl) rdy_token_byConn_1 ⟨by kernel_rfl, by kernel_rfl, by kernel_rfl⟩ bs_token_byConn_1 nilB (fun das r hG hr => ?_)
  unfold g_token_byConn_1 at hG
  split at hG
  · rename_i a0_0 a0_1 a0_2 a0_3 c0
    injection hG with hG; subst hG
    exact ⟨none, true, win default ((raw_token_byConn_1 a0_0 a0_1 a0_2 a0_3 c0).trans (DT.go_run _ _)) hr⟩
  · cases hG
noncomputable abbrev cx_token_byToken_1 : Cx := mkCx2 tyTab [] [] [] []
theorem rdy_token_byToken_1 : Ready Try.prog tyTab [] [] [] := ⟨noneG2, noneI2, noneF2⟩
structure S.token_byToken_1_T where
  x0 : Bool
  deriving Inhabited
noncomputable def S.token_byToken_1_R (a0_0 : Int) (c0 : Int) : DT S.token_byToken_1_T :=
(.leaf ⟨xeqI a0_0 c0⟩)
noncomputable def S.token_byToken_1 (a0_0 : Int) (c0 : Int) : Option S.token_byToken_1_T := (S.token_byToken_1_R a0_0 c0).run
noncomputable def S.token_byToken_1_is (a0_0 : Int) (c0 : Int) : Bool := (S.token_byToken_1 a0_0 c0).isSome
noncomputable def S.token_byToken_1_o (a0_0 : Int) (c0 : Int) : S.token_byToken_1_T := (S.token_byToken_1 a0_0 c0).getD default
noncomputable def ret_token_byToken_1 (b : Bool) (r : S.token_byToken_1_T) : Ret := ⟨b, none, [(false, [C.d (D.sc (Sc.bool r.x0))])]⟩
noncomputable def g_token_byToken_1 : Con
  | [(true, [.sc (.int .u64 a0_0), .sc (.int .i64 a0_1), .sc (.int .i64 a0_2), .sc (.int .i64 a0_3)]), (false, [.ref [.sc (.int .u64 c0)]])] => some (ret_token_byToken_1 (S.token_byToken_1_is a0_0 c0) (S.token_byToken_1_o a0_0 c0))
  | _ => none
theorem raw_token_byToken_1 (a0_0 : Int) (a0_1 : Int) (a0_2 : Int) (a0_3 : Int) (c0 : Int) : evR2 cx_token_byToken_1 (hdI cx_token_byToken_1 (find []) [] none 0) none Try.f54 54 none [(true, [.sc (.int .u64 a0_0), .sc (.int .i64 a0_1), .sc (.int .i64 a0_2), .sc (.int .i64 a0_3)]), (false, [.ref [.sc (.int .u64 c0)]])] some = (S.token_byToken_1_R a0_0 c0).go (ret_token_byToken_1 true) := by kernel_rfl
theorem bs_token_byToken_1 : loopsIn Try.f54 [] = [] := by kernel_rfl
theorem token_byToken_1_ok : Stands Try.prog tyTab 54 g_token_byToken_1 := by
  refine stands3 (L := find []) (n := 0) (hints := []) (cx_ok rfl) rdy_token_byToken_1 ⟨by kernel_rfl, by kernel_rfl, by kernel_rfl⟩ bs_token_byToken_1 nilB (fun das r hG hr => ?_)
  unfold g_token_byToken_1 at hG
  split at hG
  · rename_i a0_0 a0_1 a0_2 a0_3 c0
    injection hG with hG; subst hG
    exact ⟨none, true, win default ((raw_token_byToken_1 a0_0 a0_1 a0_2 a0_3 c0).trans (DT.go_run _ _)) hr⟩
  · cases hG
noncomputable abbrev cx_token_byTime_1 : Cx := mkCx2 tyTab [] [] [] []
theorem rdy_token_byTime_1 : Ready Try.prog tyTab [] [] [] := ⟨noneG2, noneI2, noneF2⟩
structure S.token_byTime_1_T where
  x0 : Bool
  deriving Inhabited
noncomputable def S.token_byTime_1_R (a0_2 : Int) (a0_3 : Int) (c0 : Int) : DT S.token_byTime_1_T :=
(.br (xeqI a0_2 (-1))
(.leaf ⟨xdec (c0 ≥ xwrap IntKind.i64 (a0_3 + 20))⟩)
(.leaf ⟨false⟩))
noncomputable def S.token_byTime_1 (a0_2 : Int) (a0_3 : Int) (c0 : Int) : Option S.token_byTime_1_T := (S.token_byTime_1_R a0_2 a0_3 c0).run
noncomputable def S.token_byTime_1_is (a0_2 : Int) (a0_3 : Int) (c0 : Int) : Bool := (S.token_byTime_1 a0_2 a0_3 c0).isSome
noncomputable def S.token_byTime_1_o (a0_2 : Int) (a0_3 : Int) (c0 : Int) : S.token_byTime_1_T := (S.token_byTime_1 a0_2 a0_3 c0).getD default
noncomputable def ret_token_byTime_1 (b : Bool) (r : S.token_byTime_1_T) : Ret := ⟨b, none, [(false, [C.d (D.sc (Sc.bool r.x0))])]⟩
noncomputable def g_token_byTime_1 : Con
  | [(true, [.sc (.int .u64 a0_0), .sc (.int .i64 a0_1), .sc (.int .i64 a0_2), .sc (.int .i64 a0_3)]), (false, [.ref [.sc (.int .i64 c0)]])] => some (ret_token_byTime_1 (S.token_byTime_1_is a0_2 a0_3 c0) (S.token_byTime_1_o a0_2 a0_3 c0))
  | _ => none
theorem raw_token_byTime_1 (a0_0 : Int) (a0_1 : Int) (a0_2 : Int) (a0_3 : Int) (c0 : Int) : evR2 cx_token_byTime_1 (hdI cx_token_byTime_1 (find []) [] none 0) none Try.f55 55 none [(true, [.sc (.int .u64 a0_0), .sc (.int .i64 a0_1), .sc (.int .i64 a0_2), .sc (.int .i64 a0_3)]), (false, [.ref [.sc (.int .i64 c0)]])] some = (S.token_byTime_1_R a0_2 a0_3 c0).go (ret_token_byTime_1 true) := by kernel_rfl
theorem bs_token_byTime_1 : loopsIn Try.f55 [] = [] := by kernel_rfl
theorem token_byTime_1_ok : Stands Try.prog tyTab 55 g_token_byTime_1 := by
  refine stands3 (L := find []) (n := 0) (hints := []) (cx_ok rfl) rdy_token_byTime_1 ⟨by kernel_rfl, by kernel_rfl, by kernel_rfl⟩ bs_token_byTime_1 nilB (fun das r hG hr => ?_)
  unfold g_token_byTime_1 at hG
  split at hG
  · rename_i a0_0 a0_1 a0_2 a0_3 c0
    injection hG with hG; subst hG
    exact ⟨none, true, win default ((raw_token_byTime_1 a0_0 a0_1 a0_2 a0_3 c0).trans (DT.go_run _ _)) hr⟩
  · cases hG
noncomputable abbrev cx_token_bySess_1 : Cx := mkCx2 tyTab [] [] [] []
theorem rdy_token_bySess_1 : Ready Try.prog tyTab [] [] [] := ⟨noneG2, noneI2, noneF2⟩
structure S.token_bySess_1_T where
  x0 : Bool
  deriving Inhabited
noncomputable def S.token_bySess_1_R (a0_1 : Int) (c0 : Int) : DT S.token_bySess_1_T :=
(.leaf ⟨xeqI a0_1 c0⟩)
noncomputable def S.token_bySess_1 (a0_1 : Int) (c0 : Int) : Option S.token_bySess_1_T := (S.token_bySess_1_R a0_1 c0).run
noncomputable def S.token_bySess_1_is (a0_1 : Int) (c0 : Int) : Bool := (S.token_bySess_1 a0_1 c0).isSome
noncomputable def S.token_bySess_1_o (a0_1 : Int) (c0 : Int) : S.token_bySess_1_T := (S.token_bySess_1 a0_1 c0).getD default
noncomputable def ret_token_bySess_1 (b : Bool) (r : S.token_bySess_1_T) : Ret := ⟨b, none, [(false, [C.d (D.sc (Sc.bool r.x0))])]⟩
noncomputable def g_token_bySess_1 : Con
  | [(true, [.sc (.int .u64 a0_0), .sc (.int .i64 a0_1), .sc (.int .i64 a0_2), .sc (.int .i64 a0_3)]), (false, [.ref [.sc (.int .i64 c0)]])] => some (ret_token_bySess_1 (S.token_bySess_1_is a0_1 c0) (S.token_bySess_1_o a0_1 c0))
  | _ => none
theorem raw_token_bySess_1 (a0_0 : Int) (a0_1 : Int) (a0_2 : Int) (a0_3 : Int) (c0 : Int) : evR2 cx_token_bySess_1 (hdI cx_token_bySess_1 (find []) [] none 0) none Try.f57 57 none [(true, [.sc (.int .u64 a0_0), .sc (.int .i64 a0_1), .sc (.int .i64 a0_2), .sc (.int .i64 a0_3)]), (false, [.ref [.sc (.int .i64 c0)]])] some = (S.token_bySess_1_R a0_1 c0).go (ret_token_bySess_1 true) := by kernel_rfl
theorem bs_token_bySess_1 : loopsIn Try.f57 [] = [] := by kernel_rfl
theorem token_bySess_1_ok : Stands Try.prog tyTab 57 g_token_bySess_1 := by
  refine stands3 (L := find []) (n := 0) (hints := []) (cx_ok rfl) rdy_token_bySess_1 ⟨by kernel_rfl, by kernel_rfl, by kernel_rfl⟩ bs_token_bySess_1 nilB (fun das r hG hr => ?_)
  unfold g_token_bySess_1 at hG
  split at hG
  · rename_i a0_0 a0_1 a0_2 a0_3 c0
    injection hG with hG; subst hG
    exact ⟨none, true, win default ((raw_token_bySess_1 a0_0 a0_1 a0_2 a0_3 c0).trans (DT.go_run _ _)) hr⟩
  · cases hG
noncomputable abbrev cx_token_byConn : Cx := mkCx2 tyTab [] [] [] []
theorem rdy_token_byConn : Ready Try.prog tyTab [] [] [] := ⟨noneG2, noneI2, noneF2⟩
structure S.token_byConn_T where
  x0 : Int
  deriving Inhabited
noncomputable def S.token_byConn_R (a0 : Int) : DT S.token_byConn_T :=
(.leaf ⟨a0⟩)
noncomputable def S.token_byConn (a0 : Int) : Option S.token_byConn_T := (S.token_byConn_R a0).run
noncomputable def S.token_byConn_is (a0 : Int) : Bool := (S.token_byConn a0).isSome
noncomputable def S.token_byConn_o (a0 : Int) : S.token_byConn_T := (S.token_byConn a0).getD default
noncomputable def ret_token_byConn (b : Bool) (r : S.token_byConn_T) : Ret := ⟨b, none, [(true, [C.d (D.fn 52 [] [[D.sc (Sc.int IntKind.i64 r.x0)]])])]⟩
noncomputable def g_token_byConn : Con
  | [(false, [.sc (.int .i64 a0)])] => some (ret_token_byConn (S.token_byConn_is a0) (S.token_byConn_o a0))
  | _ => none
theorem raw_token_byConn (a0 : Int) : evR2 cx_token_byConn (hdI cx_token_byConn (find []) [] none 0) none Try.f45 45 none [(false, [.sc (.int .i64 a0)])] some = (S.token_byConn_R a0).go (ret_token_byConn true) := by kernel_rfl
theorem bs_token_byConn : loopsIn Try.f45 [] = [] := by kernel_rfl
theorem token_byConn_ok : Stands Try.prog tyTab 45 g_token_byConn := by
  refine stands3 (L := find []) (n := 0) (hints := []) (cx_ok rfl) rdy_token_byConn ⟨by kernel_rfl, by kernel_rfl, by kernel_rfl⟩ bs_token_byConn nilB (fun das r hG hr => ?_)
  unfold g_token_byConn at hG
  split at hG
  · rename_i a0
    injection hG with hG; subst hG
    exact ⟨none, true, win default ((raw_token_byConn a0).trans (DT.go_run _ _)) hr⟩
  · cases hG
noncomputable abbrev cx_token_byToken : Cx := mkCx2 tyTab [] [] [] []
theorem rdy_token_byToken : Ready Try.prog tyTab [] [] [] := ⟨noneG2, noneI2, noneF2⟩
structure S.token_byToken_T where
  x0 : Int
  deriving Inhabited
noncomputable def S.token_byToken_R (a0 : Int) : DT S.token_byToken_T :=
(.leaf ⟨a0⟩)
noncomputable def S.token_byToken (a0 : Int) : Option S.token_byToken_T := (S.token_byToken_R a0).run
noncomputable def S.token_byToken_is (a0 : Int) : Bool := (S.token_byToken a0).isSome
noncomputable def S.token_byToken_o (a0 : Int) : S.token_byToken_T := (S.token_byToken a0).getD default
noncomputable def ret_token_byToken (b : Bool) (r : S.token_byToken_T) : Ret := ⟨b, none, [(true, [C.d (D.fn 54 [] [[D.sc (Sc.int IntKind.u64 r.x0)]])])]⟩
noncomputable def g_token_byToken : Con
  | [(false, [.sc (.int .u64 a0)])] => some (ret_token_byToken (S.token_byToken_is a0) (S.token_byToken_o a0))
  | _ => none
theorem raw_token_byToken (a0 : Int) : evR2 cx_token_byToken (hdI cx_token_byToken (find []) [] none 0) none Try.f47 47 none [(false, [.sc (.int .u64 a0)])] some = (S.token_byToken_R a0).go (ret_token_byToken true) := by kernel_rfl
theorem bs_token_byToken : loopsIn Try.f47 [] = [] := by kernel_rfl
theorem token_byToken_ok : Stands Try.prog tyTab 47 g_token_byToken := by
  refine stands3 (L := find []) (n := 0) (hints := []) (cx_ok rfl) rdy_token_byToken ⟨by kernel_rfl, by kernel_rfl, by kernel_rfl⟩ bs_token_byToken nilB (fun das r hG hr => ?_)
  unfold g_token_byToken at hG
  split at hG
  · rename_i a0
    injection hG with hG; subst hG
    exact ⟨none, true, win default ((raw_token_byToken a0).trans (DT.go_run _ _)) hr⟩
  · cases hG
noncomputable abbrev cx_token_byTime : Cx := mkCx2 tyTab [] [] [] []
theorem rdy_token_byTime : Ready Try.prog tyTab [] [] [] := ⟨noneG2, noneI2, noneF2⟩
structure S.token_byTime_T where
  x0 : Int
  deriving Inhabited
noncomputable def S.token_byTime_R (a0 : Int) : DT S.token_byTime_T :=
(.leaf ⟨a0⟩)
noncomputable def S.token_byTime (a0 : Int) : Option S.token_byTime_T := (S.token_byTime_R a0).run
noncomputable def S.token_byTime_is (a0 : Int) : Bool := (S.token_byTime a0).isSome
noncomputable def S.token_byTime_o (a0 : Int) : S.token_byTime_T := (S.token_byTime a0).getD default
noncomputable def ret_token_byTime (b : Bool) (r : S.token_byTime_T) : Ret := ⟨b, none, [(true, [C.d (D.fn 55 [] [[D.sc (Sc.int IntKind.i64 r.x0)]])])]⟩
noncomputable def g_token_byTime : Con
  | [(false, [.sc (.int .i64 a0)])] => some (ret_token_byTime (S.token_byTime_is a0) (S.token_byTime_o a0))
  | _ => none
theorem raw_token_byTime (a0 : Int) : evR2 cx_token_byTime (hdI cx_token_byTime (find []) [] none 0) none Try.f48 48 none [(false, [.sc (.int .i64 a0)])] some = (S.token_byTime_R a0).go (ret_token_byTime true) := by kernel_rfl
theorem bs_token_byTime : loopsIn Try.f48 [] = [] := by kernel_rfl
theorem token_byTime_ok : Stands Try.prog tyTab 48 g_token_byTime := by
  refine stands3 (L := find []) (n := 0) (hints := []) (cx_ok rfl) rdy_token_byTime ⟨by kernel_rfl, by kernel_rfl, by kernel_rfl⟩ bs_token_byTime nilB (fun das r hG hr => ?_)
  unfold g_token_byTime at hG
  split at hG
  · rename_i a0
    injection hG with hG; subst hG
    exact ⟨none, true, win default ((raw_token_byTime a0).trans (DT.go_run _ _)) hr⟩
  · cases hG
noncomputable abbrev cx_token_bySess : Cx := mkCx2 tyTab [] [] [] []
theorem rdy_token_bySess : Ready Try.prog tyTab [] [] [] := ⟨noneG2, noneI2, noneF2⟩
structure S.token_bySess_T where
  x0 : Int
  deriving Inhabited
noncomputable def S.token_bySess_R (a0 : Int) : DT S.token_bySess_T :=
(.leaf ⟨a0⟩)
noncomputable def S.token_bySess (a0 : Int) : Option S.token_bySess_T := (S.token_bySess_R a0).run
noncomputable def S.token_bySess_is (a0 : Int) : Bool := (S.token_bySess a0).isSome
noncomputable def S.token_bySess_o (a0 : Int) : S.token_bySess_T := (S.token_bySess a0).getD default
noncomputable def ret_token_bySess (b : Bool) (r : S.token_bySess_T) : Ret := ⟨b, none, [(true, [C.d (D.fn 57 [] [[D.sc (Sc.int IntKind.i64 r.x0)]])])]⟩
noncomputable def g_token_bySess : Con
  | [(false, [.sc (.int .i64 a0)])] => some (ret_token_bySess (S.token_bySess_is a0) (S.token_bySess_o a0))
  | _ => none
theorem raw_token_bySess (a0 : Int) : evR2 cx_token_bySess (hdI cx_token_bySess (find []) [] none 0) none Try.f51 51 none [(false, [.sc (.int .i64 a0)])] some = (S.token_bySess_R a0).go (ret_token_bySess true) := by kernel_rfl
theorem bs_token_bySess : loopsIn Try.f51 [] = [] := by kernel_rfl
theorem token_bySess_ok : Stands Try.prog tyTab 51 g_token_bySess := by
  refine stands3 (L := find []) (n := 0) (hints := []) (cx_ok rfl) rdy_token_bySess ⟨by kernel_rfl, by kernel_rfl, by kernel_rfl⟩ bs_token_bySess nilB (fun das r hG hr => ?_)
  unfold g_token_bySess at hG
  split at hG
  · rename_i a0
    injection hG with hG; subst hG
    exact ⟨none, true, win default ((raw_token_bySess a0).trans (DT.go_run _ _)) hr⟩
  · cases hG
noncomputable abbrev cx_IndexFunc_conn : Cx := mkCx2 tyTab [(52, g_token_byConn_1)] [] [(53, 2, { keep := [0, 1, 7, 8], acc := [] })] []
theorem rdy_IndexFunc_conn : Ready Try.prog tyTab [(52, g_token_byConn_1)] [] [] := ⟨consG2 token_byConn_1_ok (noneG2), noneI2, noneF2⟩
structure S.IndexFunc_conn_2_V where
  t_8_0 : Int
noncomputable def S.IndexFunc_conn_2_R (t_0_0 : List (Ty ET.pass)) (t_1_0b_0_0 : Int) (t_7_0 : Int) (v : S.IndexFunc_conn_2_V) : DT (Option Nat × S.IndexFunc_conn_2_V) :=
let y0 : Int := (t_0_0.getD v.t_8_0.toNat (dflt ET.pass)).conn
(.br (xdec (v.t_8_0 < t_7_0))
(.br (xdec (0 ≤ v.t_8_0) && xdec (v.t_8_0 < (↑t_0_0.length : Int)))
(.br (S.token_byConn_1_is y0 t_1_0b_0_0)
(.br ((S.token_byConn_1_o y0 t_1_0b_0_0).x0)
(.leaf (some 0, v))
(.leaf (none, ⟨xwrap IntKind.i64 (v.t_8_0 + 1)⟩)))
.fail)
.fail)
(.leaf (some 1, v)))
noncomputable def S.IndexFunc_conn_2_r (t_0_0 : List (Ty ET.pass)) (t_1_0b_0_0 : Int) (t_7_0 : Int) (v : S.IndexFunc_conn_2_V) : Option (Option Nat × S.IndexFunc_conn_2_V) := (S.IndexFunc_conn_2_R t_0_0 t_1_0b_0_0 t_7_0 v).run
noncomputable def S.IndexFunc_conn_2_j (t_0_0 : List (Ty ET.pass)) (t_1_0b_0_0 : Int) (t_7_0 : Int) (v : S.IndexFunc_conn_2_V) (j : Nat) : Bool := Lp_j (S.IndexFunc_conn_2_r t_0_0 t_1_0b_0_0 t_7_0) v j
noncomputable def S.IndexFunc_conn_2_v (t_0_0 : List (Ty ET.pass)) (t_1_0b_0_0 : Int) (t_7_0 : Int) (v : S.IndexFunc_conn_2_V) : S.IndexFunc_conn_2_V := Lp_v (S.IndexFunc_conn_2_r t_0_0 t_1_0b_0_0 t_7_0) v
noncomputable def mk_IndexFunc_conn_2 (t_0_0n : Option Bool) (t_0_0f : Bool) (t_0_0 : List (Ty ET.pass)) (t_1_0b_0_0 : Int) (t_7_0 : Int) (v : S.IndexFunc_conn_2_V) : St := ⟨[V.v false [C.d (D.sl t_0_0n t_0_0f ET.pass t_0_0)], V.v false [C.d (D.fn 52 [] [[D.sc (Sc.int IntKind.i64 t_1_0b_0_0)]])], V.any, V.any, V.any, V.any, V.any,
  V.v false [C.d (D.sc (Sc.int IntKind.i64 t_7_0))], V.v false [C.d (D.sc (Sc.int IntKind.i64 v.t_8_0))], V.any, V.any, V.any, V.any, V.any, V.any, V.any, V.any, V.any, V.any], [none, none, none, none], 0⟩
noncomputable def ex_IndexFunc_conn_2 (t_0_0n : Option Bool) (t_0_0f : Bool) (t_0_0 : List (Ty ET.pass)) (t_1_0b_0_0 : Int) (t_7_0 : Int) (j : Nat) (v : S.IndexFunc_conn_2_V) : Ex × St := match j with
  | 0 => (Ex.ret, ⟨[V.any, V.any, V.any, V.any, V.v false [C.d (D.sc (Sc.int IntKind.i64 v.t_8_0))], V.any, V.any, V.any, V.any, V.any, V.any, V.any, V.any, V.any, V.any, V.any, V.any, V.any, V.any], [none, none, none, none, none, none, none, none, none, none, none, none, none, none, none], 0⟩)
  | 1 => (Ex.exit 0, ⟨[V.any, V.any, V.any, V.any, V.any, V.any, V.any, V.any, V.any, V.any, V.any, V.any, V.any, V.any, V.any, V.any, V.any, V.any, V.any], [none, none, none, none, none], 0⟩)
  | _ => (.ret, ⟨[], [], 0⟩)
noncomputable def T1_IndexFunc_conn_2 : V → V → V → V → Tree
  | V.v false [C.d (D.sl t_0_0n t_0_0f ET.pass t_0_0)], V.v false [C.d (D.fn 52 [] [[D.sc (Sc.int IntKind.i64 t_1_0b_0_0)]])], V.v false [C.d (D.sc (Sc.int IntKind.i64 t_7_0))], V.v false [C.d (D.sc (Sc.int IntKind.i64 t_8_0))] => exT (fun j => ex_IndexFunc_conn_2 t_0_0n t_0_0f t_0_0 t_1_0b_0_0 t_7_0 j (S.IndexFunc_conn_2_v t_0_0 t_1_0b_0_0 t_7_0 ⟨t_8_0⟩)) (S.IndexFunc_conn_2_j t_0_0 t_1_0b_0_0 t_7_0 ⟨t_8_0⟩) [0, 1]
  | _, _, _, _ => .bad
noncomputable def T_IndexFunc_conn_2 (st : St) : Tree := bif okSt 19 4 0 [] st then T1_IndexFunc_conn_2 (st.env.getD 0 .any) (st.env.getD 1 .any) (st.env.getD 7 .any) (st.env.getD 8 .any) else .bad
noncomputable def b_IndexFunc_conn_2 : Code := loopBy Try.f53 2
theorem rnd_IndexFunc_conn_2 (t_0_0n : Option Bool) (t_0_0f : Bool) (t_0_0 : List (Ty ET.pass)) (t_1_0b_0_0 : Int) (t_7_0 : Int) (v : S.IndexFunc_conn_2_V) : round2 cx_IndexFunc_conn (hdI cx_IndexFunc_conn (find []) [] none 0) 53 b_IndexFunc_conn_2 [] 4 [4] (mk_IndexFunc_conn_2 t_0_0n t_0_0f t_0_0 t_1_0b_0_0 t_7_0 v) = (S.IndexFunc_conn_2_R t_0_0 t_1_0b_0_0 t_7_0 v).go (roundOut (mk_IndexFunc_conn_2 t_0_0n t_0_0f t_0_0 t_1_0b_0_0 t_7_0) (ex_IndexFunc_conn_2 t_0_0n t_0_0f t_0_0 t_1_0b_0_0 t_7_0)) := by kernel_rfl
theorem bs_IndexFunc_conn_2 : loopsOf b_IndexFunc_conn_2 ++ loopsInl [] = [] := by kernel_rfl
theorem ci_IndexFunc_conn_2 (t_0_0n : Option Bool) (t_0_0f : Bool) (t_0_0 : List (Ty ET.pass)) (t_1_0b_0_0 : Int) (t_7_0 : Int) : ∀ v j v2, Lp (S.IndexFunc_conn_2_r t_0_0 t_1_0b_0_0 t_7_0) v = some (j, v2) → Circles Try.prog cx_IndexFunc_conn b_IndexFunc_conn_2 (mk_IndexFunc_conn_2 t_0_0n t_0_0f t_0_0 t_1_0b_0_0 t_7_0 v) (ex_IndexFunc_conn_2 t_0_0n t_0_0f t_0_0 t_1_0b_0_0 t_7_0 j v2).1 (ex_IndexFunc_conn_2 t_0_0n t_0_0f t_0_0 t_1_0b_0_0 t_7_0 j v2).2 :=
  loop_ok2 (L := find []) (n := 0) (hints := [(53, 2, { keep := [0, 1, 7, 8], acc := [] })]) (cx_ok rfl) rdy_IndexFunc_conn bs_IndexFunc_conn_2 nilB (fun v => (rnd_IndexFunc_conn_2 t_0_0n t_0_0f t_0_0 t_1_0b_0_0 t_7_0 v).trans (DT.go_run _ _)) (by intro j v; unfold ex_IndexFunc_conn_2; split <;> rfl)
theorem mke_IndexFunc_conn_2 (t_0_0n : Option Bool) (t_0_0f : Bool) (t_0_0 : List (Ty ET.pass)) (t_1_0b_0_0 : Int) (t_7_0 : Int) (v : S.IndexFunc_conn_2_V) : mk_IndexFunc_conn_2 t_0_0n t_0_0f t_0_0 t_1_0b_0_0 t_7_0 v = ⟨envOf 19 [(0, V.v false [C.d (D.sl t_0_0n t_0_0f ET.pass t_0_0)]), (1, V.v false [C.d (D.fn 52 [] [[D.sc (Sc.int IntKind.i64 t_1_0b_0_0)]])]), (7, V.v false [C.d (D.sc (Sc.int IntKind.i64 t_7_0))]), (8, V.v false [C.d (D.sc (Sc.int IntKind.i64 v.t_8_0))])], heapOf 4 [], 0⟩ := by kernel_rfl
theorem lo1_IndexFunc_conn_2 (e0 : V) (e1 : V) (e7 : V) (e8 : V)  e st2 (h : (T1_IndexFunc_conn_2 e0 e1 e7 e8).eval = some (e, st2)) : Circles Try.prog cx_IndexFunc_conn b_IndexFunc_conn_2 ⟨envOf 19 [(0, e0), (1, e1), (7, e7), (8, e8)], heapOf 4 [], 0⟩ e st2 := by
  unfold T1_IndexFunc_conn_2 at h
  split at h
  · have := loop_tree (mk := mk_IndexFunc_conn_2 _ _ _ _ _) (ci_IndexFunc_conn_2 _ _ _ _ _) _ _ e st2 h
    rw [mke_IndexFunc_conn_2] at this
    exact this
  · cases h
theorem lok_IndexFunc_conn_2 : LoopOk Try.prog cx_IndexFunc_conn b_IndexFunc_conn_2 T_IndexFunc_conn_2 := by
  intro st e st2 h
  unfold T_IndexFunc_conn_2 at h
  cases hk : okSt 19 4 0 [] st with
  | false => rw [hk] at h; cases h
  | true =>
    rw [hk] at h
    exact circles_keep (ks := [0, 1, 7, 8]) hk (lo1_IndexFunc_conn_2 _ _ _ _ e st2 h)
structure S.IndexFunc_conn_T where
  x0 : Int
  deriving Inhabited
noncomputable def S.IndexFunc_conn_R (a0 : List (Ty .pass)) (c0 : Int) : DT S.IndexFunc_conn_T :=
let y0 : Int := (↑a0.length : Int)
let y1 : S.IndexFunc_conn_2_V := { t_8_0 := 0 : S.IndexFunc_conn_2_V }
(.br (S.IndexFunc_conn_2_j a0 c0 y0 y1 0)
(.leaf ⟨(S.IndexFunc_conn_2_v a0 c0 y0 y1).t_8_0⟩)
(.br (S.IndexFunc_conn_2_j a0 c0 y0 y1 1)
(.leaf ⟨-1⟩)
.fail))
noncomputable def S.IndexFunc_conn (a0 : List (Ty .pass)) (c0 : Int) : Option S.IndexFunc_conn_T := (S.IndexFunc_conn_R a0 c0).run
noncomputable def S.IndexFunc_conn_is (a0 : List (Ty .pass)) (c0 : Int) : Bool := (S.IndexFunc_conn a0 c0).isSome
noncomputable def S.IndexFunc_conn_o (a0 : List (Ty .pass)) (c0 : Int) : S.IndexFunc_conn_T := (S.IndexFunc_conn a0 c0).getD default
noncomputable def ret_IndexFunc_conn (b : Bool) (r : S.IndexFunc_conn_T) : Ret := ⟨b, none, [(false, [C.d (D.sc (Sc.int IntKind.i64 r.x0))])]⟩
noncomputable def g_IndexFunc_conn : Con
  | [(false, [.sl a0n a0f .pass a0]), (false, [.fn 52 [] [[.sc (.int .i64 c0)]]])] => some (ret_IndexFunc_conn (S.IndexFunc_conn_is a0 c0) (S.IndexFunc_conn_o a0 c0))
  | _ => none
theorem raw_IndexFunc_conn (a0n : Option Bool) (a0f : Bool) (a0 : List (Ty .pass)) (c0 : Int) : evR2 cx_IndexFunc_conn (hdI cx_IndexFunc_conn (find [(2, T_IndexFunc_conn_2)]) [] none 0) none Try.f53 53 none [(false, [.sl a0n a0f .pass a0]), (false, [.fn 52 [] [[.sc (.int .i64 c0)]]])] some = (S.IndexFunc_conn_R a0 c0).go (ret_IndexFunc_conn true) := by kernel_rfl
theorem bs_IndexFunc_conn : loopsIn Try.f53 [] = [b_IndexFunc_conn_2] := by kernel_rfl
theorem IndexFunc_conn_ok : Stands Try.prog tyTab 53 g_IndexFunc_conn := by
  refine stands3 (L := find [(2, T_IndexFunc_conn_2)]) (n := 0) (hints := [(53, 2, { keep := [0, 1, 7, 8], acc := [] })]) (cx_ok rfl) rdy_IndexFunc_conn ⟨by kernel_rfl, by kernel_rfl, by kernel_rfl⟩ bs_IndexFunc_conn (consB (fun T h => by have e : T_IndexFunc_conn_2 = T := Option.some.inj (show some T_IndexFunc_conn_2 = some T from h); exact e ▸ lok_IndexFunc_conn_2) nilB) (fun das r hG hr => ?_)
  unfold g_IndexFunc_conn at hG
  split at hG
  · rename_i a0n a0f a0 c0
    injection hG with hG; subst hG
    exact ⟨none, true, win default ((raw_IndexFunc_conn a0n a0f a0 c0).trans (DT.go_run _ _)) hr⟩
  · cases hG
noncomputable abbrev cx_IndexFunc_token : Cx := mkCx2 tyTab [(54, g_token_byToken_1)] [] [(53, 2, { keep := [0, 1, 7, 8], acc := [] })] []
theorem rdy_IndexFunc_token : Ready Try.prog tyTab [(54, g_token_byToken_1)] [] [] := ⟨consG2 token_byToken_1_ok (noneG2), noneI2, noneF2⟩
structure S.IndexFunc_token_2_V where
  t_8_0 : Int
noncomputable def S.IndexFunc_token_2_R (t_0_0 : List (Ty ET.pass)) (t_1_0b_0_0 : Int) (t_7_0 : Int) (v : S.IndexFunc_token_2_V) : DT (Option Nat × S.IndexFunc_token_2_V) :=
(.br (xdec (v.t_8_0 < t_7_0))
(.br (xdec (0 ≤ v.t_8_0) && xdec (v.t_8_0 < (↑t_0_0.length : Int)))
(.br ((S.token_byToken_1_o (t_0_0.getD v.t_8_0.toNat (dflt ET.pass)).token t_1_0b_0_0).x0)
(.leaf (some 0, v))
(.leaf (none, ⟨xwrap IntKind.i64 (v.t_8_0 + 1)⟩)))
.fail)
(.leaf (some 1, v)))
noncomputable def S.IndexFunc_token_2_r (t_0_0 : List (Ty ET.pass)) (t_1_0b_0_0 : Int) (t_7_0 : Int) (v : S.IndexFunc_token_2_V) : Option (Option Nat × S.IndexFunc_token_2_V) := (S.IndexFunc_token_2_R t_0_0 t_1_0b_0_0 t_7_0 v).run
noncomputable def S.IndexFunc_token_2_j (t_0_0 : List (Ty ET.pass)) (t_1_0b_0_0 : Int) (t_7_0 : Int) (v : S.IndexFunc_token_2_V) (j : Nat) : Bool := Lp_j (S.IndexFunc_token_2_r t_0_0 t_1_0b_0_0 t_7_0) v j
noncomputable def S.IndexFunc_token_2_v (t_0_0 : List (Ty ET.pass)) (t_1_0b_0_0 : Int) (t_7_0 : Int) (v : S.IndexFunc_token_2_V) : S.IndexFunc_token_2_V := Lp_v (S.IndexFunc_token_2_r t_0_0 t_1_0b_0_0 t_7_0) v
noncomputable def mk_IndexFunc_token_2 (t_0_0n : Option Bool) (t_0_0f : Bool) (t_0_0 : List (Ty ET.pass)) (t_1_0b_0_0 : Int) (t_7_0 : Int) (v : S.IndexFunc_token_2_V) : St := ⟨[V.v false [C.d (D.sl t_0_0n t_0_0f ET.pass t_0_0)], V.v false [C.d (D.fn 54 [] [[D.sc (Sc.int IntKind.u64 t_1_0b_0_0)]])], V.any, V.any, V.any, V.any, V.any,
  V.v false [C.d (D.sc (Sc.int IntKind.i64 t_7_0))], V.v false [C.d (D.sc (Sc.int IntKind.i64 v.t_8_0))], V.any, V.any, V.any, V.any, V.any, V.any, V.any, V.any, V.any, V.any], [none, none, none, none], 0⟩
noncomputable def ex_IndexFunc_token_2 (t_0_0n : Option Bool) (t_0_0f : Bool) (t_0_0 : List (Ty ET.pass)) (t_1_0b_0_0 : Int) (t_7_0 : Int) (j : Nat) (v : S.IndexFunc_token_2_V) : Ex × St := match j with
  | 0 => (Ex.ret, ⟨[V.any, V.any, V.any, V.any, V.v false [C.d (D.sc (Sc.int IntKind.i64 v.t_8_0))], V.any, V.any, V.any, V.any, V.any, V.any, V.any, V.any, V.any, V.any, V.any, V.any, V.any, V.any], [none, none, none, none, none, none, none, none, none, none, none, none, none, none, none], 0⟩)
  | 1 => (Ex.exit 0, ⟨[V.any, V.any, V.any, V.any, V.any, V.any, V.any, V.any, V.any, V.any, V.any, V.any, V.any, V.any, V.any, V.any, V.any, V.any, V.any], [none, none, none, none, none], 0⟩)
  | _ => (.ret, ⟨[], [], 0⟩)
noncomputable def T1_IndexFunc_token_2 : V → V → V → V → Tree
  | V.v false [C.d (D.sl t_0_0n t_0_0f ET.pass t_0_0)], V.v false [C.d (D.fn 54 [] [[D.sc (Sc.int IntKind.u64 t_1_0b_0_0)]])], V.v false [C.d (D.sc (Sc.int IntKind.i64 t_7_0))], V.v false [C.d (D.sc (Sc.int IntKind.i64 t_8_0))] => exT (fun j => ex_IndexFunc_token_2 t_0_0n t_0_0f t_0_0 t_1_0b_0_0 t_7_0 j (S.IndexFunc_token_2_v t_0_0 t_1_0b_0_0 t_7_0 ⟨t_8_0⟩)) (S.IndexFunc_token_2_j t_0_0 t_1_0b_0_0 t_7_0 ⟨t_8_0⟩) [0, 1]
  | _, _, _, _ => .bad
noncomputable def T_IndexFunc_token_2 (st : St) : Tree := bif okSt 19 4 0 [] st then T1_IndexFunc_token_2 (st.env.getD 0 .any) (st.env.getD 1 .any) (st.env.getD 7 .any) (st.env.getD 8 .any) else .bad
noncomputable def b_IndexFunc_token_2 : Code := loopBy Try.f53 2
theorem rnd_IndexFunc_token_2 (t_0_0n : Option Bool) (t_0_0f : Bool) (t_0_0 : List (Ty ET.pass)) (t_1_0b_0_0 : Int) (t_7_0 : Int) (v : S.IndexFunc_token_2_V) : round2 cx_IndexFunc_token (hdI cx_IndexFunc_token (find []) [] none 0) 53 b_IndexFunc_token_2 [] 4 [4] (mk_IndexFunc_token_2 t_0_0n t_0_0f t_0_0 t_1_0b_0_0 t_7_0 v) = (S.IndexFunc_token_2_R t_0_0 t_1_0b_0_0 t_7_0 v).go (roundOut (mk_IndexFunc_token_2 t_0_0n t_0_0f t_0_0 t_1_0b_0_0 t_7_0) (ex_IndexFunc_token_2 t_0_0n t_0_0f t_0_0 t_1_0b_0_0 t_7_0)) := by kernel_rfl
theorem bs_IndexFunc_token_2 : loopsOf b_IndexFunc_token_2 ++ loopsInl [] = [] := by kernel_rfl
theorem ci_IndexFunc_token_2 (t_0_0n : Option Bool) (t_0_0f : Bool) (t_0_0 : List (Ty ET.pass)) (t_1_0b_0_0 : Int) (t_7_0 : Int) : ∀ v j v2, Lp (S.IndexFunc_token_2_r t_0_0 t_1_0b_0_0 t_7_0) v = some (j, v2) → Circles Try.prog cx_IndexFunc_token b_IndexFunc_token_2 (mk_IndexFunc_token_2 t_0_0n t_0_0f t_0_0 t_1_0b_0_0 t_7_0 v) (ex_IndexFunc_token_2 t_0_0n t_0_0f t_0_0 t_1_0b_0_0 t_7_0 j v2).1 (ex_IndexFunc_token_2 t_0_0n t_0_0f t_0_0 t_1_0b_0_0 t_7_0 j v2).2 :=
  loop_ok2 (L := find []) (n := 0) (hints := [(53, 2, { keep := [0, 1, 7, 8], acc := [] })]) (cx_ok rfl) rdy_IndexFunc_token bs_IndexFunc_token_2 nilB (fun v => (rnd_IndexFunc_token_2 t_0_0n t_0_0f t_0_0 t_1_0b_0_0 t_7_0 v).trans (DT.go_run _ _)) (by intro j v; unfold ex_IndexFunc_token_2; split <;> rfl)
theorem mke_IndexFunc_token_2 (t_0_0n : Option Bool) (t_0_0f : Bool) (t_0_0 : List (Ty ET.pass)) (t_1_0b_0_0 : Int) (t_7_0 : Int) (v : S.IndexFunc_token_2_V) : mk_IndexFunc_token_2 t_0_0n t_0_0f t_0_0 t_1_0b_0_0 t_7_0 v = ⟨envOf 19 [(0, V.v false [C.d (D.sl t_0_0n t_0_0f ET.pass t_0_0)]), (1, V.v false [C.d (D.fn 54 [] [[D.sc (Sc.int IntKind.u64 t_1_0b_0_0)]])]), (7, V.v false [C.d (D.sc (Sc.int IntKind.i64 t_7_0))]), (8, V.v false [C.d (D.sc (Sc.int IntKind.i64 v.t_8_0))])], heapOf 4 [], 0⟩ := by kernel_rfl
theorem lo1_IndexFunc_token_2 (e0 : V) (e1 : V) (e7 : V) (e8 : V)  e st2 (h : (T1_IndexFunc_token_2 e0 e1 e7 e8).eval = some (e, st2)) : Circles Try.prog cx_IndexFunc_token b_IndexFunc_token_2 ⟨envOf 19 [(0, e0), (1, e1), (7, e7), (8, e8)], heapOf 4 [], 0⟩ e st2 := by
  unfold T1_IndexFunc_token_2 at h
  split at h
  · have := loop_tree (mk := mk_IndexFunc_token_2 _ _ _ _ _) (ci_IndexFunc_token_2 _ _ _ _ _) _ _ e st2 h
    rw [mke_IndexFunc_token_2] at this
    exact this
  · cases h
theorem lok_IndexFunc_token_2 : LoopOk Try.prog cx_IndexFunc_token b_IndexFunc_token_2 T_IndexFunc_token_2 := by
  intro st e st2 h
  unfold T_IndexFunc_token_2 at h
  cases hk : okSt 19 4 0 [] st with
  | false => rw [hk] at h; cases h
  | true =>
    rw [hk] at h
    exact circles_keep (ks := [0, 1, 7, 8]) hk (lo1_IndexFunc_token_2 _ _ _ _ e st2 h)
structure S.IndexFunc_token_T where
  x0 : Int
  deriving Inhabited
noncomputable def S.IndexFunc_token_R (a0 : List (Ty .pass)) (c0 : Int) : DT S.IndexFunc_token_T :=
let y0 : Int := (↑a0.length : Int)
let y1 : S.IndexFunc_token_2_V := { t_8_0 := 0 : S.IndexFunc_token_2_V }
(.br (S.IndexFunc_token_2_j a0 c0 y0 y1 0)
(.leaf ⟨(S.IndexFunc_token_2_v a0 c0 y0 y1).t_8_0⟩)
(.br (S.IndexFunc_token_2_j a0 c0 y0 y1 1)
(.leaf ⟨-1⟩)
.fail))
noncomputable def S.IndexFunc_token (a0 : List (Ty .pass)) (c0 : Int) : Option S.IndexFunc_token_T := (S.IndexFunc_token_R a0 c0).run
noncomputable def S.IndexFunc_token_is (a0 : List (Ty .pass)) (c0 : Int) : Bool := (S.IndexFunc_token a0 c0).isSome
noncomputable def S.IndexFunc_token_o (a0 : List (Ty .pass)) (c0 : Int) : S.IndexFunc_token_T := (S.IndexFunc_token a0 c0).getD default
noncomputable def ret_IndexFunc_token (b : Bool) (r : S.IndexFunc_token_T) : Ret := ⟨b, none, [(false, [C.d (D.sc (Sc.int IntKind.i64 r.x0))])]⟩
noncomputable def g_IndexFunc_token : Con
  | [(false, [.sl a0n a0f .pass a0]), (false, [.fn 54 [] [[.sc (.int .u64 c0)]]])] => some (ret_IndexFunc_token (S.IndexFunc_token_is a0 c0) (S.IndexFunc_token_o a0 c0))
  | _ => none
theorem raw_IndexFunc_token (a0n : Option Bool) (a0f : Bool) (a0 : List (Ty .pass)) (c0 : Int) : evR2 cx_IndexFunc_token (hdI cx_IndexFunc_token (find [(2, T_IndexFunc_token_2)]) [] none 0) none Try.f53 53 none [(false, [.sl a0n a0f .pass a0]), (false, [.fn 54 [] [[.sc (.int .u64 c0)]]])] some = (S.IndexFunc_token_R a0 c0).go (ret_IndexFunc_token true) := by kernel_rfl
theorem bs_IndexFunc_token : loopsIn Try.f53 [] = [b_IndexFunc_token_2] := by kernel_rfl
theorem IndexFunc_token_ok : Stands Try.prog tyTab 53 g_IndexFunc_token := by
  refine stands3 (L := find [(2, T_IndexFunc_token_2)]) (n := 0) (hints := [(53, 2, { keep := [0, 1, 7, 8], acc := [] })]) (cx_ok rfl) rdy_IndexFunc_token ⟨by kernel_rfl, by kernel_rfl, by kernel_rfl⟩ bs_IndexFunc_token (consB (fun T h => by have e : T_IndexFunc_token_2 = T := Option.some.inj (show some T_IndexFunc_token_2 = some T from h); exact e ▸ lok_IndexFunc_token_2) nilB) (fun das r hG hr => ?_)
  unfold g_IndexFunc_token at hG
  split at hG
  · rename_i a0n a0f a0 c0
    injection hG with hG; subst hG
    exact ⟨none, true, win default ((raw_IndexFunc_token a0n a0f a0 c0).trans (DT.go_run _ _)) hr⟩
  · cases hG
noncomputable abbrev cx_IndexFunc_time : Cx := mkCx2 tyTab [(55, g_token_byTime_1)] [] [(53, 2, { keep := [0, 1, 7, 8], acc := [] })] []
theorem rdy_IndexFunc_time : Ready Try.prog tyTab [(55, g_token_byTime_1)] [] [] := ⟨consG2 token_byTime_1_ok (noneG2), noneI2, noneF2⟩
structure S.IndexFunc_time_2_V where
  t_8_0 : Int
noncomputable def S.IndexFunc_time_2_R (t_0_0 : List (Ty ET.pass)) (t_1_0b_0_0 : Int) (t_7_0 : Int) (v : S.IndexFunc_time_2_V) : DT (Option Nat × S.IndexFunc_time_2_V) :=
let y0 : Ty ET.pass := t_0_0.getD v.t_8_0.toNat (dflt ET.pass)
let y1 : Int := y0.conn
let y2 : Int := y0.off
(.br (xdec (v.t_8_0 < t_7_0))
(.br (xdec (0 ≤ v.t_8_0) && xdec (v.t_8_0 < (↑t_0_0.length : Int)))
(.br (S.token_byTime_1_is y1 y2 t_1_0b_0_0)
(.br ((S.token_byTime_1_o y1 y2 t_1_0b_0_0).x0)
(.leaf (some 0, v))
(.leaf (none, ⟨xwrap IntKind.i64 (v.t_8_0 + 1)⟩)))
.fail)
.fail)
(.leaf (some 1, v)))
noncomputable def S.IndexFunc_time_2_r (t_0_0 : List (Ty ET.pass)) (t_1_0b_0_0 : Int) (t_7_0 : Int) (v : S.IndexFunc_time_2_V) : Option (Option Nat × S.IndexFunc_time_2_V) := (S.IndexFunc_time_2_R t_0_0 t_1_0b_0_0 t_7_0 v).run
noncomputable def S.IndexFunc_time_2_j (t_0_0 : List (Ty ET.pass)) (t_1_0b_0_0 : Int) (t_7_0 : Int) (v : S.IndexFunc_time_2_V) (j : Nat) : Bool := Lp_j (S.IndexFunc_time_2_r t_0_0 t_1_0b_0_0 t_7_0) v j
noncomputable def S.IndexFunc_time_2_v (t_0_0 : List (Ty ET.pass)) (t_1_0b_0_0 : Int) (t_7_0 : Int) (v : S.IndexFunc_time_2_V) : S.IndexFunc_time_2_V := Lp_v (S.IndexFunc_time_2_r t_0_0 t_1_0b_0_0 t_7_0) v
noncomputable def mk_IndexFunc_time_2 (t_0_0n : Option Bool) (t_0_0f : Bool) (t_0_0 : List (Ty ET.pass)) (t_1_0b_0_0 : Int) (t_7_0 : Int) (v : S.IndexFunc_time_2_V) : St := ⟨[V.v false [C.d (D.sl t_0_0n t_0_0f ET.pass t_0_0)], V.v false [C.d (D.fn 55 [] [[D.sc (Sc.int IntKind.i64 t_1_0b_0_0)]])], V.any, V.any, V.any, V.any, V.any,
  V.v false [C.d (D.sc (Sc.int IntKind.i64 t_7_0))], V.v false [C.d (D.sc (Sc.int IntKind.i64 v.t_8_0))], V.any, V.any, V.any, V.any, V.any, V.any, V.any, V.any, V.any, V.any], [none, none, none, none], 0⟩
noncomputable def ex_IndexFunc_time_2 (t_0_0n : Option Bool) (t_0_0f : Bool) (t_0_0 : List (Ty ET.pass)) (t_1_0b_0_0 : Int) (t_7_0 : Int) (j : Nat) (v : S.IndexFunc_time_2_V) : Ex × St := match j with
  | 0 => (Ex.ret, ⟨[V.any, V.any, V.any, V.any, V.v false [C.d (D.sc (Sc.int IntKind.i64 v.t_8_0))], V.any, V.any, V.any, V.any, V.any, V.any, V.any, V.any, V.any, V.any, V.any, V.any, V.any, V.any], [none, none, none, none, none, none, none, none, none, none, none, none, none, none, none], 0⟩)
  | 1 => (Ex.exit 0, ⟨[V.any, V.any, V.any, V.any, V.any, V.any, V.any, V.any, V.any, V.any, V.any, V.any, V.any, V.any, V.any, V.any, V.any, V.any, V.any], [none, none, none, none, none], 0⟩)
  | _ => (.ret, ⟨[], [], 0⟩)
noncomputable def T1_IndexFunc_time_2 : V → V → V → V → Tree
  | V.v false [C.d (D.sl t_0_0n t_0_0f ET.pass t_0_0)], V.v false [C.d (D.fn 55 [] [[D.sc (Sc.int IntKind.i64 t_1_0b_0_0)]])], V.v false [C.d (D.sc (Sc.int IntKind.i64 t_7_0))], V.v false [C.d (D.sc (Sc.int IntKind.i64 t_8_0))] => exT (fun j => ex_IndexFunc_time_2 t_0_0n t_0_0f t_0_0 t_1_0b_0_0 t_7_0 j (S.IndexFunc_time_2_v t_0_0 t_1_0b_0_0 t_7_0 ⟨t_8_0⟩)) (S.IndexFunc_time_2_j t_0_0 t_1_0b_0_0 t_7_0 ⟨t_8_0⟩) [0, 1]
  | _, _, _, _ => .bad
noncomputable def T_IndexFunc_time_2 (st : St) : Tree := bif okSt 19 4 0 [] st then T1_IndexFunc_time_2 (st.env.getD 0 .any) (st.env.getD 1 .any) (st.env.getD 7 .any) (st.env.getD 8 .any) else .bad
noncomputable def b_IndexFunc_time_2 : Code := loopBy Try.f53 2
theorem rnd_IndexFunc_time_2 (t_0_0n : Option Bool) (t_0_0f : Bool) (t_0_0 : List (Ty ET.pass)) (t_1_0b_0_0 : Int) (t_7_0 : Int) (v : S.IndexFunc_time_2_V) : round2 cx_IndexFunc_time (hdI cx_IndexFunc_time (find []) [] none 0) 53 b_IndexFunc_time_2 [] 4 [4] (mk_IndexFunc_time_2 t_0_0n t_0_0f t_0_0 t_1_0b_0_0 t_7_0 v) = (S.IndexFunc_time_2_R t_0_0 t_1_0b_0_0 t_7_0 v).go (roundOut (mk_IndexFunc_time_2 t_0_0n t_0_0f t_0_0 t_1_0b_0_0 t_7_0) (ex_IndexFunc_time_2 t_0_0n t_0_0f t_0_0 t_1_0b_0_0 t_7_0)) := by kernel_rfl
theorem bs_IndexFunc_time_2 : loopsOf b_IndexFunc_time_2 ++ loopsInl [] = [] := by kernel_rfl
theorem ci_IndexFunc_time_2 (t_0_0n : Option Bool) (t_0_0f : Bool) (t_0_0 : List (Ty ET.pass)) (t_1_0b_0_0 : Int) (t_7_0 : Int) : ∀ v j v2, Lp (S.IndexFunc_time_2_r t_0_0 t_1_0b_0_0 t_7_0) v = some (j, v2) → Circles Try.prog cx_IndexFunc_time b_IndexFunc_time_2 (mk_IndexFunc_time_2 t_0_0n t_0_0f t_0_0 t_1_0b_0_0 t_7_0 v) (ex_IndexFunc_time_2 t_0_0n t_0_0f t_0_0 t_1_0b_0_0 t_7_0 j v2).1 (ex_IndexFunc_time_2 t_0_0n t_0_0f t_0_0 t_1_0b_0_0 t_7_0 j v2).2 :=
  loop_ok2 (L := find []) (n := 0) (hints := [(53, 2, { keep := [0, 1, 7, 8], acc := [] })]) (cx_ok rfl) rdy_IndexFunc_time bs_IndexFunc_time_2 nilB (fun v => (rnd_IndexFunc_time_2 t_0_0n t_0_0f t_0_0 t_1_0b_0_0 t_7_0 v).trans (DT.go_run _ _)) (by intro j v; unfold ex_IndexFunc_time_2; split <;> rfl)
theorem mke_IndexFunc_time_2 (t_0_0n : Option Bool) (t_0_0f : Bool) (t_0_0 : List (Ty ET.pass)) (t_1_0b_0_0 : Int) (t_7_0 : Int) (v : S.IndexFunc_time_2_V) : mk_IndexFunc_time_2 t_0_0n t_0_0f t_0_0 t_1_0b_0_0 t_7_0 v = ⟨envOf 19 [(0, V.v false [C.d (D.sl t_0_0n t_0_0f ET.pass t_0_0)]), (1, V.v false [C.d (D.fn 55 [] [[D.sc (Sc.int IntKind.i64 t_1_0b_0_0)]])]), (7, V.v false [C.d (D.sc (Sc.int IntKind.i64 t_7_0))]), (8, V.v false [C.d (D.sc (Sc.int IntKind.i64 v.t_8_0))])], heapOf 4 [], 0⟩ := by kernel_rfl
theorem lo1_IndexFunc_time_2 (e0 : V) (e1 : V) (e7 : V) (e8 : V)  e st2 (h : (T1_IndexFunc_time_2 e0 e1 e7 e8).eval = some (e, st2)) : Circles Try.prog cx_IndexFunc_time b_IndexFunc_time_2 ⟨envOf 19 [(0, e0), (1, e1), (7, e7), (8, e8)], heapOf 4 [], 0⟩ e st2 := by
  unfold T1_IndexFunc_time_2 at h
  split at h
  · have := loop_tree (mk := mk_IndexFunc_time_2 _ _ _ _ _) (ci_IndexFunc_time_2 _ _ _ _ _) _ _ e st2 h
    rw [mke_IndexFunc_time_2] at this
    exact this
  · cases h
theorem lok_IndexFunc_time_2 : LoopOk Try.prog cx_IndexFunc_time b_IndexFunc_time_2 T_IndexFunc_time_2 := by
  intro st e st2 h
  unfold T_IndexFunc_time_2 at h
  cases hk : okSt 19 4 0 [] st with
  | false => rw [hk] at h; cases h
  | true =>
    rw [hk] at h
    exact circles_keep (ks := [0, 1, 7, 8]) hk (lo1_IndexFunc_time_2 _ _ _ _ e st2 h)
structure S.IndexFunc_time_T where
  x0 : Int
  deriving Inhabited
noncomputable def S.IndexFunc_time_R (a0 : List (Ty .pass)) (c0 : Int) : DT S.IndexFunc_time_T :=
let y0 : Int := (↑a0.length : Int)
let y1 : S.IndexFunc_time_2_V := { t_8_0 := 0 : S.IndexFunc_time_2_V }
(.br (S.IndexFunc_time_2_j a0 c0 y0 y1 0)
(.leaf ⟨(S.IndexFunc_time_2_v a0 c0 y0 y1).t_8_0⟩)
(.br (S.IndexFunc_time_2_j a0 c0 y0 y1 1)
(.leaf ⟨-1⟩)
.fail))
noncomputable def S.IndexFunc_time (a0 : List (Ty .pass)) (c0 : Int) : Option S.IndexFunc_time_T := (S.IndexFunc_time_R a0 c0).run
noncomputable def S.IndexFunc_time_is (a0 : List (Ty .pass)) (c0 : Int) : Bool := (S.IndexFunc_time a0 c0).isSome
noncomputable def S.IndexFunc_time_o (a0 : List (Ty .pass)) (c0 : Int) : S.IndexFunc_time_T := (S.IndexFunc_time a0 c0).getD default
noncomputable def ret_IndexFunc_time (b : Bool) (r : S.IndexFunc_time_T) : Ret := ⟨b, none, [(false, [C.d (D.sc (Sc.int IntKind.i64 r.x0))])]⟩
noncomputable def g_IndexFunc_time : Con
  | [(false, [.sl a0n a0f .pass a0]), (false, [.fn 55 [] [[.sc (.int .i64 c0)]]])] => some (ret_IndexFunc_time (S.IndexFunc_time_is a0 c0) (S.IndexFunc_time_o a0 c0))
  | _ => none
theorem raw_IndexFunc_time (a0n : Option Bool) (a0f : Bool) (a0 : List (Ty .pass)) (c0 : Int) : evR2 cx_IndexFunc_time (hdI cx_IndexFunc_time (find [(2, T_IndexFunc_time_2)]) [] none 0) none Try.f53 53 none [(false, [.sl a0n a0f .pass a0]), (false, [.fn 55 [] [[.sc (.int .i64 c0)]]])] some = (S.IndexFunc_time_R a0 c0).go (ret_IndexFunc_time true) := by kernel_rfl
theorem bs_IndexFunc_time : loopsIn Try.f53 [] = [b_IndexFunc_time_2] := by kernel_rfl
theorem IndexFunc_time_ok : Stands Try.prog tyTab 53 g_IndexFunc_time := by
  refine stands3 (L := find [(2, T_IndexFunc_time_2)]) (n := 0) (hints := [(53, 2, { keep := [0, 1, 7, 8], acc := [] })]) (cx_ok rfl) rdy_IndexFunc_time ⟨by kernel_rfl, by kernel_rfl, by kernel_rfl⟩ bs_IndexFunc_time (consB (fun T h => by have e : T_IndexFunc_time_2 = T := Option.some.inj (show some T_IndexFunc_time_2 = some T from h); exact e ▸ lok_IndexFunc_time_2) nilB) (fun das r hG hr => ?_)
  unfold g_IndexFunc_time at hG
  split at hG
  · rename_i a0n a0f a0 c0
    injection hG with hG; subst hG
    exact ⟨none, true, win default ((raw_IndexFunc_time a0n a0f a0 c0).trans (DT.go_run _ _)) hr⟩
  · cases hG
noncomputable abbrev cx_IndexFunc_sess : Cx := mkCx2 tyTab [(57, g_token_bySess_1)] [] [(53, 2, { keep := [0, 1, 7, 8], acc := [] })] []
theorem rdy_IndexFunc_sess : Ready Try.prog tyTab [(57, g_token_bySess_1)] [] [] := ⟨consG2 token_bySess_1_ok (noneG2), noneI2, noneF2⟩
structure S.IndexFunc_sess_2_V where
  t_8_0 : Int
noncomputable def S.IndexFunc_sess_2_R (t_0_0 : List (Ty ET.pass)) (t_1_0b_0_0 : Int) (t_7_0 : Int) (v : S.IndexFunc_sess_2_V) : DT (Option Nat × S.IndexFunc_sess_2_V) :=
(.br (xdec (v.t_8_0 < t_7_0))
(.br (xdec (0 ≤ v.t_8_0) && xdec (v.t_8_0 < (↑t_0_0.length : Int)))
(.br ((S.token_bySess_1_o (t_0_0.getD v.t_8_0.toNat (dflt ET.pass)).sess t_1_0b_0_0).x0)
(.leaf (some 0, v))
(.leaf (none, ⟨xwrap IntKind.i64 (v.t_8_0 + 1)⟩)))
.fail)
(.leaf (some 1, v)))
noncomputable def S.IndexFunc_sess_2_r (t_0_0 : List (Ty ET.pass)) (t_1_0b_0_0 : Int) (t_7_0 : Int) (v : S.IndexFunc_sess_2_V) : Option (Option Nat × S.IndexFunc_sess_2_V) := (S.IndexFunc_sess_2_R t_0_0 t_1_0b_0_0 t_7_0 v).run
noncomputable def S.IndexFunc_sess_2_j (t_0_0 : List (Ty ET.pass)) (t_1_0b_0_0 : Int) (t_7_0 : Int) (v : S.IndexFunc_sess_2_V) (j : Nat) : Bool := Lp_j (S.IndexFunc_sess_2_r t_0_0 t_1_0b_0_0 t_7_0) v j
noncomputable def S.IndexFunc_sess_2_v (t_0_0 : List (Ty ET.pass)) (t_1_0b_0_0 : Int) (t_7_0 : Int) (v : S.IndexFunc_sess_2_V) : S.IndexFunc_sess_2_V := Lp_v (S.IndexFunc_sess_2_r t_0_0 t_1_0b_0_0 t_7_0) v
noncomputable def mk_IndexFunc_sess_2 (t_0_0n : Option Bool) (t_0_0f : Bool) (t_0_0 : List (Ty ET.pass)) (t_1_0b_0_0 : Int) (t_7_0 : Int) (v : S.IndexFunc_sess_2_V) : St := ⟨[V.v false [C.d (D.sl t_0_0n t_0_0f ET.pass t_0_0)], V.v false [C.d (D.fn 57 [] [[D.sc (Sc.int IntKind.i64 t_1_0b_0_0)]])], V.any, V.any, V.any, V.any, V.any,
  V.v false [C.d (D.sc (Sc.int IntKind.i64 t_7_0))], V.v false [C.d (D.sc (Sc.int IntKind.i64 v.t_8_0))], V.any, V.any, V.any, V.any, V.any, V.any, V.any, V.any, V.any, V.any], [none, none, none, none], 0⟩
noncomputable def ex_IndexFunc_sess_2 (t_0_0n : Option Bool) (t_0_0f : Bool) (t_0_0 : List (Ty ET.pass)) (t_1_0b_0_0 : Int) (t_7_0 : Int) (j : Nat) (v : S.IndexFunc_sess_2_V) : Ex × St := match j with
  | 0 => (Ex.ret, ⟨[V.any, V.any, V.any, V.any, V.v false [C.d (D.sc (Sc.int IntKind.i64 v.t_8_0))], V.any, V.any, V.any, V.any, V.any, V.any, V.any, V.any, V.any, V.any, V.any, V.any, V.any, V.any], [none, none, none, none, none, none, none, none, none, none, none, none, none, none, none], 0⟩)
  | 1 => (Ex.exit 0, ⟨[V.any, V.any, V.any, V.any, V.any, V.any, V.any, V.any, V.any, V.any, V.any, V.any, V.any, V.any, V.any, V.any, V.any, V.any, V.any], [none, none, none, none, none], 0⟩)
  | _ => (.ret, ⟨[], [], 0⟩)
noncomputable def T1_IndexFunc_sess_2 : V → V → V → V → Tree
  | V.v false [C.d (D.sl t_0_0n t_0_0f ET.pass t_0_0)], V.v false [C.d (D.fn 57 [] [[D.sc (Sc.int IntKind.i64 t_1_0b_0_0)]])], V.v false [C.d (D.sc (Sc.int IntKind.i64 t_7_0))], V.v false [C.d (D.sc (Sc.int IntKind.i64 t_8_0))] => exT (fun j => ex_IndexFunc_sess_2 t_0_0n t_0_0f t_0_0 t_1_0b_0_0 t_7_0 j (S.IndexFunc_sess_2_v t_0_0 t_1_0b_0_0 t_7_0 ⟨t_8_0⟩)) (S.IndexFunc_sess_2_j t_0_0 t_1_0b_0_0 t_7_0 ⟨t_8_0⟩) [0, 1]
  | _, _, _, _ => .bad
noncomputable def T_IndexFunc_sess_2 (st : St) : Tree := bif okSt 19 4 0 [] st then T1_IndexFunc_sess_2 (st.env.getD 0 .any) (st.env.getD 1 .any) (st.env.getD 7 .any) (st.env.getD 8 .any) else .bad
noncomputable def b_IndexFunc_sess_2 : Code := loopBy Try.f53 2
theorem rnd_IndexFunc_sess_2 (t_0_0n : Option Bool) (t_0_0f : Bool) (t_0_0 : List (Ty ET.pass)) (t_1_0b_0_0 : Int) (t_7_0 : Int) (v : S.IndexFunc_sess_2_V) : round2 cx_IndexFunc_sess (hdI cx_IndexFunc_sess (find []) [] none 0) 53 b_IndexFunc_sess_2 [] 4 [4] (mk_IndexFunc_sess_2 t_0_0n t_0_0f t_0_0 t_1_0b_0_0 t_7_0 v) = (S.IndexFunc_sess_2_R t_0_0 t_1_0b_0_0 t_7_0 v).go (roundOut (mk_IndexFunc_sess_2 t_0_0n t_0_0f t_0_0 t_1_0b_0_0 t_7_0) (ex_IndexFunc_sess_2 t_0_0n t_0_0f t_0_0 t_1_0b_0_0 t_7_0)) := by kernel_rfl
theorem bs_IndexFunc_sess_2 : loopsOf b_IndexFunc_sess_2 ++ loopsInl [] = [] := by kernel_rfl
theorem ci_IndexFunc_sess_2 (t_0_0n : Option Bool) (t_0_0f : Bool) (t_0_0 : List (Ty ET.pass)) (t_1_0b_0_0 : Int) (t_7_0 : Int) : ∀ v j v2, Lp (S.IndexFunc_sess_2_r t_0_0 t_1_0b_0_0 t_7_0) v = some (j, v2) → Circles Try.prog cx_IndexFunc_sess b_IndexFunc_sess_2 (mk_IndexFunc_sess_2 t_0_0n t_0_0f t_0_0 t_1_0b_0_0 t_7_0 v) (ex_IndexFunc_sess_2 t_0_0n t_0_0f t_0_0 t_1_0b_0_0 t_7_0 j v2).1 (ex_IndexFunc_sess_2 t_0_0n t_0_0f t_0_0 t_1_0b_0_0 t_7_0 j v2).2 :=
  loop_ok2 (L := find []) (n := 0) (hints := [(53, 2, { keep := [0, 1, 7, 8], acc := [] })]) (cx_ok rfl) rdy_IndexFunc_sess bs_IndexFunc_sess_2 nilB (fun v => (rnd_IndexFunc_sess_2 t_0_0n t_0_0f t_0_0 t_1_0b_0_0 t_7_0 v).trans (DT.go_run _ _)) (by intro j v; unfold ex_IndexFunc_sess_2; split <;> rfl)
theorem mke_IndexFunc_sess_2 (t_0_0n : Option Bool) (t_0_0f : Bool) (t_0_0 : List (Ty ET.pass)) (t_1_0b_0_0 : Int) (t_7_0 : Int) (v : S.IndexFunc_sess_2_V) : mk_IndexFunc_sess_2 t_0_0n t_0_0f t_0_0 t_1_0b_0_0 t_7_0 v = ⟨envOf 19 [(0, V.v false [C.d (D.sl t_0_0n t_0_0f ET.pass t_0_0)]), (1, V.v false [C.d (D.fn 57 [] [[D.sc (Sc.int IntKind.i64 t_1_0b_0_0)]])]), (7, V.v false [C.d (D.sc (Sc.int IntKind.i64 t_7_0))]), (8, V.v false [C.d (D.sc (Sc.int IntKind.i64 v.t_8_0))])], heapOf 4 [], 0⟩ := by kernel_rfl
theorem lo1_IndexFunc_sess_2 (e0 : V) (e1 : V) (e7 : V) (e8 : V)  e st2 (h : (T1_IndexFunc_sess_2 e0 e1 e7 e8).eval = some (e, st2)) : Circles Try.prog cx_IndexFunc_sess b_IndexFunc_sess_2 ⟨envOf 19 [(0, e0), (1, e1), (7, e7), (8, e8)], heapOf 4 [], 0⟩ e st2 := by
  unfold T1_IndexFunc_sess_2 at h
  split at h
  · have := loop_tree (mk := mk_IndexFunc_sess_2 _ _ _ _ _) (ci_IndexFunc_sess_2 _ _ _ _ _) _ _ e st2 h
    rw [mke_IndexFunc_sess_2] at this
    exact this
  · cases h
theorem lok_IndexFunc_sess_2 : LoopOk Try.prog cx_IndexFunc_sess b_IndexFunc_sess_2 T_IndexFunc_sess_2 := by
  intro st e st2 h
  unfold T_IndexFunc_sess_2 at h
  cases hk : okSt 19 4 0 [] st with
  | false => rw [hk] at h; cases h
  | true =>
    rw [hk] at h
    exact circles_keep (ks := [0, 1, 7, 8]) hk (lo1_IndexFunc_sess_2 _ _ _ _ e st2 h)
structure S.IndexFunc_sess_T where
  x0 : Int
  deriving Inhabited
noncomputable def S.IndexFunc_sess_R (a0 : List (Ty .pass)) (c0 : Int) : DT S.IndexFunc_sess_T :=
let y0 : Int := (↑a0.length : Int)
let y1 : S.IndexFunc_sess_2_V := { t_8_0 := 0 : S.IndexFunc_sess_2_V }
(.br (S.IndexFunc_sess_2_j a0 c0 y0 y1 0)
(.leaf ⟨(S.IndexFunc_sess_2_v a0 c0 y0 y1).t_8_0⟩)
(.br (S.IndexFunc_sess_2_j a0 c0 y0 y1 1)
(.leaf ⟨-1⟩)
.fail))
noncomputable def S.IndexFunc_sess (a0 : List (Ty .pass)) (c0 : Int) : Option S.IndexFunc_sess_T := (S.IndexFunc_sess_R a0 c0).run
noncomputable def S.IndexFunc_sess_is (a0 : List (Ty .pass)) (c0 : Int) : Bool := (S.IndexFunc_sess a0 c0).isSome
noncomputable def S.IndexFunc_sess_o (a0 : List (Ty .pass)) (c0 : Int) : S.IndexFunc_sess_T := (S.IndexFunc_sess a0 c0).getD default
noncomputable def ret_IndexFunc_sess (b : Bool) (r : S.IndexFunc_sess_T) : Ret := ⟨b, none, [(false, [C.d (D.sc (Sc.int IntKind.i64 r.x0))])]⟩
noncomputable def g_IndexFunc_sess : Con
  | [(false, [.sl a0n a0f .pass a0]), (false, [.fn 57 [] [[.sc (.int .i64 c0)]]])] => some (ret_IndexFunc_sess (S.IndexFunc_sess_is a0 c0) (S.IndexFunc_sess_o a0 c0))
  | _ => none
theorem raw_IndexFunc_sess (a0n : Option Bool) (a0f : Bool) (a0 : List (Ty .pass)) (c0 : Int) : evR2 cx_IndexFunc_sess (hdI cx_IndexFunc_sess (find [(2, T_IndexFunc_sess_2)]) [] none 0) none Try.f53 53 none [(false, [.sl a0n a0f .pass a0]), (false, [.fn 57 [] [[.sc (.int .i64 c0)]]])] some = (S.IndexFunc_sess_R a0 c0).go (ret_IndexFunc_sess true) := by kernel_rfl
theorem bs_IndexFunc_sess : loopsIn Try.f53 [] = [b_IndexFunc_sess_2] := by kernel_rfl
theorem IndexFunc_sess_ok : Stands Try.prog tyTab 53 g_IndexFunc_sess := by
  refine stands3 (L := find [(2, T_IndexFunc_sess_2)]) (n := 0) (hints := [(53, 2, { keep := [0, 1, 7, 8], acc := [] })]) (cx_ok rfl) rdy_IndexFunc_sess ⟨by kernel_rfl, by kernel_rfl, by kernel_rfl⟩ bs_IndexFunc_sess (consB (fun T h => by have e : T_IndexFunc_sess_2 = T := Option.some.inj (show some T_IndexFunc_sess_2 = some T from h); exact e ▸ lok_IndexFunc_sess_2) nilB) (fun das r hG hr => ?_)
  unfold g_IndexFunc_sess at hG
  split at hG
  · rename_i a0n a0f a0 c0
    injection hG with hG; subst hG
    exact ⟨none, true, win default ((raw_IndexFunc_sess a0n a0f a0 c0).trans (DT.go_run _ _)) hr⟩
  · cases hG
noncomputable def g_IndexFunc : Con := orC g_IndexFunc_conn (orC g_IndexFunc_token (orC g_IndexFunc_time (g_IndexFunc_sess)))
theorem IndexFunc_ok : Stands Try.prog tyTab 53 g_IndexFunc := orC_ok IndexFunc_conn_ok (orC_ok IndexFunc_token_ok (orC_ok IndexFunc_time_ok (IndexFunc_sess_ok)))
noncomputable abbrev cx_at_conn : Cx := mkCx2 tyTab [(53, g_IndexFunc)] [] [] []
theorem rdy_at_conn : Ready Try.prog tyTab [(53, g_IndexFunc)] [] [] := ⟨consG2 IndexFunc_ok (noneG2), noneI2, noneF2⟩
structure S.at_conn_T where
  x0 : Int
  deriving Inhabited
noncomputable def S.at_conn_R (a0 : List (Ty .pass)) (c0 : Int) : DT S.at_conn_T :=
(.br (S.IndexFunc_conn_is a0 c0)
(.leaf ⟨(S.IndexFunc_conn_o a0 c0).x0⟩)
.fail)
noncomputable def S.at_conn (a0 : List (Ty .pass)) (c0 : Int) : Option S.at_conn_T := (S.at_conn_R a0 c0).run
noncomputable def S.at_conn_is (a0 : List (Ty .pass)) (c0 : Int) : Bool := (S.at_conn a0 c0).isSome
noncomputable def S.at_conn_o (a0 : List (Ty .pass)) (c0 : Int) : S.at_conn_T := (S.at_conn a0 c0).getD default
noncomputable def ret_at_conn (b : Bool) (r : S.at_conn_T) : Ret := ⟨b, none, [(false, [C.d (D.sc (Sc.int IntKind.i64 r.x0))])]⟩
noncomputable def g_at_conn : Con
  | [(true, [.fn 52 [] [[.sc (.int .i64 c0)]]]), (false, [.sl a0n a0f .pass a0])] => some (ret_at_conn (S.at_conn_is a0 c0) (S.at_conn_o a0 c0))
  | _ => none
theorem raw_at_conn (a0n : Option Bool) (a0f : Bool) (a0 : List (Ty .pass)) (c0 : Int) : evR2 cx_at_conn (hdI cx_at_conn (find []) [] none 0) none Try.f46 46 none [(true, [.fn 52 [] [[.sc (.int .i64 c0)]]]), (false, [.sl a0n a0f .pass a0])] some = (S.at_conn_R a0 c0).go (ret_at_conn true) := by kernel_rfl
theorem bs_at_conn : loopsIn Try.f46 [] = [] := by kernel_rfl
theorem at_conn_ok : Stands Try.prog tyTab 46 g_at_conn := by
  refine stands3 (L := find []) (n := 0) (hints := []) (cx_ok rfl) rdy_at_conn ⟨by kernel_rfl, by kernel_rfl, by kernel_rfl⟩ bs_at_conn nilB (fun das r hG hr => ?_)
  unfold g_at_conn at hG
  split at hG
  · rename_i c0 a0n a0f a0
    injection hG with hG; subst hG
    exact ⟨none, true, win default ((raw_at_conn a0n a0f a0 c0).trans (DT.go_run _ _)) hr⟩
  · cases hG
noncomputable abbrev cx_at_token : Cx := mkCx2 tyTab [(53, g_IndexFunc)] [] [] []
theorem rdy_at_token : Ready Try.prog tyTab [(53, g_IndexFunc)] [] [] := ⟨consG2 IndexFunc_ok (noneG2), noneI2, noneF2⟩
structure S.at_token_T where
  x0 : Int
  deriving Inhabited
noncomputable def S.at_token_R (a0 : List (Ty .pass)) (c0 : Int) : DT S.at_token_T :=
(.br (S.IndexFunc_token_is a0 c0)
(.leaf ⟨(S.IndexFunc_token_o a0 c0).x0⟩)
.fail)
noncomputable def S.at_token (a0 : List (Ty .pass)) (c0 : Int) : Option S.at_token_T := (S.at_token_R a0 c0).run
noncomputable def S.at_token_is (a0 : List (Ty .pass)) (c0 : Int) : Bool := (S.at_token a0 c0).isSome
noncomputable def S.at_token_o (a0 : List (Ty .pass)) (c0 : Int) : S.at_token_T := (S.at_token a0 c0).getD default
noncomputable def ret_at_token (b : Bool) (r : S.at_token_T) : Ret := ⟨b, none, [(false, [C.d (D.sc (Sc.int IntKind.i64 r.x0))])]⟩
noncomputable def g_at_token : Con
  | [(true, [.fn 54 [] [[.sc (.int .u64 c0)]]]), (false, [.sl a0n a0f .pass a0])] => some (ret_at_token (S.at_token_is a0 c0) (S.at_token_o a0 c0))
  | _ => none
theorem raw_at_token (a0n : Option Bool) (a0f : Bool) (a0 : List (Ty .pass)) (c0 : Int) : evR2 cx_at_token (hdI cx_at_token (find []) [] none 0) none Try.f46 46 none [(true, [.fn 54 [] [[.sc (.int .u64 c0)]]]), (false, [.sl a0n a0f .pass a0])] some = (S.at_token_R a0 c0).go (ret_at_token true) := by kernel_rfl
theorem bs_at_token : loopsIn Try.f46 [] = [] := by kernel_rfl
theorem at_token_ok : Stands Try.prog tyTab 46 g_at_token := by
  refine stands3 (L := find []) (n := 0) (hints := []) (cx_ok rfl) rdy_at_token ⟨by kernel_rfl, by kernel_rfl, by kernel_rfl⟩ bs_at_token nilB (fun das r hG hr => ?_)
  unfold g_at_token at hG
  split at hG
  · rename_i c0 a0n a0f a0
    injection hG with hG; subst hG
    exact ⟨none, true, win default ((raw_at_token a0n a0f a0 c0).trans (DT.go_run _ _)) hr⟩
  · cases hG
noncomputable abbrev cx_at_sess : Cx := mkCx2 tyTab [(53, g_IndexFunc)] [] [] []
theorem rdy_at_sess : Ready Try.prog tyTab [(53, g_IndexFunc)] [] [] := ⟨consG2 IndexFunc_ok (noneG2), noneI2, noneF2⟩
structure S.at_sess_T where
  x0 : Int
  deriving Inhabited
noncomputable def S.at_sess_R (a0 : List (Ty .pass)) (c0 : Int) : DT S.at_sess_T :=
(.br (S.IndexFunc_sess_is a0 c0)
(.leaf ⟨(S.IndexFunc_sess_o a0 c0).x0⟩)
.fail)
noncomputable def S.at_sess (a0 : List (Ty .pass)) (c0 : Int) : Option S.at_sess_T := (S.at_sess_R a0 c0).run
noncomputable def S.at_sess_is (a0 : List (Ty .pass)) (c0 : Int) : Bool := (S.at_sess a0 c0).isSome
noncomputable def S.at_sess_o (a0 : List (Ty .pass)) (c0 : Int) : S.at_sess_T := (S.at_sess a0 c0).getD default
noncomputable def ret_at_sess (b : Bool) (r : S.at_sess_T) : Ret := ⟨b, none, [(false, [C.d (D.sc (Sc.int IntKind.i64 r.x0))])]⟩
noncomputable def g_at_sess : Con
  | [(true, [.fn 57 [] [[.sc (.int .i64 c0)]]]), (false, [.sl a0n a0f .pass a0])] => some (ret_at_sess (S.at_sess_is a0 c0) (S.at_sess_o a0 c0))
  | _ => none
theorem raw_at_sess (a0n : Option Bool) (a0f : Bool) (a0 : List (Ty .pass)) (c0 : Int) : evR2 cx_at_sess (hdI cx_at_sess (find []) [] none 0) none Try.f46 46 none [(true, [.fn 57 [] [[.sc (.int .i64 c0)]]]), (false, [.sl a0n a0f .pass a0])] some = (S.at_sess_R a0 c0).go (ret_at_sess true) := by kernel_rfl
theorem bs_at_sess : loopsIn Try.f46 [] = [] := by kernel_rfl
theorem at_sess_ok : Stands Try.prog tyTab 46 g_at_sess := by
  refine stands3 (L := find []) (n := 0) (hints := []) (cx_ok rfl) rdy_at_sess ⟨by kernel_rfl, by kernel_rfl, by kernel_rfl⟩ bs_at_sess nilB (fun das r hG hr => ?_)
  unfold g_at_sess at hG
  split at hG
  · rename_i c0 a0n a0f a0
    injection hG with hG; subst hG
    exact ⟨none, true, win default ((raw_at_sess a0n a0f a0 c0).trans (DT.go_run _ _)) hr⟩
  · cases hG
noncomputable def g_look_at : Con := orC g_at_conn (orC g_at_token (g_at_sess))
theorem look_at_ok : Stands Try.prog tyTab 46 g_look_at := orC_ok at_conn_ok (orC_ok at_token_ok (at_sess_ok))
noncomputable abbrev cx_without_time : Cx := mkCx2 tyTab [(49, g_Clone_pass), (53, g_IndexFunc), (55, g_token_byTime_1)] [] [(56, 5, { keep := [0, 1, 5, 6], acc := [] })] [(56, Try.f56)]
theorem rdy_without_time : Ready Try.prog tyTab [(49, g_Clone_pass), (53, g_IndexFunc), (55, g_token_byTime_1)] [] [(56, Try.f56)] := ⟨consG2 Clone_pass_ok (consG2 IndexFunc_ok (consG2 token_byTime_1_ok (noneG2))), noneI2, consF2 ⟨by kernel_rfl, by kernel_rfl, by kernel_rfl⟩ (noneF2)⟩
structure S.without_time_5_V where
  t_5_0 : Int
  t_6_0 : Int
  h_3 : List (Ty ET.pass)
noncomputable def S.without_time_5_R (t_0_0l : Nat) (t_1_0b_0_0 : Int) (v : S.without_time_5_V) : DT (Option Nat × S.without_time_5_V) :=
let y0 : Int := (↑t_0_0l : Int)
let y1 : Bool := xdec (v.t_6_0 < y0)
let y2 : Nat := 0 + v.t_6_0.toNat
let y3 : Nat := v.h_3.length
let y4 : Ty ET.pass := v.h_3.getD y2 (dflt ET.pass)
let y5 : Int := y4.conn
let y6 : Int := y4.off
let y7 : Nat := 0 + v.t_5_0.toNat
let y8 : Int := xwrap IntKind.i64 (v.t_6_0 + 1)
(.br (y1)
(.br (xdec (0 ≤ v.t_6_0) && y1)
(.br (xdec (y2 < y3))
(.br (S.token_byTime_1_is y5 y6 t_1_0b_0_0)
(.br (xnot (S.token_byTime_1_o y5 y6 t_1_0b_0_0).x0)
(.br (xdec (0 ≤ v.t_5_0) && xdec (v.t_5_0 < y0))
(.br (xdec (y7 < y3))
(.leaf (none, ⟨xwrap IntKind.i64 (v.t_5_0 + 1), y8, v.h_3.set y7 { token := y4.token, sess := y4.sess, conn := y5, off := y6 : Pass }⟩))
.fail)
.fail)
(.leaf (none, ⟨v.t_5_0, y8, v.h_3⟩)))
.fail)
.fail)
.fail)
(.leaf (some 0, v)))
noncomputable def S.without_time_5_r (t_0_0l : Nat) (t_1_0b_0_0 : Int) (v : S.without_time_5_V) : Option (Option Nat × S.without_time_5_V) := (S.without_time_5_R t_0_0l t_1_0b_0_0 v).run
noncomputable def S.without_time_5_j (t_0_0l : Nat) (t_1_0b_0_0 : Int) (v : S.without_time_5_V) (j : Nat) : Bool := Lp_j (S.without_time_5_r t_0_0l t_1_0b_0_0) v j
noncomputable def S.without_time_5_v (t_0_0l : Nat) (t_1_0b_0_0 : Int) (v : S.without_time_5_V) : S.without_time_5_V := Lp_v (S.without_time_5_r t_0_0l t_1_0b_0_0) v
noncomputable def mk_without_time_5 (t_0_0l : Nat) (t_1_0b_0_0 : Int) (h_0_0b_0_0 : Int) (v : S.without_time_5_V) : St := ⟨[V.v false [C.own 3 ET.pass false 0 t_0_0l], V.v false [C.d (D.fn 55 [] [[D.sc (Sc.int IntKind.i64 t_1_0b_0_0)]])], V.any, V.any, V.any,
  V.v false [C.d (D.sc (Sc.int IntKind.i64 v.t_5_0))], V.v false [C.d (D.sc (Sc.int IntKind.i64 v.t_6_0))], V.any, V.any, V.any, V.any, V.any, V.any, V.any, V.any, V.any, V.any,
  V.any, V.any, V.any, V.any, V.any, V.any, V.any, V.any, V.any, V.any, V.any, V.any, V.any, V.any, V.any, V.any, V.any, V.any, V.any, V.any, V.any, V.any, V.any, V.any, V.any], [some (Blk.box 70 [C.d (D.fn 55 [] [[D.sc (Sc.int IntKind.i64 h_0_0b_0_0)]])]), none, none, some (Blk.arr 46 ET.pass v.h_3), none, none, none, none, none, none, none, none, none,
  none, none, none, none, none], 8⟩
noncomputable def ex_without_time_5 (t_0_0l : Nat) (t_1_0b_0_0 : Int) (h_0_0b_0_0 : Int) (j : Nat) (v : S.without_time_5_V) : Ex × St := match j with
  | 0 => (Ex.exit 0, ⟨[V.v false [C.own 3 ET.pass false 0 t_0_0l], V.any, V.any, V.any, V.any, V.v false [C.d (D.sc (Sc.int IntKind.i64 v.t_5_0))], V.any, V.any, V.any, V.any, V.any, V.any, V.any,
  V.any, V.any, V.any, V.any, V.any, V.any, V.any, V.any, V.any, V.any, V.any, V.any, V.any, V.any, V.any, V.any, V.any, V.any, V.any, V.any, V.any, V.any, V.any, V.any, V.any,
  V.any, V.any, V.any, V.any], [some (Blk.box 70 [C.d (D.fn 55 [] [[D.sc (Sc.int IntKind.i64 h_0_0b_0_0)]])]), none, none, some (Blk.arr 46 ET.pass v.h_3), none, none, none, none, none, none, none, none, none,
  none, none, none, none, none, none, none, none, none], 8⟩)
  | _ => (.ret, ⟨[], [], 0⟩)
noncomputable def T1_without_time_5 : V → V → V → V → Option Blk → Option Blk → Tree
  | V.v false [C.own 3 ET.pass false 0 t_0_0l], V.v false [C.d (D.fn 55 [] [[D.sc (Sc.int IntKind.i64 t_1_0b_0_0)]])], V.v false [C.d (D.sc (Sc.int IntKind.i64 t_5_0))], V.v false [C.d (D.sc (Sc.int IntKind.i64 t_6_0))], some (Blk.box 70 [C.d (D.fn 55 [] [[D.sc (Sc.int IntKind.i64 h_0_0b_0_0)]])]), some (Blk.arr 46 ET.pass h_3) => exT (fun j => ex_without_time_5 t_0_0l t_1_0b_0_0 h_0_0b_0_0 j (S.without_time_5_v t_0_0l t_1_0b_0_0 ⟨t_5_0, t_6_0, h_3⟩)) (S.without_time_5_j t_0_0l t_1_0b_0_0 ⟨t_5_0, t_6_0, h_3⟩) [0]
  | _, _, _, _, _, _ => .bad
noncomputable def T_without_time_5 (st : St) : Tree := bif okSt 42 18 8 [0, 3] st then T1_without_time_5 (st.env.getD 0 .any) (st.env.getD 1 .any) (st.env.getD 5 .any) (st.env.getD 6 .any) (lk st.heap 0) (lk st.heap 3) else .bad
noncomputable def b_without_time_5 : Code := loopBy Try.f56 5
theorem rnd_without_time_5 (t_0_0l : Nat) (t_1_0b_0_0 : Int) (h_0_0b_0_0 : Int) (v : S.without_time_5_V) : round2 cx_without_time (hdI cx_without_time (find []) [(56, Try.f56)] none 3) 56 b_without_time_5 [] 18 [0, 5] (mk_without_time_5 t_0_0l t_1_0b_0_0 h_0_0b_0_0 v) = (S.without_time_5_R t_0_0l t_1_0b_0_0 v).go (roundOut (mk_without_time_5 t_0_0l t_1_0b_0_0 h_0_0b_0_0) (ex_without_time_5 t_0_0l t_1_0b_0_0 h_0_0b_0_0)) := by kernel_rfl
theorem bs_without_time_5 : loopsOf b_without_time_5 ++ loopsInl [(56, Try.f56)] = [b_without_time_5] := by kernel_rfl
theorem ci_without_time_5 (t_0_0l : Nat) (t_1_0b_0_0 : Int) (h_0_0b_0_0 : Int) : ∀ v j v2, Lp (S.without_time_5_r t_0_0l t_1_0b_0_0) v = some (j, v2) → Circles Try.prog cx_without_time b_without_time_5 (mk_without_time_5 t_0_0l t_1_0b_0_0 h_0_0b_0_0 v) (ex_without_time_5 t_0_0l t_1_0b_0_0 h_0_0b_0_0 j v2).1 (ex_without_time_5 t_0_0l t_1_0b_0_0 h_0_0b_0_0 j v2).2 :=
  loop_ok2 (L := find []) (n := 3) (hints := [(56, 5, { keep := [0, 1, 5, 6], acc := [] })]) (cx_ok rfl) rdy_without_time bs_without_time_5 (consB (fun T h => by have e : (none : Option (St → Tree)) = some T := h; cases e) nilB) (fun v => (rnd_without_time_5 t_0_0l t_1_0b_0_0 h_0_0b_0_0 v).trans (DT.go_run _ _)) (by intro j v; unfold ex_without_time_5; split <;> rfl)
theorem mke_without_time_5 (t_0_0l : Nat) (t_1_0b_0_0 : Int) (h_0_0b_0_0 : Int) (v : S.without_time_5_V) : mk_without_time_5 t_0_0l t_1_0b_0_0 h_0_0b_0_0 v = ⟨envOf 42 [(0, V.v false [C.own 3 ET.pass false 0 t_0_0l]), (1, V.v false [C.d (D.fn 55 [] [[D.sc (Sc.int IntKind.i64 t_1_0b_0_0)]])]), (5, V.v false [C.d (D.sc (Sc.int IntKind.i64 v.t_5_0))]), (6, V.v false [C.d (D.sc (Sc.int IntKind.i64 v.t_6_0))])], heapOf 18 [(0, some (Blk.box 70 [C.d (D.fn 55 [] [[D.sc (Sc.int IntKind.i64 h_0_0b_0_0)]])])), (3, some (Blk.arr 46 ET.pass v.h_3))], 8⟩ := by kernel_rfl
theorem lo1_without_time_5 (e0 : V) (e1 : V) (e5 : V) (e6 : V) (h0 : Option Blk) (h3 : Option Blk) e st2 (h : (T1_without_time_5 e0 e1 e5 e6 h0 h3).eval = some (e, st2)) : Circles Try.prog cx_without_time b_without_time_5 ⟨envOf 42 [(0, e0), (1, e1), (5, e5), (6, e6)], heapOf 18 [(0, h0), (3, h3)], 8⟩ e st2 := by
  unfold T1_without_time_5 at h
  split at h
  · have := loop_tree (mk := mk_without_time_5 _ _ _) (ci_without_time_5 _ _ _) _ _ e st2 h
    rw [mke_without_time_5] at this
    exact this
  · cases h
theorem lok_without_time_5 : LoopOk Try.prog cx_without_time b_without_time_5 T_without_time_5 := by
  intro st e st2 h
  unfold T_without_time_5 at h
  cases hk : okSt 42 18 8 [0, 3] st with
  | false => rw [hk] at h; cases h
  | true =>
    rw [hk] at h
    exact circles_keep (ks := [0, 1, 5, 6]) hk (lo1_without_time_5 _ _ _ _ _ _ e st2 h)
structure S.without_time_T where
  x0 : List (Ty ET.pass)
  deriving Inhabited
noncomputable def S.without_time_R (a0 : List (Ty .pass)) (c0 : Int) : DT S.without_time_T :=
let y0 : Nat := 0 + (S.Clone_pass_nn_o a0).x1
let y1 : Bool := xdec (y0 ≤ (S.Clone_pass_nn_o a0).x0.length) && true && true
let y2 : List (Ty ET.pass) := sub (S.Clone_pass_nn_o a0).x0 0 y0
let y3 : Int := (S.IndexFunc_time_o y2 c0).x0
let y4 : S.without_time_5_V := { t_5_0 := y3, t_6_0 := xwrap IntKind.i64 (y3 + 1), h_3 := (S.Clone_pass_nn_o a0).x0 : S.without_time_5_V }
let y5 : S.without_time_5_V := S.without_time_5_v (S.Clone_pass_nn_o a0).x1 c0 y4
let y6 : Int := y5.t_5_0
let y7 : Bool := xdec (0 ≤ y6)
let y8 : Nat := ((some y6).getD 0).toNat
let y9 : Nat := 0 + y8
let y10 : Nat := (S.Clone_pass_nn_o a0).x1 - y8
let y11 : Nat := y9 + y10
let y12 : List (Ty ET.pass) := y5.h_3
let y13 : Nat := 0 + y6.toNat
let y14 : List (Ty ET.pass) := List.take y9 y12 ++ List.replicate y10 (dflt ET.pass) ++ List.drop y11 y12
(.br (S.Clone_pass_nn_is a0)
(.br (y1 && S.IndexFunc_time_is y2 c0)
(.br (xeqI y3 (-1))
(.br (y1 && true)
(.leaf ⟨y2⟩)
.fail)
(.br (S.without_time_5_j (S.Clone_pass_nn_o a0).x1 c0 y4 0)
(.br (y7 && xdec (y6 ≤ Int.ofNat (S.Clone_pass_nn_o a0).x1) && true && true)
(.br (xdec (y11 ≤ y12.length))
(.br (y7 && xdec (y6 ≤ Int.ofNat (S.Clone_pass_nn_o a0).x1) && true)
(.br (xdec (y13 ≤ y14.length) && true && true && true)
(.leaf ⟨sub y14 0 y13⟩)
.fail)
.fail)
.fail)
.fail)
.fail))
.fail)
.fail)
noncomputable def S.without_time (a0 : List (Ty .pass)) (c0 : Int) : Option S.without_time_T := (S.without_time_R a0 c0).run
noncomputable def S.without_time_is (a0 : List (Ty .pass)) (c0 : Int) : Bool := (S.without_time a0 c0).isSome
noncomputable def S.without_time_o (a0 : List (Ty .pass)) (c0 : Int) : S.without_time_T := (S.without_time a0 c0).getD default
noncomputable def ret_without_time (b : Bool) (r : S.without_time_T) : Ret := ⟨b, none, [(false, [C.d (D.sl none false ET.pass r.x0)])]⟩
noncomputable def g_without_time : Con
  | [(true, [.fn 55 [] [[.sc (.int .i64 c0)]]]), (false, [.sl a0n a0f .pass a0])] => some (ret_without_time (S.without_time_is a0 c0) (S.without_time_o a0 c0))
  | _ => none
theorem raw_without_time (a0n : Option Bool) (a0f : Bool) (a0 : List (Ty .pass)) (c0 : Int) : evR2 cx_without_time (hdI cx_without_time (find [(5, T_without_time_5)]) [(56, Try.f56)] none 3) none Try.f50 50 none [(true, [.fn 55 [] [[.sc (.int .i64 c0)]]]), (false, [.sl a0n a0f .pass a0])] some = (S.without_time_R a0 c0).go (ret_without_time true) := by kernel_rfl
theorem bs_without_time : loopsIn Try.f50 [(56, Try.f56)] = [b_without_time_5] := by kernel_rfl
theorem without_time_ok : Stands Try.prog tyTab 50 g_without_time := by
  refine stands3 (L := find [(5, T_without_time_5)]) (n := 3) (hints := [(56, 5, { keep := [0, 1, 5, 6], acc := [] })]) (cx_ok rfl) rdy_without_time ⟨by kernel_rfl, by kernel_rfl, by kernel_rfl⟩ bs_without_time (consB (fun T h => by have e : T_without_time_5 = T := Option.some.inj (show some T_without_time_5 = some T from h); exact e ▸ lok_without_time_5) nilB) (fun das r hG hr => ?_)
  unfold g_without_time at hG
  split at hG
  · rename_i c0 a0n a0f a0
    injection hG with hG; subst hG
    exact ⟨none, true, win default ((raw_without_time a0n a0f a0 c0).trans (DT.go_run _ _)) hr⟩
  · cases hG
noncomputable abbrev cx_without_sess : Cx := mkCx2 tyTab [(49, g_Clone_pass), (53, g_IndexFunc), (57, g_token_bySess_1)] [] [(56, 5, { keep := [0, 1, 5, 6], acc := [] })] [(56, Try.f56)]
theorem rdy_without_sess : Ready Try.prog tyTab [(49, g_Clone_pass), (53, g_IndexFunc), (57, g_token_bySess_1)] [] [(56, Try.f56)] := ⟨consG2 Clone_pass_ok (consG2 IndexFunc_ok (consG2 token_bySess_1_ok (noneG2))), noneI2, consF2 ⟨by kernel_rfl, by kernel_rfl, by kernel_rfl⟩ (noneF2)⟩
structure S.without_sess_5_V where
  t_5_0 : Int
  t_6_0 : Int
  h_3 : List (Ty ET.pass)
noncomputable def S.without_sess_5_R (t_0_0l : Nat) (t_1_0b_0_0 : Int) (v : S.without_sess_5_V) : DT (Option Nat × S.without_sess_5_V) :=
let y0 : Int := (↑t_0_0l : Int)
let y1 : Bool := xdec (v.t_6_0 < y0)
let y2 : Nat := 0 + v.t_6_0.toNat
let y3 : Nat := v.h_3.length
let y4 : Ty ET.pass := v.h_3.getD y2 (dflt ET.pass)
let y5 : Int := y4.sess
let y6 : Nat := 0 + v.t_5_0.toNat
let y7 : Int := xwrap IntKind.i64 (v.t_6_0 + 1)
(.br (y1)
(.br (xdec (0 ≤ v.t_6_0) && y1)
(.br (xdec (y2 < y3))
(.br (xnot (S.token_bySess_1_o y5 t_1_0b_0_0).x0)
(.br (xdec (0 ≤ v.t_5_0) && xdec (v.t_5_0 < y0))
(.br (xdec (y6 < y3))
(.leaf (none, ⟨xwrap IntKind.i64 (v.t_5_0 + 1), y7, v.h_3.set y6 { token := y4.token, sess := y5, conn := y4.conn, off := y4.off : Pass }⟩))
.fail)
.fail)
(.leaf (none, ⟨v.t_5_0, y7, v.h_3⟩)))
.fail)
.fail)
(.leaf (some 0, v)))
noncomputable def S.without_sess_5_r (t_0_0l : Nat) (t_1_0b_0_0 : Int) (v : S.without_sess_5_V) : Option (Option Nat × S.without_sess_5_V) := (S.without_sess_5_R t_0_0l t_1_0b_0_0 v).run
noncomputable def S.without_sess_5_j (t_0_0l : Nat) (t_1_0b_0_0 : Int) (v : S.without_sess_5_V) (j : Nat) : Bool := Lp_j (S.without_sess_5_r t_0_0l t_1_0b_0_0) v j
noncomputable def S.without_sess_5_v (t_0_0l : Nat) (t_1_0b_0_0 : Int) (v : S.without_sess_5_V) : S.without_sess_5_V := Lp_v (S.without_sess_5_r t_0_0l t_1_0b_0_0) v
noncomputable def mk_without_sess_5 (t_0_0l : Nat) (t_1_0b_0_0 : Int) (h_0_0b_0_0 : Int) (v : S.without_sess_5_V) : St := ⟨[V.v false [C.own 3 ET.pass false 0 t_0_0l], V.v false [C.d (D.fn 57 [] [[D.sc (Sc.int IntKind.i64 t_1_0b_0_0)]])], V.any, V.any, V.any,
  V.v false [C.d (D.sc (Sc.int IntKind.i64 v.t_5_0))], V.v false [C.d (D.sc (Sc.int IntKind.i64 v.t_6_0))], V.any, V.any, V.any, V.any, V.any, V.any, V.any, V.any, V.any, V.any,
  V.any, V.any, V.any, V.any, V.any, V.any, V.any, V.any, V.any, V.any, V.any, V.any, V.any, V.any, V.any, V.any, V.any, V.any, V.any, V.any, V.any, V.any, V.any, V.any, V.any], [some (Blk.box 70 [C.d (D.fn 57 [] [[D.sc (Sc.int IntKind.i64 h_0_0b_0_0)]])]), none, none, some (Blk.arr 46 ET.pass v.h_3), none, none, none, none, none, none, none, none, none,
  none, none, none, none, none], 8⟩
noncomputable def ex_without_sess_5 (t_0_0l : Nat) (t_1_0b_0_0 : Int) (h_0_0b_0_0 : Int) (j : Nat) (v : S.without_sess_5_V) : Ex × St := match j with
  | 0 => (Ex.exit 0, ⟨[V.v false [C.own 3 ET.pass false 0 t_0_0l], V.any, V.any, V.any, V.any, V.v false [C.d (D.sc (Sc.int IntKind.i64 v.t_5_0))], V.any, V.any, V.any, V.any, V.any, V.any, V.any,
  V.any, V.any, V.any, V.any, V.any, V.any, V.any, V.any, V.any, V.any, V.any, V.any, V.any, V.any, V.any, V.any, V.any, V.any, V.any, V.any, V.any, V.any, V.any, V.any, V.any,
  V.any, V.any, V.any, V.any], [some (Blk.box 70 [C.d (D.fn 57 [] [[D.sc (Sc.int IntKind.i64 h_0_0b_0_0)]])]), none, none, some (Blk.arr 46 ET.pass v.h_3), none, none, none, none, none, none, none, none, none,
  none, none, none, none, none, none, none, none, none], 8⟩)
  | _ => (.ret, ⟨[], [], 0⟩)
noncomputable def T1_without_sess_5 : V → V → V → V → Option Blk → Option Blk → Tree
  | V.v false [C.own 3 ET.pass false 0 t_0_0l], V.v false [C.d (D.fn 57 [] [[D.sc (Sc.int IntKind.i64 t_1_0b_0_0)]])], V.v false [C.d (D.sc (Sc.int IntKind.i64 t_5_0))], V.v false [C.d (D.sc (Sc.int IntKind.i64 t_6_0))], some (Blk.box 70 [C.d (D.fn 57 [] [[D.sc (Sc.int IntKind.i64 h_0_0b_0_0)]])]), some (Blk.arr 46 ET.pass h_3) => exT (fun j => ex_without_sess_5 t_0_0l t_1_0b_0_0 h_0_0b_0_0 j (S.without_sess_5_v t_0_0l t_1_0b_0_0 ⟨t_5_0, t_6_0, h_3⟩)) (S.without_sess_5_j t_0_0l t_1_0b_0_0 ⟨t_5_0, t_6_0, h_3⟩) [0]
  | _, _, _, _, _, _ => .bad
noncomputable def T_without_sess_5 (st : St) : Tree := bif okSt 42 18 8 [0, 3] st then T1_without_sess_5 (st.env.getD 0 .any) (st.env.getD 1 .any) (st.env.getD 5 .any) (st.env.getD 6 .any) (lk st.heap 0) (lk st.heap 3) else .bad
noncomputable def b_without_sess_5 : Code := loopBy Try.f56 5
theorem rnd_without_sess_5 (t_0_0l : Nat) (t_1_0b_0_0 : Int) (h_0_0b_0_0 : Int) (v : S.without_sess_5_V) : round2 cx_without_sess (hdI cx_without_sess (find []) [(56, Try.f56)] none 3) 56 b_without_sess_5 [] 18 [0, 5] (mk_without_sess_5 t_0_0l t_1_0b_0_0 h_0_0b_0_0 v) = (S.without_sess_5_R t_0_0l t_1_0b_0_0 v).go (roundOut (mk_without_sess_5 t_0_0l t_1_0b_0_0 h_0_0b_0_0) (ex_without_sess_5 t_0_0l t_1_0b_0_0 h_0_0b_0_0)) := by kernel_rfl
theorem bs_without_sess_5 : loopsOf b_without_sess_5 ++ loopsInl [(56, Try.f56)] = [b_without_sess_5] := by kernel_rfl
theorem ci_without_sess_5 (t_0_0l : Nat) (t_1_0b_0_0 : Int) (h_0_0b_0_0 : Int) : ∀ v j v2, Lp (S.without_sess_5_r t_0_0l t_1_0b_0_0) v = some (j, v2) → Circles Try.prog cx_without_sess b_without_sess_5 (mk_without_sess_5 t_0_0l t_1_0b_0_0 h_0_0b_0_0 v) (ex_without_sess_5 t_0_0l t_1_0b_0_0 h_0_0b_0_0 j v2).1 (ex_without_sess_5 t_0_0l t_1_0b_0_0 h_0_0b_0_0 j v2).2 :=
  loop_ok2 (L := find []) (n := 3) (hints := [(56, 5, { keep := [0, 1, 5, 6], acc := [] })]) (cx_ok rfl) rdy_without_sess bs_without_sess_5 (consB (fun T h => by have e : (none : Option (St → Tree)) = some T := h; cases e) nilB) (fun v => (rnd_without_sess_5 t_0_0l t_1_0b_0_0 h_0_0b_0_0 v).trans (DT.go_run _ _)) (by intro j v; unfold ex_without_sess_5; split <;> rfl)
theorem mke_without_sess_5 (t_0_0l : Nat) (t_1_0b_0_0 : Int) (h_0_0b_0_0 : Int) (v : S.without_sess_5_V) : mk_without_sess_5 t_0_0l t_1_0b_0_0 h_0_0b_0_0 v = ⟨envOf 42 [(0, V.v false [C.own 3 ET.pass false 0 t_0_0l]), (1, V.v false [C.d (D.fn 57 [] [[D.sc (Sc.int IntKind.i64 t_1_0b_0_0)]])]), (5, V.v false [C.d (D.sc (Sc.int IntKind.i64 v.t_5_0))]), (6, V.v false [C.d (D.sc (Sc.int IntKind.i64 v.t_6_0))])], heapOf 18 [(0, some (Blk.box 70 [C.d (D.fn 57 [] [[D.sc (Sc.int IntKind.i64 h_0_0b_0_0)]])])), (3, some (Blk.arr 46 ET.pass v.h_3))], 8⟩ := by kernel_rfl
theorem lo1_without_sess_5 (e0 : V) (e1 : V) (e5 : V) (e6 : V) (h0 : Option Blk) (h3 : Option Blk) e st2 (h : (T1_without_sess_5 e0 e1 e5 e6 h0 h3).eval = some (e, st2)) : Circles Try.prog cx_without_sess b_without_sess_5 ⟨envOf 42 [(0, e0), (1, e1), (5, e5), (6, e6)], heapOf 18 [(0, h0), (3, h3)], 8⟩ e st2 := by
  unfold T1_without_sess_5 at h
  split at h
  · have := loop_tree (mk := mk_without_sess_5 _ _ _) (ci_without_sess_5 _ _ _) _ _ e st2 h
    rw [mke_without_sess_5] at this
    exact this
  · cases h
theorem lok_without_sess_5 : LoopOk Try.prog cx_without_sess b_without_sess_5 T_without_sess_5 := by
  intro st e st2 h
  unfold T_without_sess_5 at h
  cases hk : okSt 42 18 8 [0, 3] st with
  | false => rw [hk] at h; cases h
  | true =>
    rw [hk] at h
    exact circles_keep (ks := [0, 1, 5, 6]) hk (lo1_without_sess_5 _ _ _ _ _ _ e st2 h)
structure S.without_sess_T where
  x0 : List (Ty ET.pass)
  deriving Inhabited
noncomputable def S.without_sess_R (a0 : List (Ty .pass)) (c0 : Int) : DT S.without_sess_T :=
let y0 : Nat := 0 + (S.Clone_pass_nn_o a0).x1
let y1 : Bool := xdec (y0 ≤ (S.Clone_pass_nn_o a0).x0.length) && true && true
let y2 : List (Ty ET.pass) := sub (S.Clone_pass_nn_o a0).x0 0 y0
let y3 : Int := (S.IndexFunc_sess_o y2 c0).x0
let y4 : S.without_sess_5_V := { t_5_0 := y3, t_6_0 := xwrap IntKind.i64 (y3 + 1), h_3 := (S.Clone_pass_nn_o a0).x0 : S.without_sess_5_V }
let y5 : S.without_sess_5_V := S.without_sess_5_v (S.Clone_pass_nn_o a0).x1 c0 y4
let y6 : Int := y5.t_5_0
let y7 : Bool := xdec (0 ≤ y6)
let y8 : Nat := ((some y6).getD 0).toNat
let y9 : Nat := 0 + y8
let y10 : Nat := (S.Clone_pass_nn_o a0).x1 - y8
let y11 : Nat := y9 + y10
let y12 : List (Ty ET.pass) := y5.h_3
let y13 : Nat := 0 + y6.toNat
let y14 : List (Ty ET.pass) := List.take y9 y12 ++ List.replicate y10 (dflt ET.pass) ++ List.drop y11 y12
(.br (S.Clone_pass_nn_is a0)
(.br (y1 && S.IndexFunc_sess_is y2 c0)
(.br (xeqI y3 (-1))
(.br (y1 && true)
(.leaf ⟨y2⟩)
.fail)
(.br (S.without_sess_5_j (S.Clone_pass_nn_o a0).x1 c0 y4 0)
(.br (y7 && xdec (y6 ≤ Int.ofNat (S.Clone_pass_nn_o a0).x1) && true && true)
(.br (xdec (y11 ≤ y12.length))
(.br (y7 && xdec (y6 ≤ Int.ofNat (S.Clone_pass_nn_o a0).x1) && true)
(.br (xdec (y13 ≤ y14.length) && true && true && true)
(.leaf ⟨sub y14 0 y13⟩)
.fail)
.fail)
.fail)
.fail)
.fail))
.fail)
.fail)
noncomputable def S.without_sess (a0 : List (Ty .pass)) (c0 : Int) : Option S.without_sess_T := (S.without_sess_R a0 c0).run
noncomputable def S.without_sess_is (a0 : List (Ty .pass)) (c0 : Int) : Bool := (S.without_sess a0 c0).isSome
noncomputable def S.without_sess_o (a0 : List (Ty .pass)) (c0 : Int) : S.without_sess_T := (S.without_sess a0 c0).getD default
noncomputable def ret_without_sess (b : Bool) (r : S.without_sess_T) : Ret := ⟨b, none, [(false, [C.d (D.sl none false ET.pass r.x0)])]⟩
noncomputable def g_without_sess : Con
  | [(true, [.fn 57 [] [[.sc (.int .i64 c0)]]]), (false, [.sl a0n a0f .pass a0])] => some (ret_without_sess (S.without_sess_is a0 c0) (S.without_sess_o a0 c0))
  | _ => none
theorem raw_without_sess (a0n : Option Bool) (a0f : Bool) (a0 : List (Ty .pass)) (c0 : Int) : evR2 cx_without_sess (hdI cx_without_sess (find [(5, T_without_sess_5)]) [(56, Try.f56)] none 3) none Try.f50 50 none [(true, [.fn 57 [] [[.sc (.int .i64 c0)]]]), (false, [.sl a0n a0f .pass a0])] some = (S.without_sess_R a0 c0).go (ret_without_sess true) := by kernel_rfl
theorem bs_without_sess : loopsIn Try.f50 [(56, Try.f56)] = [b_without_sess_5] := by kernel_rfl
theorem without_sess_ok : Stands Try.prog tyTab 50 g_without_sess := by
  refine stands3 (L := find [(5, T_without_sess_5)]) (n := 3) (hints := [(56, 5, { keep := [0, 1, 5, 6], acc := [] })]) (cx_ok rfl) rdy_without_sess ⟨by kernel_rfl, by kernel_rfl, by kernel_rfl⟩ bs_without_sess (consB (fun T h => by have e : T_without_sess_5 = T := Option.some.inj (show some T_without_sess_5 = some T from h); exact e ▸ lok_without_sess_5) nilB) (fun das r hG hr => ?_)
  unfold g_without_sess at hG
  split at hG
  · rename_i c0 a0n a0f a0
    injection hG with hG; subst hG
    exact ⟨none, true, win default ((raw_without_sess a0n a0f a0 c0).trans (DT.go_run _ _)) hr⟩
  · cases hG
noncomputable def g_look_without : Con := orC g_without_time (g_without_sess)
theorem look_without_ok : Stands Try.prog tyTab 50 g_look_without := orC_ok without_time_ok (without_sess_ok)
noncomputable abbrev cx_token_may : Cx := mkCx2 tyTab [(45, g_token_byConn), (46, g_look_at), (47, g_token_byToken), (51, g_token_bySess)] [] [] []
theorem rdy_token_may : Ready Try.prog tyTab [(45, g_token_byConn), (46, g_look_at), (47, g_token_byToken), (51, g_token_bySess)] [] [] := ⟨consG2 token_byConn_ok (consG2 look_at_ok (consG2 token_byToken_ok (consG2 token_bySess_ok (noneG2)))), noneI2, noneF2⟩
structure S.token_may_T where
  x0 : Bool
  deriving Inhabited
noncomputable def S.token_may_R (a0 : List (Ty .pass)) (a1_0 : Int) (a1_1 : Int) (a1_2 : Int) (a1_3 : Int) : DT S.token_may_T :=
let y0 : Int := -1
let y1 : Bool := xneI a1_2 y0
let y2 : Bool := xdec (a1_3 ≤ 1125899906842624)
let y3 : Bool := S.at_token_is a0 (S.token_byToken_o a1_0).x0
let y4 : Bool := xeqI (S.at_token_o a0 (S.token_byToken_o a1_0).x0).x0 y0
let y5 : Bool := S.at_sess_is a0 (S.token_bySess_o a1_1).x0
let y6 : Bool := xeqI (S.at_sess_o a0 (S.token_bySess_o a1_1).x0).x0 y0
(.br (xdec (a1_1 ≥ 0))
(.br (xdec (a1_2 ≥ y0))
(.br (xdec (a1_3 ≥ 0))
(.br (y1)
(.br (y2)
(.br (xeqI a1_0 a1_0 && (xeqI a1_1 a1_1 && (xeqI a1_2 a1_2 && xeqI a1_3 0)))
(.br (S.at_conn_is a0 (S.token_byConn_o a1_2).x0)
(.br (xeqI (S.at_conn_o a0 (S.token_byConn_o a1_2).x0).x0 y0)
(.br (y3)
(.br (y4)
(.br (y5)
(.leaf ⟨y6⟩)
.fail)
(.leaf ⟨false⟩))
.fail)
(.leaf ⟨false⟩))
.fail)
(.leaf ⟨false⟩))
(.leaf ⟨false⟩))
(.br (y2)
(.br (y3)
(.br (y4)
(.br (y5)
(.leaf ⟨y6⟩)
.fail)
(.leaf ⟨false⟩))
.fail)
(.leaf ⟨false⟩)))
(.br (y1)
(.leaf ⟨false⟩)
(.leaf ⟨false⟩)))
(.br (y1)
(.leaf ⟨false⟩)
(.leaf ⟨false⟩)))
(.br (y1)
(.leaf ⟨false⟩)
(.leaf ⟨false⟩)))
noncomputable def S.token_may (a0 : List (Ty .pass)) (a1_0 : Int) (a1_1 : Int) (a1_2 : Int) (a1_3 : Int) : Option S.token_may_T := (S.token_may_R a0 a1_0 a1_1 a1_2 a1_3).run
noncomputable def S.token_may_is (a0 : List (Ty .pass)) (a1_0 : Int) (a1_1 : Int) (a1_2 : Int) (a1_3 : Int) : Bool := (S.token_may a0 a1_0 a1_1 a1_2 a1_3).isSome
noncomputable def S.token_may_o (a0 : List (Ty .pass)) (a1_0 : Int) (a1_1 : Int) (a1_2 : Int) (a1_3 : Int) : S.token_may_T := (S.token_may a0 a1_0 a1_1 a1_2 a1_3).getD default
noncomputable def ret_token_may (b : Bool) (r : S.token_may_T) : Ret := ⟨b, none, [(false, [C.d (D.sc (Sc.bool r.x0))])]⟩
noncomputable def g_token_may : Con
  | [(false, [.sl a0n a0f .pass a0]), (true, [.sc (.int .u64 a1_0), .sc (.int .i64 a1_1), .sc (.int .i64 a1_2), .sc (.int .i64 a1_3)])] => some (ret_token_may (S.token_may_is a0 a1_0 a1_1 a1_2 a1_3) (S.token_may_o a0 a1_0 a1_1 a1_2 a1_3))
  | _ => none
theorem raw_token_may (a0n : Option Bool) (a0f : Bool) (a0 : List (Ty .pass)) (a1_0 : Int) (a1_1 : Int) (a1_2 : Int) (a1_3 : Int) : evR2 cx_token_may (hdI cx_token_may (find []) [] none 0) none Try.f44 44 none [(false, [.sl a0n a0f .pass a0]), (true, [.sc (.int .u64 a1_0), .sc (.int .i64 a1_1), .sc (.int .i64 a1_2), .sc (.int .i64 a1_3)])] some = (S.token_may_R a0 a1_0 a1_1 a1_2 a1_3).go (ret_token_may true) := by kernel_rfl
theorem bs_token_may : loopsIn Try.f44 [] = [] := by kernel_rfl
theorem token_may_ok : Stands Try.prog tyTab 44 g_token_may := by
  refine stands3 (L := find []) (n := 0) (hints := []) (cx_ok rfl) rdy_token_may ⟨by kernel_rfl, by kernel_rfl, by kernel_rfl⟩ bs_token_may nilB (fun das r hG hr => ?_)
  unfold g_token_may at hG
  split at hG
  · rename_i a0n a0f a0 a1_0 a1_1 a1_2 a1_3
    injection hG with hG; subst hG
    exact ⟨none, true, win default ((raw_token_may a0n a0f a0 a1_0 a1_1 a1_2 a1_3).trans (DT.go_run _ _)) hr⟩
  · cases hG
noncomputable abbrev cx_token_May : Cx := mkCx2 tyTab [(44, g_token_may)] [] [(29, 2, { keep := [0, 5, 6, 7], acc := [] })] []
theorem rdy_token_May : Ready Try.prog tyTab [(44, g_token_may)] [] [] := ⟨consG2 token_may_ok (noneG2), noneI2, noneF2⟩
structure S.token_May_2_V where
  t_7_0 : Int
noncomputable def S.token_May_2_R (t_0_0 : List (Ty ET.pass)) (t_5_0 : List (Ty ET.pass)) (t_6_0 : Int) (v : S.token_May_2_V) : DT (Option Nat × S.token_May_2_V) :=
let y0 : Bool := xdec (0 ≤ v.t_7_0)
let y1 : List (Ty ET.pass) := sub t_0_0 0 v.t_7_0.toNat
let y2 : Ty ET.pass := t_5_0.getD v.t_7_0.toNat (dflt ET.pass)
let y3 : Int := y2.token
let y4 : Int := y2.sess
let y5 : Int := y2.conn
let y6 : Int := y2.off
(.br (xdec (v.t_7_0 < t_6_0))
(.br (y0 && xdec (v.t_7_0 < (↑t_5_0.length : Int)))
(.br (y0 && xdec (v.t_7_0 ≤ Int.ofNat t_0_0.length) && true)
(.br (S.token_may_is y1 y3 y4 y5 y6)
(.br (xnot (S.token_may_o y1 y3 y4 y5 y6).x0)
(.leaf (some 0, v))
(.leaf (none, ⟨xwrap IntKind.i64 (v.t_7_0 + 1)⟩)))
.fail)
.fail)
.fail)
(.leaf (some 1, v)))
noncomputable def S.token_May_2_r (t_0_0 : List (Ty ET.pass)) (t_5_0 : List (Ty ET.pass)) (t_6_0 : Int) (v : S.token_May_2_V) : Option (Option Nat × S.token_May_2_V) := (S.token_May_2_R t_0_0 t_5_0 t_6_0 v).run
noncomputable def S.token_May_2_j (t_0_0 : List (Ty ET.pass)) (t_5_0 : List (Ty ET.pass)) (t_6_0 : Int) (v : S.token_May_2_V) (j : Nat) : Bool := Lp_j (S.token_May_2_r t_0_0 t_5_0 t_6_0) v j
noncomputable def S.token_May_2_v (t_0_0 : List (Ty ET.pass)) (t_5_0 : List (Ty ET.pass)) (t_6_0 : Int) (v : S.token_May_2_V) : S.token_May_2_V := Lp_v (S.token_May_2_r t_0_0 t_5_0 t_6_0) v
noncomputable def mk_token_May_2 (t_0_0n : Option Bool) (t_0_0f : Bool) (t_0_0 : List (Ty ET.pass)) (t_5_0n : Option Bool) (t_5_0f : Bool) (t_5_0 : List (Ty ET.pass)) (t_6_0 : Int) (v : S.token_May_2_V) : St := ⟨[V.v false [C.d (D.sl t_0_0n t_0_0f ET.pass t_0_0)], V.any, V.any, V.any, V.any, V.v false [C.d (D.sl t_5_0n t_5_0f ET.pass t_5_0)],
  V.v false [C.d (D.sc (Sc.int IntKind.i64 t_6_0))], V.v false [C.d (D.sc (Sc.int IntKind.i64 v.t_7_0))], V.any, V.any, V.any, V.any, V.any, V.any, V.any, V.any, V.any, V.any,
  V.any, V.any, V.any, V.any], [none, none, none, none], 0⟩
noncomputable def ex_token_May_2 (t_0_0n : Option Bool) (t_0_0f : Bool) (t_0_0 : List (Ty ET.pass)) (t_5_0n : Option Bool) (t_5_0f : Bool) (t_5_0 : List (Ty ET.pass)) (t_6_0 : Int) (j : Nat) (v : S.token_May_2_V) : Ex × St := match j with
  | 0 => (Ex.ret, ⟨[V.v false [C.d (D.sl t_0_0n t_0_0f ET.pass t_0_0)], V.any, V.v false [C.d (D.sc (Sc.bool false))], V.any, V.any, V.any, V.any, V.any, V.any, V.any, V.any, V.any, V.any, V.any,
  V.any, V.any, V.any, V.any, V.any, V.any, V.any, V.any], [none, none, none, none, none, none, none, none,
  some
    (Blk.box 46
      [C.d (D.sc (Sc.int IntKind.u64 (t_5_0.getD v.t_7_0.toNat (dflt ET.pass)).token)), C.d (D.sc (Sc.int IntKind.i64 (t_5_0.getD v.t_7_0.toNat (dflt ET.pass)).sess)),
        C.d (D.sc (Sc.int IntKind.i64 (t_5_0.getD v.t_7_0.toNat (dflt ET.pass)).conn)), C.d (D.sc (Sc.int IntKind.i64 (t_5_0.getD v.t_7_0.toNat (dflt ET.pass)).off))]),
  none, none, none, none, none, none, none, none, none], 0⟩)
  | 1 => (Ex.exit 0, ⟨[V.v false [C.d (D.sl t_0_0n t_0_0f ET.pass t_0_0)], V.any, V.any, V.any, V.any, V.any, V.any, V.any, V.any, V.any, V.any, V.any, V.any, V.any, V.any, V.any, V.any, V.any, V.any,
  V.any, V.any, V.any], [none, none, none, none, none], 0⟩)
  | _ => (.ret, ⟨[], [], 0⟩)
noncomputable def T1_token_May_2 : V → V → V → V → Tree
  | V.v false [C.d (D.sl t_0_0n t_0_0f ET.pass t_0_0)], V.v false [C.d (D.sl t_5_0n t_5_0f ET.pass t_5_0)], V.v false [C.d (D.sc (Sc.int IntKind.i64 t_6_0))], V.v false [C.d (D.sc (Sc.int IntKind.i64 t_7_0))] => exT (fun j => ex_token_May_2 t_0_0n t_0_0f t_0_0 t_5_0n t_5_0f t_5_0 t_6_0 j (S.token_May_2_v t_0_0 t_5_0 t_6_0 ⟨t_7_0⟩)) (S.token_May_2_j t_0_0 t_5_0 t_6_0 ⟨t_7_0⟩) [0, 1]
  | _, _, _, _ => .bad
noncomputable def T_token_May_2 (st : St) : Tree := bif okSt 22 4 0 [] st then T1_token_May_2 (st.env.getD 0 .any) (st.env.getD 5 .any) (st.env.getD 6 .any) (st.env.getD 7 .any) else .bad
noncomputable def b_token_May_2 : Code := loopBy Try.f29 2
theorem rnd_token_May_2 (t_0_0n : Option Bool) (t_0_0f : Bool) (t_0_0 : List (Ty ET.pass)) (t_5_0n : Option Bool) (t_5_0f : Bool) (t_5_0 : List (Ty ET.pass)) (t_6_0 : Int) (v : S.token_May_2_V) : round2 cx_token_May (hdI cx_token_May (find []) [] none 0) 29 b_token_May_2 [] 4 [0, 2] (mk_token_May_2 t_0_0n t_0_0f t_0_0 t_5_0n t_5_0f t_5_0 t_6_0 v) = (S.token_May_2_R t_0_0 t_5_0 t_6_0 v).go (roundOut (mk_token_May_2 t_0_0n t_0_0f t_0_0 t_5_0n t_5_0f t_5_0 t_6_0) (ex_token_May_2 t_0_0n t_0_0f t_0_0 t_5_0n t_5_0f t_5_0 t_6_0)) := by kernel_rfl
theorem bs_token_May_2 : loopsOf b_token_May_2 ++ loopsInl [] = [] := by kernel_rfl
theorem ci_token_May_2 (t_0_0n : Option Bool) (t_0_0f : Bool) (t_0_0 : List (Ty ET.pass)) (t_5_0n : Option Bool) (t_5_0f : Bool) (t_5_0 : List (Ty ET.pass)) (t_6_0 : Int) : ∀ v j v2, Lp (S.token_May_2_r t_0_0 t_5_0 t_6_0) v = some (j, v2) → Circles Try.prog cx_token_May b_token_May_2 (mk_token_May_2 t_0_0n t_0_0f t_0_0 t_5_0n t_5_0f t_5_0 t_6_0 v) (ex_token_May_2 t_0_0n t_0_0f t_0_0 t_5_0n t_5_0f t_5_0 t_6_0 j v2).1 (ex_token_May_2 t_0_0n t_0_0f t_0_0 t_5_0n t_5_0f t_5_0 t_6_0 j v2).2 :=
  loop_ok2 (L := find []) (n := 0) (hints := [(29, 2, { keep := [0, 5, 6, 7], acc := [] })]) (cx_ok rfl) rdy_token_May bs_token_May_2 nilB (fun v => (rnd_token_May_2 t_0_0n t_0_0f t_0_0 t_5_0n t_5_0f t_5_0 t_6_0 v).trans (DT.go_run _ _)) (by intro j v; unfold ex_token_May_2; split <;> rfl)
theorem mke_token_May_2 (t_0_0n : Option Bool) (t_0_0f : Bool) (t_0_0 : List (Ty ET.pass)) (t_5_0n : Option Bool) (t_5_0f : Bool) (t_5_0 : List (Ty ET.pass)) (t_6_0 : Int) (v : S.token_May_2_V) : mk_token_May_2 t_0_0n t_0_0f t_0_0 t_5_0n t_5_0f t_5_0 t_6_0 v = ⟨envOf 22 [(0, V.v false [C.d (D.sl t_0_0n t_0_0f ET.pass t_0_0)]), (5, V.v false [C.d (D.sl t_5_0n t_5_0f ET.pass t_5_0)]), (6, V.v false [C.d (D.sc (Sc.int IntKind.i64 t_6_0))]), (7, V.v false [C.d (D.sc (Sc.int IntKind.i64 v.t_7_0))])], heapOf 4 [], 0⟩ := by kernel_rfl
theorem lo1_token_May_2 (e0 : V) (e5 : V) (e6 : V) (e7 : V)  e st2 (h : (T1_token_May_2 e0 e5 e6 e7).eval = some (e, st2)) : Circles Try.prog cx_token_May b_token_May_2 ⟨envOf 22 [(0, e0), (5, e5), (6, e6), (7, e7)], heapOf 4 [], 0⟩ e st2 := by
  unfold T1_token_May_2 at h
  split at h
  · have := loop_tree (mk := mk_token_May_2 _ _ _ _ _ _ _) (ci_token_May_2 _ _ _ _ _ _ _) _ _ e st2 h
    rw [mke_token_May_2] at this
    exact this
  · cases h
theorem lok_token_May_2 : LoopOk Try.prog cx_token_May b_token_May_2 T_token_May_2 := by
  intro st e st2 h
  unfold T_token_May_2 at h
  cases hk : okSt 22 4 0 [] st with
  | false => rw [hk] at h; cases h
  | true =>
    rw [hk] at h
    exact circles_keep (ks := [0, 5, 6, 7]) hk (lo1_token_May_2 _ _ _ _ e st2 h)
structure S.token_May_T where
  x0 : Bool
  deriving Inhabited
noncomputable def S.token_May_R (a0 : List (Ty .pass)) : DT S.token_May_T :=
let y0 : Int := (↑a0.length : Int)
let y1 : S.token_May_2_V := { t_7_0 := 0 : S.token_May_2_V }
(.br (S.token_May_2_j a0 a0 y0 y1 0)
(.leaf ⟨false⟩)
(.br (S.token_May_2_j a0 a0 y0 y1 1)
(.leaf ⟨xdec (y0 ≤ 4)⟩)
.fail))
noncomputable def S.token_May (a0 : List (Ty .pass)) : Option S.token_May_T := (S.token_May_R a0).run
noncomputable def S.token_May_is (a0 : List (Ty .pass)) : Bool := (S.token_May a0).isSome
noncomputable def S.token_May_o (a0 : List (Ty .pass)) : S.token_May_T := (S.token_May a0).getD default
noncomputable def ret_token_May (b : Bool) (r : S.token_May_T) : Ret := ⟨b, none, [(false, [C.d (D.sc (Sc.bool r.x0))])]⟩
noncomputable def g_token_May : Con
  | [(false, [.sl a0n a0f .pass a0])] => some (ret_token_May (S.token_May_is a0) (S.token_May_o a0))
  | _ => none
theorem raw_token_May (a0n : Option Bool) (a0f : Bool) (a0 : List (Ty .pass)) : evR2 cx_token_May (hdI cx_token_May (find [(2, T_token_May_2)]) [] none 0) none Try.f29 29 none [(false, [.sl a0n a0f .pass a0])] some = (S.token_May_R a0).go (ret_token_May true) := by kernel_rfl
theorem bs_token_May : loopsIn Try.f29 [] = [b_token_May_2] := by kernel_rfl
theorem token_May_ok : Stands Try.prog tyTab 29 g_token_May := by
  refine stands3 (L := find [(2, T_token_May_2)]) (n := 0) (hints := [(29, 2, { keep := [0, 5, 6, 7], acc := [] })]) (cx_ok rfl) rdy_token_May ⟨by kernel_rfl, by kernel_rfl, by kernel_rfl⟩ bs_token_May (consB (fun T h => by have e : T_token_May_2 = T := Option.some.inj (show some T_token_May_2 = some T from h); exact e ▸ lok_token_May_2) nilB) (fun das r hG hr => ?_)
  unfold g_token_May at hG
  split at hG
  · rename_i a0n a0f a0
    injection hG with hG; subst hG
    exact ⟨none, true, win default ((raw_token_May a0n a0f a0).trans (DT.go_run _ _)) hr⟩
  · cases hG
noncomputable abbrev cx_token_Find : Cx := mkCx2 tyTab [(45, g_token_byConn), (46, g_look_at)] [] [] []
theorem rdy_token_Find : Ready Try.prog tyTab [(45, g_token_byConn), (46, g_look_at)] [] [] := ⟨consG2 token_byConn_ok (consG2 look_at_ok (noneG2)), noneI2, noneF2⟩
structure S.token_Find_T where
  x0 : Int
  deriving Inhabited
noncomputable def S.token_Find_R (a0 : List (Ty .pass)) (a1 : Int) : DT S.token_Find_T :=
(.br (S.at_conn_is a0 (S.token_byConn_o a1).x0)
(.leaf ⟨(S.at_conn_o a0 (S.token_byConn_o a1).x0).x0⟩)
.fail)
noncomputable def S.token_Find (a0 : List (Ty .pass)) (a1 : Int) : Option S.token_Find_T := (S.token_Find_R a0 a1).run
noncomputable def S.token_Find_is (a0 : List (Ty .pass)) (a1 : Int) : Bool := (S.token_Find a0 a1).isSome
noncomputable def S.token_Find_o (a0 : List (Ty .pass)) (a1 : Int) : S.token_Find_T := (S.token_Find a0 a1).getD default
noncomputable def ret_token_Find (b : Bool) (r : S.token_Find_T) : Ret := ⟨b, none, [(false, [C.d (D.sc (Sc.int IntKind.i64 r.x0))])]⟩
noncomputable def g_token_Find : Con
  | [(false, [.sl a0n a0f .pass a0]), (false, [.sc (.int .i64 a1)])] => some (ret_token_Find (S.token_Find_is a0 a1) (S.token_Find_o a0 a1))
  | _ => none
theorem raw_token_Find (a0n : Option Bool) (a0f : Bool) (a0 : List (Ty .pass)) (a1 : Int) : evR2 cx_token_Find (hdI cx_token_Find (find []) [] none 0) none Try.f30 30 none [(false, [.sl a0n a0f .pass a0]), (false, [.sc (.int .i64 a1)])] some = (S.token_Find_R a0 a1).go (ret_token_Find true) := by kernel_rfl
theorem bs_token_Find : loopsIn Try.f30 [] = [] := by kernel_rfl
theorem token_Find_ok : Stands Try.prog tyTab 30 g_token_Find := by
  refine stands3 (L := find []) (n := 0) (hints := []) (cx_ok rfl) rdy_token_Find ⟨by kernel_rfl, by kernel_rfl, by kernel_rfl⟩ bs_token_Find nilB (fun das r hG hr => ?_)
  unfold g_token_Find at hG
  split at hG
  · rename_i a0n a0f a0 a1
    injection hG with hG; subst hG
    exact ⟨none, true, win default ((raw_token_Find a0n a0f a0 a1).trans (DT.go_run _ _)) hr⟩
  · cases hG
noncomputable abbrev cx_token_Join : Cx := mkCx2 tyTab [(29, g_token_May), (30, g_token_Find), (46, g_look_at), (47, g_token_byToken), (48, g_token_byTime), (49, g_Clone_pass), (55, g_token_byTime_1)] [] [] []
theorem rdy_token_Join : Ready Try.prog tyTab [(29, g_token_May), (30, g_token_Find), (46, g_look_at), (47, g_token_byToken), (48, g_token_byTime), (49, g_Clone_pass), (55, g_token_byTime_1)] [] [] := ⟨consG2 token_May_ok (consG2 token_Find_ok (consG2 look_at_ok (consG2 token_byToken_ok (consG2 token_byTime_ok (consG2 Clone_pass_ok (consG2 token_byTime_1_ok (noneG2))))))), noneI2, noneF2⟩
structure S.token_Join_T where
  x0 : List (Ty ET.pass)
  x1 : Int
  x2 : Int
  deriving Inhabited
noncomputable def S.token_Join_R (a0 : List (Ty .pass)) (a1 : Int) (a2 : Int) (a3 : Int) : DT S.token_Join_T :=
let y0 : Int := -1
let y1 : Int := (S.at_token_o a0 (S.token_byToken_o a1).x0).x0
let y2 : Bool := xdec (0 ≤ y1)
let y3 : Bool := y2 && xdec (y1 < (↑a0.length : Int))
let y4 : Nat := y1.toNat
let y5 : Ty ET.pass := a0.getD y4 (dflt ET.pass)
let y6 : Int := y5.conn
let y7 : Int := y5.off
let y8 : Bool := y2 && xdec (y1 < (↑(S.Clone_pass_nn_o a0).x1 : Int))
let y9 : Nat := 0 + y4
let y10 : Ty ET.pass := (S.Clone_pass_nn_o a0).x0.getD y9 (dflt ET.pass)
let y11 : List (Ty ET.pass) := (S.Clone_pass_nn_o a0).x0.set y9 { token := y10.token, sess := y10.sess, conn := a2, off := y10.off : Pass }
let y12 : Ty ET.pass := y11.getD y9 (dflt ET.pass)
let y13 : List (Ty ET.pass) := y11.set y9 { token := y12.token, sess := y12.sess, conn := y12.conn, off := 0 : Pass }
let y14 : Nat := y13.length
let y15 : Nat := 0 + (S.Clone_pass_nn_o a0).x1
(.br (S.token_May_is a0)
(.br (xnot (S.token_May_o a0).x0)
(.leaf ⟨[], 0, 1⟩)
(.br (xdec (a2 < 0))
(.leaf ⟨[], 0, 1⟩)
(.br (xdec (a3 < 0))
(.leaf ⟨[], 0, 1⟩)
(.br (S.token_Find_is a0 a2)
(.br (xneI (S.token_Find_o a0 a2).x0 y0)
(.leaf ⟨[], 0, 1⟩)
(.br (S.at_token_is a0 (S.token_byToken_o a1).x0)
(.br (xeqI y1 y0)
(.leaf ⟨[], 0, 10⟩)
(.br (y3)
(.br (xneI y6 y0)
(.leaf ⟨[], 0, 10⟩)
(.br (y3)
(.br (S.token_byTime_1_is y6 y7 (S.token_byTime_o a3).x0)
(.br ((S.token_byTime_1_o y6 y7 (S.token_byTime_o a3).x0).x0)
(.leaf ⟨[], 0, 10⟩)
(.br (S.Clone_pass_nn_is a0)
(.br (y8)
(.br (xdec (y9 < (S.Clone_pass_nn_o a0).x0.length))
(.br (y8)
(.br (xdec (y9 < y11.length))
(.br (y8)
(.br (xdec (y9 < y14))
(.br (xdec (y15 ≤ y14) && true && true && true)
(.leaf ⟨sub y13 0 y15, (y13.getD y9 (dflt ET.pass)).sess, 0⟩)
.fail)
.fail)
.fail)
.fail)
.fail)
.fail)
.fail)
.fail))
.fail)
.fail))
.fail))
.fail))
.fail))))
.fail)
noncomputable def S.token_Join (a0 : List (Ty .pass)) (a1 : Int) (a2 : Int) (a3 : Int) : Option S.token_Join_T := (S.token_Join_R a0 a1 a2 a3).run
noncomputable def S.token_Join_is (a0 : List (Ty .pass)) (a1 : Int) (a2 : Int) (a3 : Int) : Bool := (S.token_Join a0 a1 a2 a3).isSome
noncomputable def S.token_Join_o (a0 : List (Ty .pass)) (a1 : Int) (a2 : Int) (a3 : Int) : S.token_Join_T := (S.token_Join a0 a1 a2 a3).getD default
noncomputable def ret_token_Join (b : Bool) (r : S.token_Join_T) : Ret := ⟨b, none, [(false, [C.d (D.sl none false ET.pass r.x0)]), (false, [C.d (D.sc (Sc.int IntKind.i64 r.x1))]), (false, [C.d (D.sc (Sc.int IntKind.i64 r.x2))])]⟩
noncomputable def g_token_Join : Con
  | [(false, [.sl a0n a0f .pass a0]), (false, [.sc (.int .u64 a1)]), (false, [.sc (.int .i64 a2)]), (false, [.sc (.int .i64 a3)])] => some (ret_token_Join (S.token_Join_is a0 a1 a2 a3) (S.token_Join_o a0 a1 a2 a3))
  | _ => none
theorem raw_token_Join (a0n : Option Bool) (a0f : Bool) (a0 : List (Ty .pass)) (a1 : Int) (a2 : Int) (a3 : Int) : evR2 cx_token_Join (hdI cx_token_Join (find []) [] none 0) none Try.f31 31 none [(false, [.sl a0n a0f .pass a0]), (false, [.sc (.int .u64 a1)]), (false, [.sc (.int .i64 a2)]), (false, [.sc (.int .i64 a3)])] some = (S.token_Join_R a0 a1 a2 a3).go (ret_token_Join true) := by kernel_rfl
theorem bs_token_Join : loopsIn Try.f31 [] = [] := by kernel_rfl
theorem token_Join_ok : Stands Try.prog tyTab 31 g_token_Join := by
  refine stands3 (L := find []) (n := 0) (hints := []) (cx_ok rfl) rdy_token_Join ⟨by kernel_rfl, by kernel_rfl, by kernel_rfl⟩ bs_token_Join nilB (fun das r hG hr => ?_)
  unfold g_token_Join at hG
  split at hG
  · rename_i a0n a0f a0 a1 a2 a3
    injection hG with hG; subst hG
    exact ⟨none, true, win default ((raw_token_Join a0n a0f a0 a1 a2 a3).trans (DT.go_run _ _)) hr⟩
  · cases hG
noncomputable abbrev cx_token_Leave : Cx := mkCx2 tyTab [(30, g_token_Find), (49, g_Clone_pass)] [] [] []
theorem rdy_token_Leave : Ready Try.prog tyTab [(30, g_token_Find), (49, g_Clone_pass)] [] [] := ⟨consG2 token_Find_ok (consG2 Clone_pass_ok (noneG2)), noneI2, noneF2⟩
structure S.token_Leave_T where
  x0 : List (Ty ET.pass)
  deriving Inhabited
noncomputable def S.token_Leave_R (a0 : List (Ty .pass)) (a1 : Int) (a2 : Int) : DT S.token_Leave_T :=
let y0 : Int := (S.token_Find_o a0 a1).x0
let y1 : Int := -1
let y2 : Bool := xdec (0 ≤ y0) && xdec (y0 < (↑(S.Clone_pass_nn_o a0).x1 : Int))
let y3 : Nat := 0 + y0.toNat
let y4 : Nat := (S.Clone_pass_nn_o a0).x0.length
let y5 : Ty ET.pass := (S.Clone_pass_nn_o a0).x0.getD y3 (dflt ET.pass)
let y6 : List (Ty ET.pass) := (S.Clone_pass_nn_o a0).x0.set y3 { token := y5.token, sess := y5.sess, conn := y1, off := y5.off : Pass }
let y7 : Nat := 0 + (S.Clone_pass_nn_o a0).x1
let y8 : Ty ET.pass := y6.getD y3 (dflt ET.pass)
let y9 : Int := if 0 > a2 then 0 else a2
let y10 : List (Ty ET.pass) := y6.set y3 { token := y8.token, sess := y8.sess, conn := y8.conn, off := if 1125899906842624 < y9 then 1125899906842624 else y9 : Pass }
(.br (S.Clone_pass_nn_is a0)
(.br (S.token_Find_is a0 a1)
(.br (xneI y0 y1)
(.br (y2)
(.br (xdec (y3 < y4))
(.br (y2)
(.br (xdec (y3 < y6.length))
(.br (xdec (y7 ≤ y10.length) && true && true && true)
(.leaf ⟨sub y10 0 y7⟩)
.fail)
.fail)
.fail)
.fail)
.fail)
(.br (xdec (y7 ≤ y4) && true && true && true)
(.leaf ⟨sub (S.Clone_pass_nn_o a0).x0 0 y7⟩)
.fail))
.fail)
.fail)
noncomputable def S.token_Leave (a0 : List (Ty .pass)) (a1 : Int) (a2 : Int) : Option S.token_Leave_T := (S.token_Leave_R a0 a1 a2).run
noncomputable def S.token_Leave_is (a0 : List (Ty .pass)) (a1 : Int) (a2 : Int) : Bool := (S.token_Leave a0 a1 a2).isSome
noncomputable def S.token_Leave_o (a0 : List (Ty .pass)) (a1 : Int) (a2 : Int) : S.token_Leave_T := (S.token_Leave a0 a1 a2).getD default
noncomputable def ret_token_Leave (b : Bool) (r : S.token_Leave_T) : Ret := ⟨b, none, [(false, [C.d (D.sl none false ET.pass r.x0)])]⟩
noncomputable def g_token_Leave : Con
  | [(false, [.sl a0n a0f .pass a0]), (false, [.sc (.int .i64 a1)]), (false, [.sc (.int .i64 a2)])] => some (ret_token_Leave (S.token_Leave_is a0 a1 a2) (S.token_Leave_o a0 a1 a2))
  | _ => none
theorem raw_token_Leave (a0n : Option Bool) (a0f : Bool) (a0 : List (Ty .pass)) (a1 : Int) (a2 : Int) : evR2 cx_token_Leave (hdI cx_token_Leave (find []) [] none 0) none Try.f32 32 none [(false, [.sl a0n a0f .pass a0]), (false, [.sc (.int .i64 a1)]), (false, [.sc (.int .i64 a2)])] some = (S.token_Leave_R a0 a1 a2).go (ret_token_Leave true) := by kernel_rfl
theorem bs_token_Leave : loopsIn Try.f32 [] = [] := by kernel_rfl
theorem token_Leave_ok : Stands Try.prog tyTab 32 g_token_Leave := by
  refine stands3 (L := find []) (n := 0) (hints := []) (cx_ok rfl) rdy_token_Leave ⟨by kernel_rfl, by kernel_rfl, by kernel_rfl⟩ bs_token_Leave nilB (fun das r hG hr => ?_)
  unfold g_token_Leave at hG
  split at hG
  · rename_i a0n a0f a0 a1 a2
    injection hG with hG; subst hG
    exact ⟨none, true, win default ((raw_token_Leave a0n a0f a0 a1 a2).trans (DT.go_run _ _)) hr⟩
  · cases hG
noncomputable abbrev cx_token_Drop : Cx := mkCx2 tyTab [(50, g_look_without), (51, g_token_bySess)] [] [] []
theorem rdy_token_Drop : Ready Try.prog tyTab [(50, g_look_without), (51, g_token_bySess)] [] [] := ⟨consG2 look_without_ok (consG2 token_bySess_ok (noneG2)), noneI2, noneF2⟩
structure S.token_Drop_T where
  x0 : List (Ty ET.pass)
  deriving Inhabited
noncomputable def S.token_Drop_R (a0 : List (Ty .pass)) (a1 : Int) : DT S.token_Drop_T :=
(.br (S.without_sess_is a0 (S.token_bySess_o a1).x0)
(.leaf ⟨(S.without_sess_o a0 (S.token_bySess_o a1).x0).x0⟩)
.fail)
noncomputable def S.token_Drop (a0 : List (Ty .pass)) (a1 : Int) : Option S.token_Drop_T := (S.token_Drop_R a0 a1).run
noncomputable def S.token_Drop_is (a0 : List (Ty .pass)) (a1 : Int) : Bool := (S.token_Drop a0 a1).isSome
noncomputable def S.token_Drop_o (a0 : List (Ty .pass)) (a1 : Int) : S.token_Drop_T := (S.token_Drop a0 a1).getD default
noncomputable def ret_token_Drop (b : Bool) (r : S.token_Drop_T) : Ret := ⟨b, none, [(false, [C.d (D.sl none false ET.pass r.x0)])]⟩
noncomputable def g_token_Drop : Con
  | [(false, [.sl a0n a0f .pass a0]), (false, [.sc (.int .i64 a1)])] => some (ret_token_Drop (S.token_Drop_is a0 a1) (S.token_Drop_o a0 a1))
  | _ => none
theorem raw_token_Drop (a0n : Option Bool) (a0f : Bool) (a0 : List (Ty .pass)) (a1 : Int) : evR2 cx_token_Drop (hdI cx_token_Drop (find []) [] none 0) none Try.f36 36 none [(false, [.sl a0n a0f .pass a0]), (false, [.sc (.int .i64 a1)])] some = (S.token_Drop_R a0 a1).go (ret_token_Drop true) := by kernel_rfl
theorem bs_token_Drop : loopsIn Try.f36 [] = [] := by kernel_rfl
theorem token_Drop_ok : Stands Try.prog tyTab 36 g_token_Drop := by
  refine stands3 (L := find []) (n := 0) (hints := []) (cx_ok rfl) rdy_token_Drop ⟨by kernel_rfl, by kernel_rfl, by kernel_rfl⟩ bs_token_Drop nilB (fun das r hG hr => ?_)
  unfold g_token_Drop at hG
  split at hG
  · rename_i a0n a0f a0 a1
    injection hG with hG; subst hG
    exact ⟨none, true, win default ((raw_token_Drop a0n a0f a0 a1).trans (DT.go_run _ _)) hr⟩
  · cases hG
noncomputable abbrev cx_ref16_Same : Cx := mkCx2 tyTab [] [] [(34, 4, { keep := [0, 1, 5], acc := [] })] []
theorem rdy_ref16_Same : Ready Try.prog tyTab [] [] [] := ⟨noneG2, noneI2, noneF2⟩
structure S.ref16_Same_4_V where
  t_5_0 : Int
noncomputable def S.ref16_Same_4_R (t_0_0 : List (Ty ET.pass)) (t_1_0 : List (Ty ET.pass)) (v : S.ref16_Same_4_V) : DT (Option Nat × S.ref16_Same_4_V) :=
let y0 : Bool := xdec (v.t_5_0 < (↑t_0_0.length : Int))
let y1 : Bool := xdec (0 ≤ v.t_5_0)
let y2 : Ty ET.pass := t_0_0.getD v.t_5_0.toNat (dflt ET.pass)
let y3 : Ty ET.pass := t_1_0.getD v.t_5_0.toNat (dflt ET.pass)
(.br (y0)
(.br (y1 && y0)
(.br (y1 && xdec (v.t_5_0 < (↑t_1_0.length : Int)))
(.br (bif xeqI y2.token y3.token && (xeqI y2.sess y3.sess && (xeqI y2.conn y3.conn && xeqI y2.off y3.off)) then false else true)
(.leaf (some 0, v))
(.leaf (none, ⟨xwrap IntKind.i64 (v.t_5_0 + 1)⟩)))
.fail)
.fail)
(.leaf (some 1, v)))
noncomputable def S.ref16_Same_4_r (t_0_0 : List (Ty ET.pass)) (t_1_0 : List (Ty ET.pass)) (v : S.ref16_Same_4_V) : Option (Option Nat × S.ref16_Same_4_V) := (S.ref16_Same_4_R t_0_0 t_1_0 v).run
noncomputable def S.ref16_Same_4_j (t_0_0 : List (Ty ET.pass)) (t_1_0 : List (Ty ET.pass)) (v : S.ref16_Same_4_V) (j : Nat) : Bool := Lp_j (S.ref16_Same_4_r t_0_0 t_1_0) v j
noncomputable def S.ref16_Same_4_v (t_0_0 : List (Ty ET.pass)) (t_1_0 : List (Ty ET.pass)) (v : S.ref16_Same_4_V) : S.ref16_Same_4_V := Lp_v (S.ref16_Same_4_r t_0_0 t_1_0) v
noncomputable def mk_ref16_Same_4 (t_0_0n : Option Bool) (t_0_0f : Bool) (t_0_0 : List (Ty ET.pass)) (t_1_0n : Option Bool) (t_1_0f : Bool) (t_1_0 : List (Ty ET.pass)) (v : S.ref16_Same_4_V) : St := ⟨[V.v false [C.d (D.sl t_0_0n t_0_0f ET.pass t_0_0)], V.v false [C.d (D.sl t_1_0n t_1_0f ET.pass t_1_0)], V.any, V.any, V.any, V.v false [C.d (D.sc (Sc.int IntKind.i64 v.t_5_0))],
  V.any, V.any, V.any, V.any, V.any, V.any, V.any, V.any, V.any, V.any, V.any, V.any, V.any, V.any, V.any, V.any, V.any, V.any, V.any, V.any], [none, none, none, none, none, none, none], 0⟩
noncomputable def ex_ref16_Same_4 (t_0_0n : Option Bool) (t_0_0f : Bool) (t_0_0 : List (Ty ET.pass)) (t_1_0n : Option Bool) (t_1_0f : Bool) (t_1_0 : List (Ty ET.pass)) (j : Nat) (v : S.ref16_Same_4_V) : Ex × St := match j with
  | 0 => (Ex.ret, ⟨[V.any, V.any, V.any, V.any, V.v false [C.d (D.sc (Sc.bool false))], V.any, V.any, V.any, V.any, V.any, V.any, V.any, V.any, V.any, V.any, V.any, V.any, V.any, V.any, V.any, V.any,
  V.any, V.any, V.any, V.any, V.any], [none, none, none, none, none, none, none, none, none, none, none, none, none, none, none, none, none, none, none, none, none], 0⟩)
  | 1 => (Ex.exit 0, ⟨[V.any, V.any, V.any, V.any, V.any, V.any, V.any, V.any, V.any, V.any, V.any, V.any, V.any, V.any, V.any, V.any, V.any, V.any, V.any, V.any, V.any, V.any, V.any, V.any, V.any,
  V.any], [none, none, none, none, none, none, none, none, none, none, none], 0⟩)
  | _ => (.ret, ⟨[], [], 0⟩)
noncomputable def T1_ref16_Same_4 : V → V → V → Tree
  | V.v false [C.d (D.sl t_0_0n t_0_0f ET.pass t_0_0)], V.v false [C.d (D.sl t_1_0n t_1_0f ET.pass t_1_0)], V.v false [C.d (D.sc (Sc.int IntKind.i64 t_5_0))] => exT (fun j => ex_ref16_Same_4 t_0_0n t_0_0f t_0_0 t_1_0n t_1_0f t_1_0 j (S.ref16_Same_4_v t_0_0 t_1_0 ⟨t_5_0⟩)) (S.ref16_Same_4_j t_0_0 t_1_0 ⟨t_5_0⟩) [0, 1]
  | _, _, _ => .bad
noncomputable def T_ref16_Same_4 (st : St) : Tree := bif okSt 26 7 0 [] st then T1_ref16_Same_4 (st.env.getD 0 .any) (st.env.getD 1 .any) (st.env.getD 5 .any) else .bad
noncomputable def b_ref16_Same_4 : Code := loopBy Try.f34 4
theorem rnd_ref16_Same_4 (t_0_0n : Option Bool) (t_0_0f : Bool) (t_0_0 : List (Ty ET.pass)) (t_1_0n : Option Bool) (t_1_0f : Bool) (t_1_0 : List (Ty ET.pass)) (v : S.ref16_Same_4_V) : round2 cx_ref16_Same (hdI cx_ref16_Same (find []) [] none 0) 34 b_ref16_Same_4 [] 7 [4] (mk_ref16_Same_4 t_0_0n t_0_0f t_0_0 t_1_0n t_1_0f t_1_0 v) = (S.ref16_Same_4_R t_0_0 t_1_0 v).go (roundOut (mk_ref16_Same_4 t_0_0n t_0_0f t_0_0 t_1_0n t_1_0f t_1_0) (ex_ref16_Same_4 t_0_0n t_0_0f t_0_0 t_1_0n t_1_0f t_1_0)) := by kernel_rfl
theorem bs_ref16_Same_4 : loopsOf b_ref16_Same_4 ++ loopsInl [] = [] := by kernel_rfl
theorem ci_ref16_Same_4 (t_0_0n : Option Bool) (t_0_0f : Bool) (t_0_0 : List (Ty ET.pass)) (t_1_0n : Option Bool) (t_1_0f : Bool) (t_1_0 : List (Ty ET.pass)) : ∀ v j v2, Lp (S.ref16_Same_4_r t_0_0 t_1_0) v = some (j, v2) → Circles Try.prog cx_ref16_Same b_ref16_Same_4 (mk_ref16_Same_4 t_0_0n t_0_0f t_0_0 t_1_0n t_1_0f t_1_0 v) (ex_ref16_Same_4 t_0_0n t_0_0f t_0_0 t_1_0n t_1_0f t_1_0 j v2).1 (ex_ref16_Same_4 t_0_0n t_0_0f t_0_0 t_1_0n t_1_0f t_1_0 j v2).2 :=
  loop_ok2 (L := find []) (n := 0) (hints := [(34, 4, { keep := [0, 1, 5], acc := [] })]) (cx_ok rfl) rdy_ref16_Same bs_ref16_Same_4 nilB (fun v => (rnd_ref16_Same_4 t_0_0n t_0_0f t_0_0 t_1_0n t_1_0f t_1_0 v).trans (DT.go_run _ _)) (by intro j v; unfold ex_ref16_Same_4; split <;> rfl)
theorem mke_ref16_Same_4 (t_0_0n : Option Bool) (t_0_0f : Bool) (t_0_0 : List (Ty ET.pass)) (t_1_0n : Option Bool) (t_1_0f : Bool) (t_1_0 : List (Ty ET.pass)) (v : S.ref16_Same_4_V) : mk_ref16_Same_4 t_0_0n t_0_0f t_0_0 t_1_0n t_1_0f t_1_0 v = ⟨envOf 26 [(0, V.v false [C.d (D.sl t_0_0n t_0_0f ET.pass t_0_0)]), (1, V.v false [C.d (D.sl t_1_0n t_1_0f ET.pass t_1_0)]), (5, V.v false [C.d (D.sc (Sc.int IntKind.i64 v.t_5_0))])], heapOf 7 [], 0⟩ := by kernel_rfl
theorem lo1_ref16_Same_4 (e0 : V) (e1 : V) (e5 : V)  e st2 (h : (T1_ref16_Same_4 e0 e1 e5).eval = some (e, st2)) : Circles Try.prog cx_ref16_Same b_ref16_Same_4 ⟨envOf 26 [(0, e0), (1, e1), (5, e5)], heapOf 7 [], 0⟩ e st2 := by
  unfold T1_ref16_Same_4 at h
  split at h
  · have := loop_tree (mk := mk_ref16_Same_4 _ _ _ _ _ _) (ci_ref16_Same_4 _ _ _ _ _ _) _ _ e st2 h
    rw [mke_ref16_Same_4] at this
    exact this
  · cases h
theorem lok_ref16_Same_4 : LoopOk Try.prog cx_ref16_Same b_ref16_Same_4 T_ref16_Same_4 := by
  intro st e st2 h
  unfold T_ref16_Same_4 at h
  cases hk : okSt 26 7 0 [] st with
  | false => rw [hk] at h; cases h
  | true =>
    rw [hk] at h
    exact circles_keep (ks := [0, 1, 5]) hk (lo1_ref16_Same_4 _ _ _ e st2 h)
structure S.ref16_Same_T where
  x0 : Bool
  deriving Inhabited
noncomputable def S.ref16_Same_R (a0 : List (Ty .pass)) (a1 : List (Ty .pass)) : DT S.ref16_Same_T :=
let y0 : S.ref16_Same_4_V := { t_5_0 := 0 : S.ref16_Same_4_V }
(.br (xneI (↑a0.length : Int) (↑a1.length : Int))
(.leaf ⟨false⟩)
(.br (S.ref16_Same_4_j a0 a1 y0 0)
(.leaf ⟨false⟩)
(.br (S.ref16_Same_4_j a0 a1 y0 1)
(.leaf ⟨true⟩)
.fail)))
noncomputable def S.ref16_Same (a0 : List (Ty .pass)) (a1 : List (Ty .pass)) : Option S.ref16_Same_T := (S.ref16_Same_R a0 a1).run
noncomputable def S.ref16_Same_is (a0 : List (Ty .pass)) (a1 : List (Ty .pass)) : Bool := (S.ref16_Same a0 a1).isSome
noncomputable def S.ref16_Same_o (a0 : List (Ty .pass)) (a1 : List (Ty .pass)) : S.ref16_Same_T := (S.ref16_Same a0 a1).getD default
noncomputable def ret_ref16_Same (b : Bool) (r : S.ref16_Same_T) : Ret := ⟨b, none, [(false, [C.d (D.sc (Sc.bool r.x0))])]⟩
noncomputable def g_ref16_Same : Con
  | [(false, [.sl a0n a0f .pass a0]), (false, [.sl a1n a1f .pass a1])] => some (ret_ref16_Same (S.ref16_Same_is a0 a1) (S.ref16_Same_o a0 a1))
  | _ => none
theorem raw_ref16_Same (a0n : Option Bool) (a0f : Bool) (a0 : List (Ty .pass)) (a1n : Option Bool) (a1f : Bool) (a1 : List (Ty .pass)) : evR2 cx_ref16_Same (hdI cx_ref16_Same (find [(4, T_ref16_Same_4)]) [] none 0) none Try.f34 34 none [(false, [.sl a0n a0f .pass a0]), (false, [.sl a1n a1f .pass a1])] some = (S.ref16_Same_R a0 a1).go (ret_ref16_Same true) := by kernel_rfl
theorem bs_ref16_Same : loopsIn Try.f34 [] = [b_ref16_Same_4] := by kernel_rfl
theorem ref16_Same_ok : Stands Try.prog tyTab 34 g_ref16_Same := by
  refine stands3 (L := find [(4, T_ref16_Same_4)]) (n := 0) (hints := [(34, 4, { keep := [0, 1, 5], acc := [] })]) (cx_ok rfl) rdy_ref16_Same ⟨by kernel_rfl, by kernel_rfl, by kernel_rfl⟩ bs_ref16_Same (consB (fun T h => by have e : T_ref16_Same_4 = T := Option.some.inj (show some T_ref16_Same_4 = some T from h); exact e ▸ lok_ref16_Same_4) nilB) (fun das r hG hr => ?_)
  unfold g_ref16_Same at hG
  split at hG
  · rename_i a0n a0f a0 a1n a1f a1
    injection hG with hG; subst hG
    exact ⟨none, true, win default ((raw_ref16_Same a0n a0f a0 a1n a1f a1).trans (DT.go_run _ _)) hr⟩
  · cases hG
noncomputable abbrev cx_token_Sweep : Cx := mkCx2 tyTab [(48, g_token_byTime), (50, g_look_without), (55, g_token_byTime_1)] [] [(33, 4, { keep := [0, 6, 7, 12, 13, 14], acc := [(6, none, .int, 3)] })] []
theorem rdy_token_Sweep : Ready Try.prog tyTab [(48, g_token_byTime), (50, g_look_without), (55, g_token_byTime_1)] [] [] := ⟨consG2 token_byTime_ok (consG2 look_without_ok (consG2 token_byTime_1_ok (noneG2))), noneI2, noneF2⟩
structure S.token_Sweep_4_V where
  t_6_0f : Bool
  t_6_0l : Nat
  t_14_0 : Int
  h_10 : List (Ty ET.int)
noncomputable def S.token_Sweep_4_R (t_12_0 : List (Ty ET.pass)) (t_13_0 : Int) (h_5_0b_0_0 : Int) (v : S.token_Sweep_4_V) : DT (Option Nat × S.token_Sweep_4_V) :=
let y0 : Ty ET.pass := t_12_0.getD v.t_14_0.toNat (dflt ET.pass)
let y1 : Int := y0.conn
let y2 : Int := y0.off
let y3 : Int := y0.sess
let y4 : Nat := v.t_6_0l + 1
let y5 : Int := xwrap IntKind.i64 (v.t_14_0 + 1)
(.br (xdec (v.t_14_0 < t_13_0))
(.br (xdec (0 ≤ v.t_14_0) && xdec (v.t_14_0 < (↑t_12_0.length : Int)))
(.br (S.token_byTime_1_is y1 y2 h_5_0b_0_0)
(.br ((S.token_byTime_1_o y1 y2 h_5_0b_0_0).x0)
(.br (xdec (0 + 1 ≤ ((List.replicate 1 (dflt ET.int)).set 0 y3).length) && xdec (v.t_6_0l ≤ v.h_10.length) && xdec (y4 ≤ 1048576))
(.leaf (none, ⟨false, y4, y5, List.take v.t_6_0l v.h_10 ++ [y3]⟩))
.fail)
(.leaf (none, ⟨v.t_6_0f, v.t_6_0l, y5, v.h_10⟩)))
.fail)
.fail)
(.leaf (some 0, v)))
noncomputable def S.token_Sweep_4_r (t_12_0 : List (Ty ET.pass)) (t_13_0 : Int) (h_5_0b_0_0 : Int) (v : S.token_Sweep_4_V) : Option (Option Nat × S.token_Sweep_4_V) := (S.token_Sweep_4_R t_12_0 t_13_0 h_5_0b_0_0 v).run
noncomputable def S.token_Sweep_4_j (t_12_0 : List (Ty ET.pass)) (t_13_0 : Int) (h_5_0b_0_0 : Int) (v : S.token_Sweep_4_V) (j : Nat) : Bool := Lp_j (S.token_Sweep_4_r t_12_0 t_13_0 h_5_0b_0_0) v j
noncomputable def S.token_Sweep_4_v (t_12_0 : List (Ty ET.pass)) (t_13_0 : Int) (h_5_0b_0_0 : Int) (v : S.token_Sweep_4_V) : S.token_Sweep_4_V := Lp_v (S.token_Sweep_4_r t_12_0 t_13_0 h_5_0b_0_0) v
noncomputable def mk_token_Sweep_4 (t_0_0n : Option Bool) (t_0_0f : Bool) (t_0_0 : List (Ty ET.pass)) (t_12_0n : Option Bool) (t_12_0f : Bool) (t_12_0 : List (Ty ET.pass)) (t_13_0 : Int) (h_5_0b_0_0 : Int) (v : S.token_Sweep_4_V) : St := ⟨[V.v false [C.d (D.sl t_0_0n t_0_0f ET.pass t_0_0)], V.any, V.any, V.any, V.any, V.any, V.v false [C.own 10 ET.int v.t_6_0f 0 v.t_6_0l], V.v false [C.ptr 5 0], V.any, V.any, V.any,
  V.any, V.v false [C.d (D.sl t_12_0n t_12_0f ET.pass t_12_0)], V.v false [C.d (D.sc (Sc.int IntKind.i64 t_13_0))], V.v false [C.d (D.sc (Sc.int IntKind.i64 v.t_14_0))], V.any,
  V.any, V.any, V.any, V.any, V.any, V.any, V.any, V.any, V.any, V.any, V.any, V.any, V.any, V.any, V.any, V.any], [none, none, none, none, none, some (Blk.box 70 [C.d (D.fn 55 [] [[D.sc (Sc.int IntKind.i64 h_5_0b_0_0)]])]), none, none, none, none, some (Blk.arr 3 ET.int v.h_10)], 0⟩
noncomputable def ex_token_Sweep_4 (t_0_0n : Option Bool) (t_0_0f : Bool) (t_0_0 : List (Ty ET.pass)) (t_12_0n : Option Bool) (t_12_0f : Bool) (t_12_0 : List (Ty ET.pass)) (t_13_0 : Int) (h_5_0b_0_0 : Int) (j : Nat) (v : S.token_Sweep_4_V) : Ex × St := match j with
  | 0 => (Ex.exit 0, ⟨[V.v false [C.d (D.sl t_0_0n t_0_0f ET.pass t_0_0)], V.any, V.any, V.any, V.any, V.any, V.v false [C.own 10 ET.int v.t_6_0f 0 v.t_6_0l], V.v false [C.ptr 5 0], V.any, V.any, V.any,
  V.any, V.any, V.any, V.any, V.any, V.any, V.any, V.any, V.any, V.any, V.any, V.any, V.any, V.any, V.any, V.any, V.any, V.any, V.any, V.any, V.any], [none, none, none, none, none, some (Blk.box 70 [C.d (D.fn 55 [] [[D.sc (Sc.int IntKind.i64 h_5_0b_0_0)]])]), none, none, none, none, some (Blk.arr 3 ET.int v.h_10), none], 0⟩)
  | _ => (.ret, ⟨[], [], 0⟩)
noncomputable def T1_token_Sweep_4 : V → V → V → V → V → V → Option Blk → Option Blk → Tree
  | V.v false [C.d (D.sl t_0_0n t_0_0f ET.pass t_0_0)], V.v false [C.own 10 ET.int t_6_0f 0 t_6_0l], V.v false [C.ptr 5 0], V.v false [C.d (D.sl t_12_0n t_12_0f ET.pass t_12_0)], V.v false [C.d (D.sc (Sc.int IntKind.i64 t_13_0))], V.v false [C.d (D.sc (Sc.int IntKind.i64 t_14_0))], some (Blk.box 70 [C.d (D.fn 55 [] [[D.sc (Sc.int IntKind.i64 h_5_0b_0_0)]])]), some (Blk.arr 3 ET.int h_10) => exT (fun j => ex_token_Sweep_4 t_0_0n t_0_0f t_0_0 t_12_0n t_12_0f t_12_0 t_13_0 h_5_0b_0_0 j (S.token_Sweep_4_v t_12_0 t_13_0 h_5_0b_0_0 ⟨t_6_0f, t_6_0l, t_14_0, h_10⟩)) (S.token_Sweep_4_j t_12_0 t_13_0 h_5_0b_0_0 ⟨t_6_0f, t_6_0l, t_14_0, h_10⟩) [0]
  | _, _, _, _, _, _, _, _ => .bad
noncomputable def T_token_Sweep_4 (st : St) : Tree := bif okSt 32 11 0 [5, 10] st then T1_token_Sweep_4 (st.env.getD 0 .any) (st.env.getD 6 .any) (st.env.getD 7 .any) (st.env.getD 12 .any) (st.env.getD 13 .any) (st.env.getD 14 .any) (lk st.heap 5) (lk st.heap 10) else .bad
noncomputable def b_token_Sweep_4 : Code := loopBy Try.f33 4
theorem rnd_token_Sweep_4 (t_0_0n : Option Bool) (t_0_0f : Bool) (t_0_0 : List (Ty ET.pass)) (t_12_0n : Option Bool) (t_12_0f : Bool) (t_12_0 : List (Ty ET.pass)) (t_13_0 : Int) (h_5_0b_0_0 : Int) (v : S.token_Sweep_4_V) : round2 cx_token_Sweep (hdI cx_token_Sweep (find []) [] none 0) 33 b_token_Sweep_4 [10] 11 [0, 6, 7] (mk_token_Sweep_4 t_0_0n t_0_0f t_0_0 t_12_0n t_12_0f t_12_0 t_13_0 h_5_0b_0_0 v) = (S.token_Sweep_4_R t_12_0 t_13_0 h_5_0b_0_0 v).go (roundOut (mk_token_Sweep_4 t_0_0n t_0_0f t_0_0 t_12_0n t_12_0f t_12_0 t_13_0 h_5_0b_0_0) (ex_token_Sweep_4 t_0_0n t_0_0f t_0_0 t_12_0n t_12_0f t_12_0 t_13_0 h_5_0b_0_0)) := by kernel_rfl
theorem bs_token_Sweep_4 : loopsOf b_token_Sweep_4 ++ loopsInl [] = [] := by kernel_rfl
theorem ci_token_Sweep_4 (t_0_0n : Option Bool) (t_0_0f : Bool) (t_0_0 : List (Ty ET.pass)) (t_12_0n : Option Bool) (t_12_0f : Bool) (t_12_0 : List (Ty ET.pass)) (t_13_0 : Int) (h_5_0b_0_0 : Int) : ∀ v j v2, Lp (S.token_Sweep_4_r t_12_0 t_13_0 h_5_0b_0_0) v = some (j, v2) → Circles Try.prog cx_token_Sweep b_token_Sweep_4 (mk_token_Sweep_4 t_0_0n t_0_0f t_0_0 t_12_0n t_12_0f t_12_0 t_13_0 h_5_0b_0_0 v) (ex_token_Sweep_4 t_0_0n t_0_0f t_0_0 t_12_0n t_12_0f t_12_0 t_13_0 h_5_0b_0_0 j v2).1 (ex_token_Sweep_4 t_0_0n t_0_0f t_0_0 t_12_0n t_12_0f t_12_0 t_13_0 h_5_0b_0_0 j v2).2 :=
  loop_ok2 (L := find []) (n := 0) (hints := [(33, 4, { keep := [0, 6, 7, 12, 13, 14], acc := [(6, none, .int, 3)] })]) (cx_ok rfl) rdy_token_Sweep bs_token_Sweep_4 nilB (fun v => (rnd_token_Sweep_4 t_0_0n t_0_0f t_0_0 t_12_0n t_12_0f t_12_0 t_13_0 h_5_0b_0_0 v).trans (DT.go_run _ _)) (by intro j v; unfold ex_token_Sweep_4; split <;> rfl)
theorem mke_token_Sweep_4 (t_0_0n : Option Bool) (t_0_0f : Bool) (t_0_0 : List (Ty ET.pass)) (t_12_0n : Option Bool) (t_12_0f : Bool) (t_12_0 : List (Ty ET.pass)) (t_13_0 : Int) (h_5_0b_0_0 : Int) (v : S.token_Sweep_4_V) : mk_token_Sweep_4 t_0_0n t_0_0f t_0_0 t_12_0n t_12_0f t_12_0 t_13_0 h_5_0b_0_0 v = ⟨envOf 32 [(0, V.v false [C.d (D.sl t_0_0n t_0_0f ET.pass t_0_0)]), (6, V.v false [C.own 10 ET.int v.t_6_0f 0 v.t_6_0l]), (7, V.v false [C.ptr 5 0]), (12, V.v false [C.d (D.sl t_12_0n t_12_0f ET.pass t_12_0)]), (13, V.v false [C.d (D.sc (Sc.int IntKind.i64 t_13_0))]), (14, V.v false [C.d (D.sc (Sc.int IntKind.i64 v.t_14_0))])], heapOf 11 [(5, some (Blk.box 70 [C.d (D.fn 55 [] [[D.sc (Sc.int IntKind.i64 h_5_0b_0_0)]])])), (10, some (Blk.arr 3 ET.int v.h_10))], 0⟩ := by kernel_rfl
theorem lo1_token_Sweep_4 (e0 : V) (e6 : V) (e7 : V) (e12 : V) (e13 : V) (e14 : V) (h5 : Option Blk) (h10 : Option Blk) e st2 (h : (T1_token_Sweep_4 e0 e6 e7 e12 e13 e14 h5 h10).eval = some (e, st2)) : Circles Try.prog cx_token_Sweep b_token_Sweep_4 ⟨envOf 32 [(0, e0), (6, e6), (7, e7), (12, e12), (13, e13), (14, e14)], heapOf 11 [(5, h5), (10, h10)], 0⟩ e st2 := by
  unfold T1_token_Sweep_4 at h
  split at h
  · have := loop_tree (mk := mk_token_Sweep_4 _ _ _ _ _ _ _ _) (ci_token_Sweep_4 _ _ _ _ _ _ _ _) _ _ e st2 h
    rw [mke_token_Sweep_4] at this
    exact this
  · cases h
theorem lok_token_Sweep_4 : LoopOk Try.prog cx_token_Sweep b_token_Sweep_4 T_token_Sweep_4 := by
  intro st e st2 h
  unfold T_token_Sweep_4 at h
  cases hk : okSt 32 11 0 [5, 10] st with
  | false => rw [hk] at h; cases h
  | true =>
    rw [hk] at h
    exact circles_keep (ks := [0, 6, 7, 12, 13, 14]) hk (lo1_token_Sweep_4 _ _ _ _ _ _ _ _ e st2 h)
structure S.token_Sweep_T where
  x0 : List (Ty ET.pass)
  x1 : List (Ty ET.int)
  deriving Inhabited
noncomputable def S.token_Sweep_R (a0 : List (Ty .pass)) (a1 : Int) : DT S.token_Sweep_T :=
let y0 : Int := (↑a0.length : Int)
let y1 : S.token_Sweep_4_V := { t_6_0f := true, t_6_0l := 0, t_14_0 := 0, h_10 := [] : S.token_Sweep_4_V }
let y2 : S.token_Sweep_4_V := S.token_Sweep_4_v a0 y0 (S.token_byTime_o a1).x0 y1
let y3 : Nat := 0 + y2.t_6_0l
let y4 : List (Ty ET.int) := y2.h_10
(.br (S.token_Sweep_4_j a0 y0 (S.token_byTime_o a1).x0 y1 0)
(.br (S.without_time_is a0 (S.token_byTime_o a1).x0)
(.br (xdec (y3 ≤ y4.length) && true && true && true)
(.leaf ⟨(S.without_time_o a0 (S.token_byTime_o a1).x0).x0, sub y4 0 y3⟩)
.fail)
.fail)
.fail)
noncomputable def S.token_Sweep (a0 : List (Ty .pass)) (a1 : Int) : Option S.token_Sweep_T := (S.token_Sweep_R a0 a1).run
noncomputable def S.token_Sweep_is (a0 : List (Ty .pass)) (a1 : Int) : Bool := (S.token_Sweep a0 a1).isSome
noncomputable def S.token_Sweep_o (a0 : List (Ty .pass)) (a1 : Int) : S.token_Sweep_T := (S.token_Sweep a0 a1).getD default
noncomputable def ret_token_Sweep (b : Bool) (r : S.token_Sweep_T) : Ret := ⟨b, none, [(false, [C.d (D.sl none false ET.pass r.x0)]), (false, [C.d (D.sl none false ET.int r.x1)])]⟩
noncomputable def g_token_Sweep : Con
  | [(false, [.sl a0n a0f .pass a0]), (false, [.sc (.int .i64 a1)])] => some (ret_token_Sweep (S.token_Sweep_is a0 a1) (S.token_Sweep_o a0 a1))
  | _ => none
theorem raw_token_Sweep (a0n : Option Bool) (a0f : Bool) (a0 : List (Ty .pass)) (a1 : Int) : evR2 cx_token_Sweep (hdI cx_token_Sweep (find [(4, T_token_Sweep_4)]) [] none 0) none Try.f33 33 none [(false, [.sl a0n a0f .pass a0]), (false, [.sc (.int .i64 a1)])] some = (S.token_Sweep_R a0 a1).go (ret_token_Sweep true) := by kernel_rfl
theorem bs_token_Sweep : loopsIn Try.f33 [] = [b_token_Sweep_4] := by kernel_rfl
theorem token_Sweep_ok : Stands Try.prog tyTab 33 g_token_Sweep := by
  refine stands3 (L := find [(4, T_token_Sweep_4)]) (n := 0) (hints := [(33, 4, { keep := [0, 6, 7, 12, 13, 14], acc := [(6, none, .int, 3)] })]) (cx_ok rfl) rdy_token_Sweep ⟨by kernel_rfl, by kernel_rfl, by kernel_rfl⟩ bs_token_Sweep (consB (fun T h => by have e : T_token_Sweep_4 = T := Option.some.inj (show some T_token_Sweep_4 = some T from h); exact e ▸ lok_token_Sweep_4) nilB) (fun das r hG hr => ?_)
  unfold g_token_Sweep at hG
  split at hG
  · rename_i a0n a0f a0 a1
    injection hG with hG; subst hG
    exact ⟨none, true, win default ((raw_token_Sweep a0n a0f a0 a1).trans (DT.go_run _ _)) hr⟩
  · cases hG
noncomputable abbrev cx_token_Issue : Cx := mkCx2 tyTab [(29, g_token_May), (45, g_token_byConn), (46, g_look_at), (47, g_token_byToken), (49, g_Clone_pass), (51, g_token_bySess)] [] [] []
theorem rdy_token_Issue : Ready Try.prog tyTab [(29, g_token_May), (45, g_token_byConn), (46, g_look_at), (47, g_token_byToken), (49, g_Clone_pass), (51, g_token_bySess)] [] [] := ⟨consG2 token_May_ok (consG2 token_byConn_ok (consG2 look_at_ok (consG2 token_byToken_ok (consG2 Clone_pass_ok (consG2 token_bySess_ok (noneG2)))))), noneI2, noneF2⟩
structure S.token_Issue_T where
  x0 : List (Ty ET.pass)
  x1 : Int
  deriving Inhabited
noncomputable def S.token_Issue_R (a0 : List (Ty .pass)) (a1 : Int) (a2 : Int) (a3 : Int) : DT S.token_Issue_T :=
let y0 : Bool := xnot (S.token_May_o a0).x0
let y1 : Bool := S.at_token_is a0 (S.token_byToken_o a1).x0
let y2 : Int := -1
let y3 : Bool := xneI (S.at_token_o a0 (S.token_byToken_o a1).x0).x0 y2
let y4 : Bool := xeqI (↑a0.length : Int) 4
let y5 : Pass := { token := a1, sess := a2, conn := a3, off := 0 : Pass }
let y6 : Nat := (S.Clone_pass_nn_o a0).x1 + 1
let y7 : Bool := xdec (0 + 1 ≤ ((List.replicate 1 (dflt ET.pass)).set 0 y5).length) && xdec ((S.Clone_pass_nn_o a0).x1 ≤ (S.Clone_pass_nn_o a0).x0.length) && xdec (y6 ≤ 1048576)
let y8 : Nat := 0 + y6
let y9 : List (Ty ET.pass) := List.take (S.Clone_pass_nn_o a0).x1 (S.Clone_pass_nn_o a0).x0 ++ [y5]
let y10 : Bool := xdec (y8 ≤ y9.length) && true && true && true
let y11 : List (Ty ET.pass) := sub y9 0 y8
let y12 : Bool := xdec (a2 < 0)
let y13 : Bool := xdec (a3 < 0)
let y14 : Bool := xneI (S.at_conn_o a0 (S.token_byConn_o a3).x0).x0 y2
(.br (S.token_May_is a0)
(.br (y0)
(.br (y0)
(.leaf ⟨[], 1⟩)
(.br (y1)
(.br (y3)
(.leaf ⟨[], 4⟩)
(.br (y4)
(.leaf ⟨[], 7⟩)
(.br (S.Clone_pass_nn_is a0)
(.br (y7)
(.br (y10)
(.leaf ⟨y11, 0⟩)
.fail)
.fail)
.fail)))
.fail))
(.br (y12)
(.br (y12)
(.leaf ⟨[], 1⟩)
(.br (y1)
(.br (y3)
(.leaf ⟨[], 4⟩)
(.br (y4)
(.leaf ⟨[], 7⟩)
(.br (S.Clone_pass_nn_is a0)
(.br (y7)
(.br (y10)
(.leaf ⟨y11, 0⟩)
.fail)
.fail)
.fail)))
.fail))
(.br (y13)
(.br (y13)
(.leaf ⟨[], 1⟩)
(.br (y1)
(.br (y3)
(.leaf ⟨[], 4⟩)
(.br (y4)
(.leaf ⟨[], 7⟩)
(.br (S.Clone_pass_nn_is a0)
(.br (y7)
(.br (y10)
(.leaf ⟨y11, 0⟩)
.fail)
.fail)
.fail)))
.fail))
(.br (S.at_conn_is a0 (S.token_byConn_o a3).x0)
(.br (y14)
(.br (y14)
(.leaf ⟨[], 1⟩)
(.br (y1)
(.br (y3)
(.leaf ⟨[], 4⟩)
(.br (y4)
(.leaf ⟨[], 7⟩)
(.br (S.Clone_pass_nn_is a0)
(.br (y7)
(.br (y10)
(.leaf ⟨y11, 0⟩)
.fail)
.fail)
.fail)))
.fail))
(.br (S.at_sess_is a0 (S.token_bySess_o a2).x0)
(.br (xneI (S.at_sess_o a0 (S.token_bySess_o a2).x0).x0 y2)
(.leaf ⟨[], 1⟩)
(.br (y1)
(.br (y3)
(.leaf ⟨[], 4⟩)
(.br (y4)
(.leaf ⟨[], 7⟩)
(.br (S.Clone_pass_nn_is a0)
(.br (y7)
(.br (y10)
(.leaf ⟨y11, 0⟩)
.fail)
.fail)
.fail)))
.fail))
.fail))
.fail))))
.fail)
noncomputable def S.token_Issue (a0 : List (Ty .pass)) (a1 : Int) (a2 : Int) (a3 : Int) : Option S.token_Issue_T := (S.token_Issue_R a0 a1 a2 a3).run
noncomputable def S.token_Issue_is (a0 : List (Ty .pass)) (a1 : Int) (a2 : Int) (a3 : Int) : Bool := (S.token_Issue a0 a1 a2 a3).isSome
noncomputable def S.token_Issue_o (a0 : List (Ty .pass)) (a1 : Int) (a2 : Int) (a3 : Int) : S.token_Issue_T := (S.token_Issue a0 a1 a2 a3).getD default
noncomputable def ret_token_Issue (b : Bool) (r : S.token_Issue_T) : Ret := ⟨b, none, [(false, [C.d (D.sl none false ET.pass r.x0)]), (false, [C.d (D.sc (Sc.int IntKind.i64 r.x1))])]⟩
noncomputable def g_token_Issue : Con
  | [(false, [.sl a0n a0f .pass a0]), (false, [.sc (.int .u64 a1)]), (false, [.sc (.int .i64 a2)]), (false, [.sc (.int .i64 a3)])] => some (ret_token_Issue (S.token_Issue_is a0 a1 a2 a3) (S.token_Issue_o a0 a1 a2 a3))
  | _ => none
theorem raw_token_Issue (a0n : Option Bool) (a0f : Bool) (a0 : List (Ty .pass)) (a1 : Int) (a2 : Int) (a3 : Int) : evR2 cx_token_Issue (hdI cx_token_Issue (find []) [] none 0) none Try.f35 35 none [(false, [.sl a0n a0f .pass a0]), (false, [.sc (.int .u64 a1)]), (false, [.sc (.int .i64 a2)]), (false, [.sc (.int .i64 a3)])] some = (S.token_Issue_R a0 a1 a2 a3).go (ret_token_Issue true) := by kernel_rfl
theorem bs_token_Issue : loopsIn Try.f35 [] = [] := by kernel_rfl
theorem token_Issue_ok : Stands Try.prog tyTab 35 g_token_Issue := by
  refine stands3 (L := find []) (n := 0) (hints := []) (cx_ok rfl) rdy_token_Issue ⟨by kernel_rfl, by kernel_rfl, by kernel_rfl⟩ bs_token_Issue nilB (fun das r hG hr => ?_)
  unfold g_token_Issue at hG
  split at hG
  · rename_i a0n a0f a0 a1 a2 a3
    injection hG with hG; subst hG
    exact ⟨none, true, win default ((raw_token_Issue a0n a0f a0 a1 a2 a3).trans (DT.go_run _ _)) hr⟩
  · cases hG
noncomputable abbrev cx_law16_awake : Cx := mkCx2 tyTab [(29, g_token_May), (30, g_token_Find), (31, g_token_Join), (32, g_token_Leave), (33, g_token_Sweep), (35, g_token_Issue)] [] [] []
theorem rdy_law16_awake : Ready Try.prog tyTab [(29, g_token_May), (30, g_token_Find), (31, g_token_Join), (32, g_token_Leave), (33, g_token_Sweep), (35, g_token_Issue)] [] [] := ⟨consG2 token_May_ok (consG2 token_Find_ok (consG2 token_Join_ok (consG2 token_Leave_ok (consG2 token_Sweep_ok (consG2 token_Issue_ok (noneG2)))))), noneI2, noneF2⟩
structure S.law16_awake_T where
  x0 : Bool
  deriving Inhabited
noncomputable def S.law16_awake_R  : DT S.law16_awake_T :=
let y0 : S.token_Issue_T := S.token_Issue_o [] 7 1 3
let y1 : List (Ty ET.pass) := y0.x0
let y2 : List (Ty ET.pass) := (S.token_Leave_o y1 3 5).x0
let y3 : S.token_Join_T := S.token_Join_o y2 7 4 24
(.br (S.token_Issue_is [] 7 1 3)
(.br (S.token_Leave_is y1 3 5)
(.br (S.token_Join_is y2 7 4 24)
(.br (S.token_Join_is y2 7 4 25)
(.br (S.token_Sweep_is y2 25)
(.br (xeqI y0.x1 0)
(.br (xeqI y3.x2 0)
(.br (xeqI y3.x1 1)
(.br (xeqI (S.token_Join_o y2 7 4 25).x2 10)
(.br (xeqI (↑(S.token_Sweep_o y2 25).x1.length : Int) 1)
(.br (S.token_May_is y2)
(.br ((S.token_May_o y2).x0)
(.br (S.token_Find_is y2 3)
(.leaf ⟨xeqI (S.token_Find_o y2 3).x0 (-1)⟩)
.fail)
(.leaf ⟨false⟩))
.fail)
(.leaf ⟨false⟩))
(.leaf ⟨false⟩))
(.leaf ⟨false⟩))
(.leaf ⟨false⟩))
(.leaf ⟨false⟩))
.fail)
.fail)
.fail)
.fail)
.fail)
noncomputable def S.law16_awake  : Option S.law16_awake_T := (S.law16_awake_R ).run
noncomputable def S.law16_awake_is  : Bool := (S.law16_awake ).isSome
noncomputable def S.law16_awake_o  : S.law16_awake_T := (S.law16_awake ).getD default
noncomputable def ret_law16_awake (b : Bool) (r : S.law16_awake_T) : Ret := ⟨b, none, [(false, [C.d (D.sc (Sc.bool r.x0))])]⟩
noncomputable def g_law16_awake : Con
  | [] => some (ret_law16_awake (S.law16_awake_is ) (S.law16_awake_o ))
  | _ => none
theorem raw_law16_awake  : evR2 cx_law16_awake (hdI cx_law16_awake (find []) [] none 0) none Try.f28 28 none [] some = (S.law16_awake_R ).go (ret_law16_awake true) := by kernel_rfl
theorem bs_law16_awake : loopsIn Try.f28 [] = [] := by kernel_rfl
theorem law16_awake_ok : Stands Try.prog tyTab 28 g_law16_awake := by
  refine stands3 (L := find []) (n := 0) (hints := []) (cx_ok rfl) rdy_law16_awake ⟨by kernel_rfl, by kernel_rfl, by kernel_rfl⟩ bs_law16_awake nilB (fun das r hG hr => ?_)
  unfold g_law16_awake at hG
  split at hG
  · injection hG with hG; subst hG
    exact ⟨none, true, win default ((raw_law16_awake ).trans (DT.go_run _ _)) hr⟩
  · cases hG
end Go.Eng
