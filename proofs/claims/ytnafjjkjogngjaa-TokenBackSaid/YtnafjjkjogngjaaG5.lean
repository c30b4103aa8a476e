/- Contracts, laid by program. -/
import Derived.Test.YtnafjjkjogngjaaG4
set_option linter.unusedVariables false
set_option linter.unusedSimpArgs false
namespace Go.Eng
open Go Go.Eng Go.Proofs Go.Eng.Tab
noncomputable abbrev cx_law16_TokenSweeps : Cx := mkCx2 tyTab [(28, g_law16_awake), (33, g_token_Sweep), (34, g_ref16_Same)] [] [] []
theorem rdy_law16_TokenSweeps : Ready Try.prog tyTab [(28, g_law16_awake), (33, g_token_Sweep), (34, g_ref16_Same)] [] [] := ⟨consG2 law16_awake_ok (consG2 token_Sweep_ok (consG2 ref16_Same_ok (noneG2))), noneI2, noneF2⟩
structure S.law16_TokenSweeps_T where
  x0 : Bool
  deriving Inhabited
noncomputable def S.law16_TokenSweeps_R (a0 : List (Ty .pass)) (a1 : Int) (a2 : Int) : DT S.law16_TokenSweeps_T :=
let y0 : Int := (↑a0.length : Int)
let y1 : List (Ty ET.pass) := (S.token_Sweep_o a0 a1).x0
let y2 : S.token_Sweep_T := S.token_Sweep_o y1 a1
let y3 : List (Ty ET.pass) := y2.x0
let y4 : Int := (↑(S.token_Sweep_o a0 a1).x1.length : Int)
let y5 : Int := (↑(S.token_Sweep_o a0 a2).x1.length : Int)
(.br (S.law16_awake_is)
(.br (xnot S.law16_awake_o.x0)
(.leaf ⟨S.law16_awake_o.x0⟩)
(.br (xdec (y0 > 10))
(.leaf ⟨S.law16_awake_o.x0⟩)
(.br (xdec (a2 < a1))
(.leaf ⟨S.law16_awake_o.x0⟩)
(.br (S.token_Sweep_is a0 a1)
(.br (S.token_Sweep_is y1 a1)
(.br (S.token_Sweep_is a0 a2)
(.br (S.ref16_Same_is y1 y3)
(.br (xeqI (xwrap IntKind.i64 ((↑y1.length : Int) + y4)) y0)
(.br (xeqI (↑y2.x1.length : Int) 0)
(.br ((S.ref16_Same_o y1 y3).x0)
(.br (xeqI (xwrap IntKind.i64 ((↑(S.token_Sweep_o a0 a2).x0.length : Int) + y5)) y0)
(.leaf ⟨xdec (y5 ≥ y4)⟩)
(.leaf ⟨false⟩))
(.leaf ⟨false⟩))
(.leaf ⟨false⟩))
(.leaf ⟨false⟩))
.fail)
.fail)
.fail)
.fail))))
.fail)
noncomputable def S.law16_TokenSweeps (a0 : List (Ty .pass)) (a1 : Int) (a2 : Int) : Option S.law16_TokenSweeps_T := (S.law16_TokenSweeps_R a0 a1 a2).run
noncomputable def S.law16_TokenSweeps_is (a0 : List (Ty .pass)) (a1 : Int) (a2 : Int) : Bool := (S.law16_TokenSweeps a0 a1 a2).isSome
noncomputable def S.law16_TokenSweeps_o (a0 : List (Ty .pass)) (a1 : Int) (a2 : Int) : S.law16_TokenSweeps_T := (S.law16_TokenSweeps a0 a1 a2).getD default
noncomputable def ret_law16_TokenSweeps (b : Bool) (r : S.law16_TokenSweeps_T) : Ret := ⟨b, none, [(false, [C.d (D.sc (Sc.bool r.x0))])]⟩
noncomputable def g_law16_TokenSweeps : Con
  | [(false, [.sl a0n a0f .pass a0]), (false, [.sc (.int .i64 a1)]), (false, [.sc (.int .i64 a2)])] => some (ret_law16_TokenSweeps (S.law16_TokenSweeps_is a0 a1 a2) (S.law16_TokenSweeps_o a0 a1 a2))
  | _ => none
theorem raw_law16_TokenSweeps (a0n : Option Bool) (a0f : Bool) (a0 : List (Ty .pass)) (a1 : Int) (a2 : Int) : evR2 cx_law16_TokenSweeps (hdI cx_law16_TokenSweeps (find []) [] none 0) none Try.f11 11 none [(false, [.sl a0n a0f .pass a0]), (false, [.sc (.int .i64 a1)]), (false, [.sc (.int .i64 a2)])] some = (S.law16_TokenSweeps_R a0 a1 a2).go (ret_law16_TokenSweeps true) := by kernel_rfl
theorem bs_law16_TokenSweeps : loopsIn Try.f11 [] = [] := by kernel_rfl
theorem law16_TokenSweeps_ok : Stands Try.prog tyTab 11 g_law16_TokenSweeps := by
  refine stands3 (L := find []) (n := 0) (hints := []) (cx_ok rfl) rdy_law16_TokenSweeps ⟨by kernel_rfl, by kernel_rfl, by kernel_rfl⟩ bs_law16_TokenSweeps nilB (fun das r hG hr => ?_)
  unfold g_law16_TokenSweeps at hG
  split at hG
  · rename_i a0n a0f a0 a1 a2
    injection hG with hG; subst hG
    exact ⟨none, true, win default ((raw_law16_TokenSweeps a0n a0f a0 a1 a2).trans (DT.go_run _ _)) hr⟩
  · cases hG
noncomputable abbrev cx_law16_TokenLeaves : Cx := mkCx2 tyTab [(28, g_law16_awake), (29, g_token_May), (30, g_token_Find), (32, g_token_Leave), (34, g_ref16_Same)] [] [(12, 7, { keep := [0, 1, 2, 8, 9, 10], acc := [] })] []
theorem rdy_law16_TokenLeaves : Ready Try.prog tyTab [(28, g_law16_awake), (29, g_token_May), (30, g_token_Find), (32, g_token_Leave), (34, g_ref16_Same)] [] [] := ⟨consG2 law16_awake_ok (consG2 token_May_ok (consG2 token_Find_ok (consG2 token_Leave_ok (consG2 ref16_Same_ok (noneG2))))), noneI2, noneF2⟩
structure S.law16_TokenLeaves_7_V where
  t_10_0 : Int
noncomputable def S.law16_TokenLeaves_7_R (t_0_0 : List (Ty ET.pass)) (t_8_0 : List (Ty ET.pass)) (t_9_0 : Int) (v : S.law16_TokenLeaves_7_V) : DT (Option Nat × S.law16_TokenLeaves_7_V) :=
let y0 : Bool := xdec (v.t_10_0 < (↑t_0_0.length : Int))
let y1 : Bool := xdec (0 ≤ v.t_10_0)
let y2 : Bool := y1 && xdec (v.t_10_0 < (↑t_8_0.length : Int))
let y3 : Bool := y1 && y0
let y4 : Ty ET.pass := t_8_0.getD v.t_10_0.toNat (dflt ET.pass)
let y5 : Int := y4.token
let y6 : Ty ET.pass := t_0_0.getD v.t_10_0.toNat (dflt ET.pass)
let y7 : Int := y6.token
let y8 : Int := y4.sess
let y9 : Int := y6.sess
let y10 : Bool := xneI y5 y7
let y11 : Bool := xneI y8 y9
let y12 : Int := xwrap IntKind.i64 (v.t_10_0 + 1)
(.br (y0)
(.br (xneI v.t_10_0 t_9_0)
(.br (y2)
(.br (y3)
(.br (bif xeqI y5 y7 && (xeqI y8 y9 && (xeqI y4.conn y6.conn && xeqI y4.off y6.off)) then false else true)
(.leaf (some 0, v))
(.br (y2)
(.br (y3)
(.br (y10)
(.leaf (some 0, v))
(.br (y2)
(.br (y3)
(.br (y11)
(.leaf (some 0, v))
(.leaf (none, ⟨y12⟩)))
.fail)
.fail))
.fail)
.fail))
.fail)
.fail)
(.br (y2)
(.br (y3)
(.br (y10)
(.leaf (some 0, v))
(.br (y2)
(.br (y3)
(.br (y11)
(.leaf (some 0, v))
(.leaf (none, ⟨y12⟩)))
.fail)
.fail))
.fail)
.fail))
(.leaf (some 1, v)))
noncomputable def S.law16_TokenLeaves_7_r (t_0_0 : List (Ty ET.pass)) (t_8_0 : List (Ty ET.pass)) (t_9_0 : Int) (v : S.law16_TokenLeaves_7_V) : Option (Option Nat × S.law16_TokenLeaves_7_V) := (S.law16_TokenLeaves_7_R t_0_0 t_8_0 t_9_0 v).run
noncomputable def S.law16_TokenLeaves_7_j (t_0_0 : List (Ty ET.pass)) (t_8_0 : List (Ty ET.pass)) (t_9_0 : Int) (v : S.law16_TokenLeaves_7_V) (j : Nat) : Bool := Lp_j (S.law16_TokenLeaves_7_r t_0_0 t_8_0 t_9_0) v j
noncomputable def S.law16_TokenLeaves_7_v (t_0_0 : List (Ty ET.pass)) (t_8_0 : List (Ty ET.pass)) (t_9_0 : Int) (v : S.law16_TokenLeaves_7_V) : S.law16_TokenLeaves_7_V := Lp_v (S.law16_TokenLeaves_7_r t_0_0 t_8_0 t_9_0) v
noncomputable def mk_law16_TokenLeaves_7 (t_0_0n : Option Bool) (t_0_0f : Bool) (t_0_0 : List (Ty ET.pass)) (t_1_0 : Int) (t_2_0 : Int) (t_8_0 : List (Ty ET.pass)) (t_9_0 : Int) (v : S.law16_TokenLeaves_7_V) : St := ⟨[V.v false [C.d (D.sl t_0_0n t_0_0f ET.pass t_0_0)], V.v false [C.d (D.sc (Sc.int IntKind.i64 t_1_0))], V.v false [C.d (D.sc (Sc.int IntKind.i64 t_2_0))], V.any, V.any, V.any,
  V.any, V.any, V.v false [C.d (D.sl none false ET.pass t_8_0)], V.v false [C.d (D.sc (Sc.int IntKind.i64 t_9_0))], V.v false [C.d (D.sc (Sc.int IntKind.i64 v.t_10_0))], V.any,
  V.any, V.any, V.any, V.any, V.any, V.any, V.any, V.any, V.any, V.any, V.any, V.any, V.any, V.any, V.any, V.any, V.any, V.any, V.any, V.any, V.any, V.any, V.any, V.any, V.any,
  V.any, V.any, V.any, V.any, V.any, V.any, V.any, V.any, V.any, V.any, V.any, V.any, V.any, V.any, V.any, V.any, V.any, V.any, V.any, V.any, V.any, V.any, V.any, V.any, V.any,
  V.any, V.any, V.any, V.any, V.any, V.any, V.any, V.any, V.any, V.any, V.any, V.any, V.any, V.any, V.any, V.any, V.any, V.any, V.any, V.any, V.any, V.any, V.any, V.any, V.any,
  V.any, V.any, V.any, V.any, V.any, V.any, V.any, V.any, V.any, V.any, V.any, V.any, V.any, V.any, V.any, V.any, V.any, V.any, V.any, V.any, V.any, V.any, V.any, V.any, V.any], [none, none, none, none, none, none, none, none, none, none, none, none, none, none, none, none, none, none, none, none, none, none, none, none, none], 0⟩
noncomputable def ex_law16_TokenLeaves_7 (t_0_0n : Option Bool) (t_0_0f : Bool) (t_0_0 : List (Ty ET.pass)) (t_1_0 : Int) (t_2_0 : Int) (t_8_0 : List (Ty ET.pass)) (t_9_0 : Int) (j : Nat) (v : S.law16_TokenLeaves_7_V) : Ex × St := match j with
  | 0 => (Ex.ret, ⟨[V.v false [C.d (D.sl t_0_0n t_0_0f ET.pass t_0_0)], V.v false [C.d (D.sc (Sc.int IntKind.i64 t_1_0))], V.v false [C.d (D.sc (Sc.int IntKind.i64 t_2_0))], V.any, V.any, V.any,
  V.v false [C.d (D.sc (Sc.bool false))], V.any, V.v false [C.d (D.sl none false ET.pass t_8_0)], V.v false [C.d (D.sc (Sc.int IntKind.i64 t_9_0))], V.any, V.any, V.any, V.any,
  V.any, V.any, V.any, V.any, V.any, V.any, V.any, V.any, V.any, V.any, V.any, V.any, V.any, V.any, V.any, V.any, V.any, V.any, V.any, V.any, V.any, V.any, V.any, V.any, V.any,
  V.any, V.any, V.any, V.any, V.any, V.any, V.any, V.any, V.any, V.any, V.any, V.any, V.any, V.any, V.any, V.any, V.any, V.any, V.any, V.any, V.any, V.any, V.any, V.any, V.any,
  V.any, V.any, V.any, V.any, V.any, V.any, V.any, V.any, V.any, V.any, V.any, V.any, V.any, V.any, V.any, V.any, V.any, V.any, V.any, V.any, V.any, V.any, V.any, V.any, V.any,
  V.any, V.any, V.any, V.any, V.any, V.any, V.any, V.any, V.any, V.any, V.any, V.any, V.any, V.any, V.any, V.any, V.any, V.any, V.any, V.any, V.any, V.any, V.any], [none, none, none, none, none, none, none, none, none, none, none, none, none, none, none, none, none, none, none, none, none, none, none, none, none, none, none, none, none, none,
  none, none, none, none, none, none, none, none, none, none, none, none, none, none, none, none, none, none, none, none, none, none, none, none, none, none, none, none, none,
  none, none, none, none, none, none, none, none, none, none, none], 0⟩)
  | 1 => (Ex.exit 0, ⟨[V.v false [C.d (D.sl t_0_0n t_0_0f ET.pass t_0_0)], V.v false [C.d (D.sc (Sc.int IntKind.i64 t_1_0))], V.v false [C.d (D.sc (Sc.int IntKind.i64 t_2_0))], V.any, V.any, V.any,
  V.any, V.any, V.v false [C.d (D.sl none false ET.pass t_8_0)], V.v false [C.d (D.sc (Sc.int IntKind.i64 t_9_0))], V.any, V.any, V.any, V.any, V.any, V.any, V.any, V.any, V.any,
  V.any, V.any, V.any, V.any, V.any, V.any, V.any, V.any, V.any, V.any, V.any, V.any, V.any, V.any, V.any, V.any, V.any, V.any, V.any, V.any, V.any, V.any, V.any, V.any, V.any,
  V.any, V.any, V.any, V.any, V.any, V.any, V.any, V.any, V.any, V.any, V.any, V.any, V.any, V.any, V.any, V.any, V.any, V.any, V.any, V.any, V.any, V.any, V.any, V.any, V.any,
  V.any, V.any, V.any, V.any, V.any, V.any, V.any, V.any, V.any, V.any, V.any, V.any, V.any, V.any, V.any, V.any, V.any, V.any, V.any, V.any, V.any, V.any, V.any, V.any, V.any,
  V.any, V.any, V.any, V.any, V.any, V.any, V.any, V.any, V.any, V.any, V.any, V.any, V.any, V.any, V.any, V.any, V.any, V.any], [none, none, none, none, none, none, none, none, none, none, none, none, none, none, none, none, none, none, none, none, none, none, none, none, none, none, none, none, none], 0⟩)
  | _ => (.ret, ⟨[], [], 0⟩)
noncomputable def T1_law16_TokenLeaves_7 : V → V → V → V → V → V → Tree
  | V.v false [C.d (D.sl t_0_0n t_0_0f ET.pass t_0_0)], V.v false [C.d (D.sc (Sc.int IntKind.i64 t_1_0))], V.v false [C.d (D.sc (Sc.int IntKind.i64 t_2_0))], V.v false [C.d (D.sl none false ET.pass t_8_0)], V.v false [C.d (D.sc (Sc.int IntKind.i64 t_9_0))], V.v false [C.d (D.sc (Sc.int IntKind.i64 t_10_0))] => exT (fun j => ex_law16_TokenLeaves_7 t_0_0n t_0_0f t_0_0 t_1_0 t_2_0 t_8_0 t_9_0 j (S.law16_TokenLeaves_7_v t_0_0 t_8_0 t_9_0 ⟨t_10_0⟩)) (S.law16_TokenLeaves_7_j t_0_0 t_8_0 t_9_0 ⟨t_10_0⟩) [0, 1]
  | _, _, _, _, _, _ => .bad
noncomputable def T_law16_TokenLeaves_7 (st : St) : Tree := bif okSt 112 25 0 [] st then T1_law16_TokenLeaves_7 (st.env.getD 0 .any) (st.env.getD 1 .any) (st.env.getD 2 .any) (st.env.getD 8 .any) (st.env.getD 9 .any) (st.env.getD 10 .any) else .bad
noncomputable def b_law16_TokenLeaves_7 : Code := loopBy Try.f12 7
theorem rnd_law16_TokenLeaves_7 (t_0_0n : Option Bool) (t_0_0f : Bool) (t_0_0 : List (Ty ET.pass)) (t_1_0 : Int) (t_2_0 : Int) (t_8_0 : List (Ty ET.pass)) (t_9_0 : Int) (v : S.law16_TokenLeaves_7_V) : round2 cx_law16_TokenLeaves (hdI cx_law16_TokenLeaves (find []) [] none 0) 12 b_law16_TokenLeaves_7 [] 25 [0, 1, 2, 6, 8, 9] (mk_law16_TokenLeaves_7 t_0_0n t_0_0f t_0_0 t_1_0 t_2_0 t_8_0 t_9_0 v) = (S.law16_TokenLeaves_7_R t_0_0 t_8_0 t_9_0 v).go (roundOut (mk_law16_TokenLeaves_7 t_0_0n t_0_0f t_0_0 t_1_0 t_2_0 t_8_0 t_9_0) (ex_law16_TokenLeaves_7 t_0_0n t_0_0f t_0_0 t_1_0 t_2_0 t_8_0 t_9_0)) := by kernel_rfl
theorem bs_law16_TokenLeaves_7 : loopsOf b_law16_TokenLeaves_7 ++ loopsInl [] = [] := by kernel_rfl
theorem ci_law16_TokenLeaves_7 (t_0_0n : Option Bool) (t_0_0f : Bool) (t_0_0 : List (Ty ET.pass)) (t_1_0 : Int) (t_2_0 : Int) (t_8_0 : List (Ty ET.pass)) (t_9_0 : Int) : ∀ v j v2, Lp (S.law16_TokenLeaves_7_r t_0_0 t_8_0 t_9_0) v = some (j, v2) → Circles Try.prog cx_law16_TokenLeaves b_law16_TokenLeaves_7 (mk_law16_TokenLeaves_7 t_0_0n t_0_0f t_0_0 t_1_0 t_2_0 t_8_0 t_9_0 v) (ex_law16_TokenLeaves_7 t_0_0n t_0_0f t_0_0 t_1_0 t_2_0 t_8_0 t_9_0 j v2).1 (ex_law16_TokenLeaves_7 t_0_0n t_0_0f t_0_0 t_1_0 t_2_0 t_8_0 t_9_0 j v2).2 :=
  loop_ok2 (L := find []) (n := 0) (hints := [(12, 7, { keep := [0, 1, 2, 8, 9, 10], acc := [] })]) (cx_ok rfl) rdy_law16_TokenLeaves bs_law16_TokenLeaves_7 nilB (fun v => (rnd_law16_TokenLeaves_7 t_0_0n t_0_0f t_0_0 t_1_0 t_2_0 t_8_0 t_9_0 v).trans (DT.go_run _ _)) (by intro j v; unfold ex_law16_TokenLeaves_7; split <;> rfl)
theorem mke_law16_TokenLeaves_7 (t_0_0n : Option Bool) (t_0_0f : Bool) (t_0_0 : List (Ty ET.pass)) (t_1_0 : Int) (t_2_0 : Int) (t_8_0 : List (Ty ET.pass)) (t_9_0 : Int) (v : S.law16_TokenLeaves_7_V) : mk_law16_TokenLeaves_7 t_0_0n t_0_0f t_0_0 t_1_0 t_2_0 t_8_0 t_9_0 v = ⟨envOf 112 [(0, V.v false [C.d (D.sl t_0_0n t_0_0f ET.pass t_0_0)]), (1, V.v false [C.d (D.sc (Sc.int IntKind.i64 t_1_0))]), (2, V.v false [C.d (D.sc (Sc.int IntKind.i64 t_2_0))]), (8, V.v false [C.d (D.sl none false ET.pass t_8_0)]), (9, V.v false [C.d (D.sc (Sc.int IntKind.i64 t_9_0))]), (10, V.v false [C.d (D.sc (Sc.int IntKind.i64 v.t_10_0))])], heapOf 25 [], 0⟩ := by kernel_rfl
theorem lo1_law16_TokenLeaves_7 (e0 : V) (e1 : V) (e2 : V) (e8 : V) (e9 : V) (e10 : V)  e st2 (h : (T1_law16_TokenLeaves_7 e0 e1 e2 e8 e9 e10).eval = some (e, st2)) : Circles Try.prog cx_law16_TokenLeaves b_law16_TokenLeaves_7 ⟨envOf 112 [(0, e0), (1, e1), (2, e2), (8, e8), (9, e9), (10, e10)], heapOf 25 [], 0⟩ e st2 := by
  unfold T1_law16_TokenLeaves_7 at h
  split at h
  · have := loop_tree (mk := mk_law16_TokenLeaves_7 _ _ _ _ _ _ _) (ci_law16_TokenLeaves_7 _ _ _ _ _ _ _) _ _ e st2 h
    rw [mke_law16_TokenLeaves_7] at this
    exact this
  · cases h
theorem lok_law16_TokenLeaves_7 : LoopOk Try.prog cx_law16_TokenLeaves b_law16_TokenLeaves_7 T_law16_TokenLeaves_7 := by
  intro st e st2 h
  unfold T_law16_TokenLeaves_7 at h
  cases hk : okSt 112 25 0 [] st with
  | false => rw [hk] at h; cases h
  | true =>
    rw [hk] at h
    exact circles_keep (ks := [0, 1, 2, 8, 9, 10]) hk (lo1_law16_TokenLeaves_7 _ _ _ _ _ _ e st2 h)
structure S.law16_TokenLeaves_T where
  x0 : Bool
  deriving Inhabited
noncomputable def S.law16_TokenLeaves_R (a0 : List (Ty .pass)) (a1 : Int) (a2 : Int) : DT S.law16_TokenLeaves_T :=
let y0 : Int := (↑a0.length : Int)
let y1 : List (Ty ET.pass) := (S.token_Leave_o a0 a1 a2).x0
let y2 : Int := (S.token_Find_o a0 a1).x0
let y3 : S.law16_TokenLeaves_7_V := { t_10_0 := 0 : S.law16_TokenLeaves_7_V }
let y4 : Int := xwrap IntKind.i64 (a2 + 1)
let y5 : List (Ty ET.pass) := (S.token_Leave_o y1 a1 y4).x0
let y6 : Int := (↑y1.length : Int)
let y7 : Int := -1
(.br (S.law16_awake_is)
(.br (xnot S.law16_awake_o.x0)
(.leaf ⟨S.law16_awake_o.x0⟩)
(.br (xdec (y0 > 10))
(.leaf ⟨S.law16_awake_o.x0⟩)
(.br (S.token_May_is a0)
(.br (xnot (S.token_May_o a0).x0)
(.leaf ⟨S.law16_awake_o.x0⟩)
(.br (S.token_Leave_is a0 a1 a2)
(.br (S.token_Find_is a0 a1)
(.br (S.law16_TokenLeaves_7_j a0 y1 y2 y3 0)
(.leaf ⟨false⟩)
(.br (S.law16_TokenLeaves_7_j a0 y1 y2 y3 1)
(.br (S.token_Leave_is y1 a1 y4)
(.br (S.ref16_Same_is y5 y1)
(.br (xeqI y6 y0)
(.br ((S.ref16_Same_o y5 y1).x0)
(.br (S.token_Find_is y1 a1)
(.br (xeqI (S.token_Find_o y1 a1).x0 y7)
(.br (xdec (y2 < 0))
(.leaf ⟨true⟩)
(.br (xdec (0 ≤ y2) && xdec (y2 < y6))
(.leaf ⟨xeqI (y1.getD y2.toNat (dflt ET.pass)).conn y7⟩)
.fail))
(.leaf ⟨false⟩))
.fail)
(.leaf ⟨false⟩))
(.leaf ⟨false⟩))
.fail)
.fail)
.fail))
.fail)
.fail))
.fail)))
.fail)
noncomputable def S.law16_TokenLeaves (a0 : List (Ty .pass)) (a1 : Int) (a2 : Int) : Option S.law16_TokenLeaves_T := (S.law16_TokenLeaves_R a0 a1 a2).run
noncomputable def S.law16_TokenLeaves_is (a0 : List (Ty .pass)) (a1 : Int) (a2 : Int) : Bool := (S.law16_TokenLeaves a0 a1 a2).isSome
noncomputable def S.law16_TokenLeaves_o (a0 : List (Ty .pass)) (a1 : Int) (a2 : Int) : S.law16_TokenLeaves_T := (S.law16_TokenLeaves a0 a1 a2).getD default
noncomputable def ret_law16_TokenLeaves (b : Bool) (r : S.law16_TokenLeaves_T) : Ret := ⟨b, none, [(false, [C.d (D.sc (Sc.bool r.x0))])]⟩
noncomputable def g_law16_TokenLeaves : Con
  | [(false, [.sl a0n a0f .pass a0]), (false, [.sc (.int .i64 a1)]), (false, [.sc (.int .i64 a2)])] => some (ret_law16_TokenLeaves (S.law16_TokenLeaves_is a0 a1 a2) (S.law16_TokenLeaves_o a0 a1 a2))
  | _ => none
theorem raw_law16_TokenLeaves (a0n : Option Bool) (a0f : Bool) (a0 : List (Ty .pass)) (a1 : Int) (a2 : Int) : evR2 cx_law16_TokenLeaves (hdI cx_law16_TokenLeaves (find [(7, T_law16_TokenLeaves_7)]) [] none 0) none Try.f12 12 none [(false, [.sl a0n a0f .pass a0]), (false, [.sc (.int .i64 a1)]), (false, [.sc (.int .i64 a2)])] some = (S.law16_TokenLeaves_R a0 a1 a2).go (ret_law16_TokenLeaves true) := by kernel_rfl
theorem bs_law16_TokenLeaves : loopsIn Try.f12 [] = [b_law16_TokenLeaves_7] := by kernel_rfl
theorem law16_TokenLeaves_ok : Stands Try.prog tyTab 12 g_law16_TokenLeaves := by
  refine stands3 (L := find [(7, T_law16_TokenLeaves_7)]) (n := 0) (hints := [(12, 7, { keep := [0, 1, 2, 8, 9, 10], acc := [] })]) (cx_ok rfl) rdy_law16_TokenLeaves ⟨by kernel_rfl, by kernel_rfl, by kernel_rfl⟩ bs_law16_TokenLeaves (consB (fun T h => by have e : T_law16_TokenLeaves_7 = T := Option.some.inj (show some T_law16_TokenLeaves_7 = some T from h); exact e ▸ lok_law16_TokenLeaves_7) nilB) (fun das r hG hr => ?_)
  unfold g_law16_TokenLeaves at hG
  split at hG
  · rename_i a0n a0f a0 a1 a2
    injection hG with hG; subst hG
    exact ⟨none, true, win default ((raw_law16_TokenLeaves a0n a0f a0 a1 a2).trans (DT.go_run _ _)) hr⟩
  · cases hG
noncomputable abbrev cx_law16_TokenMay : Cx := mkCx2 tyTab [(28, g_law16_awake), (29, g_token_May), (31, g_token_Join), (32, g_token_Leave), (33, g_token_Sweep), (35, g_token_Issue), (36, g_token_Drop)] [] [] []
theorem rdy_law16_TokenMay : Ready Try.prog tyTab [(28, g_law16_awake), (29, g_token_May), (31, g_token_Join), (32, g_token_Leave), (33, g_token_Sweep), (35, g_token_Issue), (36, g_token_Drop)] [] [] := ⟨consG2 law16_awake_ok (consG2 token_May_ok (consG2 token_Join_ok (consG2 token_Leave_ok (consG2 token_Sweep_ok (consG2 token_Issue_ok (consG2 token_Drop_ok (noneG2))))))), noneI2, noneF2⟩
structure S.law16_TokenMay_T where
  x0 : Bool
  deriving Inhabited
noncomputable def S.law16_TokenMay_R (a0 : List (Ty .pass)) (a1 : Int) (a2 : Int) (a3 : Int) (a4 : Int) : DT S.law16_TokenMay_T :=
let y0 : S.token_Issue_T := S.token_Issue_o a0 a1 a2 a3
let y1 : S.token_Join_T := S.token_Join_o a0 a1 a3 a4
let y2 : Bool := xneI y1.x2 0
let y3 : List (Ty ET.pass) := (S.token_Sweep_o a0 a4).x0
let y4 : Bool := S.token_May_is y3
let y5 : Bool := (S.token_May_o y3).x0
let y6 : Bool := S.token_Leave_is a0 a3 a4
let y7 : List (Ty ET.pass) := (S.token_Leave_o a0 a3 a4).x0
let y8 : Bool := S.token_May_is y7
let y9 : Bool := (S.token_May_o y7).x0
let y10 : List (Ty ET.pass) := (S.token_Drop_o a0 a2).x0
let y11 : Bool := S.token_May_is y10
let y12 : Bool := (S.token_May_o y10).x0
let y13 : List (Ty ET.pass) := y1.x0
let y14 : Bool := S.token_May_is y13
let y15 : Bool := (S.token_May_o y13).x0
let y16 : List (Ty ET.pass) := y0.x0
(.br (S.law16_awake_is)
(.br (xnot S.law16_awake_o.x0)
(.leaf ⟨S.law16_awake_o.x0⟩)
(.br (xdec ((↑a0.length : Int) > 10))
(.leaf ⟨S.law16_awake_o.x0⟩)
(.br (S.token_May_is a0)
(.br (xnot (S.token_May_o a0).x0)
(.leaf ⟨S.law16_awake_o.x0⟩)
(.br (S.token_Issue_is a0 a1 a2 a3)
(.br (S.token_Join_is a0 a1 a3 a4)
(.br (S.token_Sweep_is a0 a4)
(.br (xneI y0.x1 0)
(.br (y2)
(.br (y4)
(.br (y5)
(.br (y6)
(.br (y8)
(.br (y9)
(.br (S.token_Drop_is a0 a2)
(.br (y11)
(.leaf ⟨y12⟩)
.fail)
.fail)
(.leaf ⟨false⟩))
.fail)
.fail)
(.leaf ⟨false⟩))
.fail)
(.br (y14)
(.br (y15)
(.br (y4)
(.br (y5)
(.br (y6)
(.br (y8)
(.br (y9)
(.br (S.token_Drop_is a0 a2)
(.br (y11)
(.leaf ⟨y12⟩)
.fail)
.fail)
(.leaf ⟨false⟩))
.fail)
.fail)
(.leaf ⟨false⟩))
.fail)
(.leaf ⟨false⟩))
.fail))
(.br (S.token_May_is y16)
(.br ((S.token_May_o y16).x0)
(.br (y2)
(.br (y4)
(.br (y5)
(.br (y6)
(.br (y8)
(.br (y9)
(.br (S.token_Drop_is a0 a2)
(.br (y11)
(.leaf ⟨y12⟩)
.fail)
.fail)
(.leaf ⟨false⟩))
.fail)
.fail)
(.leaf ⟨false⟩))
.fail)
(.br (y14)
(.br (y15)
(.br (y4)
(.br (y5)
(.br (y6)
(.br (y8)
(.br (y9)
(.br (S.token_Drop_is a0 a2)
(.br (y11)
(.leaf ⟨y12⟩)
.fail)
.fail)
(.leaf ⟨false⟩))
.fail)
.fail)
(.leaf ⟨false⟩))
.fail)
(.leaf ⟨false⟩))
.fail))
(.leaf ⟨false⟩))
.fail))
.fail)
.fail)
.fail))
.fail)))
.fail)
noncomputable def S.law16_TokenMay (a0 : List (Ty .pass)) (a1 : Int) (a2 : Int) (a3 : Int) (a4 : Int) : Option S.law16_TokenMay_T := (S.law16_TokenMay_R a0 a1 a2 a3 a4).run
noncomputable def S.law16_TokenMay_is (a0 : List (Ty .pass)) (a1 : Int) (a2 : Int) (a3 : Int) (a4 : Int) : Bool := (S.law16_TokenMay a0 a1 a2 a3 a4).isSome
noncomputable def S.law16_TokenMay_o (a0 : List (Ty .pass)) (a1 : Int) (a2 : Int) (a3 : Int) (a4 : Int) : S.law16_TokenMay_T := (S.law16_TokenMay a0 a1 a2 a3 a4).getD default
noncomputable def ret_law16_TokenMay (b : Bool) (r : S.law16_TokenMay_T) : Ret := ⟨b, none, [(false, [C.d (D.sc (Sc.bool r.x0))])]⟩
noncomputable def g_law16_TokenMay : Con
  | [(false, [.sl a0n a0f .pass a0]), (false, [.sc (.int .u64 a1)]), (false, [.sc (.int .i64 a2)]), (false, [.sc (.int .i64 a3)]), (false, [.sc (.int .i64 a4)])] => some (ret_law16_TokenMay (S.law16_TokenMay_is a0 a1 a2 a3 a4) (S.law16_TokenMay_o a0 a1 a2 a3 a4))
  | _ => none
theorem raw_law16_TokenMay (a0n : Option Bool) (a0f : Bool) (a0 : List (Ty .pass)) (a1 : Int) (a2 : Int) (a3 : Int) (a4 : Int) : evR2 cx_law16_TokenMay (hdI cx_law16_TokenMay (find []) [] none 0) none Try.f13 13 none [(false, [.sl a0n a0f .pass a0]), (false, [.sc (.int .u64 a1)]), (false, [.sc (.int .i64 a2)]), (false, [.sc (.int .i64 a3)]), (false, [.sc (.int .i64 a4)])] some = (S.law16_TokenMay_R a0 a1 a2 a3 a4).go (ret_law16_TokenMay true) := by kernel_rfl
theorem bs_law16_TokenMay : loopsIn Try.f13 [] = [] := by kernel_rfl
theorem law16_TokenMay_ok : Stands Try.prog tyTab 13 g_law16_TokenMay := by
  refine stands3 (L := find []) (n := 0) (hints := []) (cx_ok rfl) rdy_law16_TokenMay ⟨by kernel_rfl, by kernel_rfl, by kernel_rfl⟩ bs_law16_TokenMay nilB (fun das r hG hr => ?_)
  unfold g_law16_TokenMay at hG
  split at hG
  · rename_i a0n a0f a0 a1 a2 a3 a4
    injection hG with hG; subst hG
    exact ⟨none, true, win default ((raw_law16_TokenMay a0n a0f a0 a1 a2 a3 a4).trans (DT.go_run _ _)) hr⟩
  · cases hG
noncomputable abbrev cx_law16_TokenIssues : Cx := mkCx2 tyTab [(28, g_law16_awake), (29, g_token_May), (30, g_token_Find), (31, g_token_Join), (32, g_token_Leave), (34, g_ref16_Same), (35, g_token_Issue), (36, g_token_Drop)] [] [] []
theorem rdy_law16_TokenIssues : Ready Try.prog tyTab [(28, g_law16_awake), (29, g_token_May), (30, g_token_Find), (31, g_token_Join), (32, g_token_Leave), (34, g_ref16_Same), (35, g_token_Issue), (36, g_token_Drop)] [] [] := ⟨consG2 law16_awake_ok (consG2 token_May_ok (consG2 token_Find_ok (consG2 token_Join_ok (consG2 token_Leave_ok (consG2 ref16_Same_ok (consG2 token_Issue_ok (consG2 token_Drop_ok (noneG2)))))))), noneI2, noneF2⟩
structure S.law16_TokenIssues_T where
  x0 : Bool
  deriving Inhabited
noncomputable def S.law16_TokenIssues_R (a0 : List (Ty .pass)) (a1 : Int) (a2 : Int) (a3 : Int) : DT S.law16_TokenIssues_T :=
let y0 : Int := (↑a0.length : Int)
let y1 : S.token_Issue_T := S.token_Issue_o a0 a1 a2 a3
let y2 : List (Ty ET.pass) := y1.x0
let y3 : Int := (↑y2.length : Int)
let y4 : Int := xwrap IntKind.i64 (a2 + 1)
let y5 : Int := xwrap IntKind.i64 (a3 + 1)
let y6 : List (Ty ET.pass) := (S.token_Leave_o y2 a3 3).x0
let y7 : S.token_Join_T := S.token_Join_o y6 a1 a3 4
let y8 : List (Ty ET.pass) := y7.x0
let y9 : List (Ty ET.pass) := (S.token_Drop_o y2 a2).x0
(.br (S.law16_awake_is)
(.br (xnot S.law16_awake_o.x0)
(.leaf ⟨S.law16_awake_o.x0⟩)
(.br (xdec (y0 > 10))
(.leaf ⟨S.law16_awake_o.x0⟩)
(.br (S.token_May_is a0)
(.br (xnot (S.token_May_o a0).x0)
(.leaf ⟨S.law16_awake_o.x0⟩)
(.br (S.token_Issue_is a0 a1 a2 a3)
(.br (xneI y1.x1 0)
(.leaf ⟨xeqI y3 0⟩)
(.br (S.token_Issue_is y2 a1 y4 y5)
(.br (S.token_Leave_is y2 a3 3)
(.br (S.token_Join_is y6 a1 a3 4)
(.br (S.ref16_Same_is y8 y2)
(.br (S.token_Drop_is y2 a2)
(.br (S.ref16_Same_is y9 a0)
(.br (S.token_Find_is y2 a3)
(.br (xeqI (S.token_Find_o y2 a3).x0 y0)
(.br (xneI (S.token_Issue_o y2 a1 y4 y5).x1 0)
(.br (xeqI y7.x2 0)
(.br (xeqI y7.x1 a2)
(.br ((S.ref16_Same_o y8 y2).x0)
(.br ((S.ref16_Same_o y9 a0).x0)
(.leaf ⟨xdec (y3 ≤ 4)⟩)
(.leaf ⟨false⟩))
(.leaf ⟨false⟩))
(.leaf ⟨false⟩))
(.leaf ⟨false⟩))
(.leaf ⟨false⟩))
(.leaf ⟨false⟩))
.fail)
.fail)
.fail)
.fail)
.fail)
.fail)
.fail))
.fail))
.fail)))
.fail)
noncomputable def S.law16_TokenIssues (a0 : List (Ty .pass)) (a1 : Int) (a2 : Int) (a3 : Int) : Option S.law16_TokenIssues_T := (S.law16_TokenIssues_R a0 a1 a2 a3).run
noncomputable def S.law16_TokenIssues_is (a0 : List (Ty .pass)) (a1 : Int) (a2 : Int) (a3 : Int) : Bool := (S.law16_TokenIssues a0 a1 a2 a3).isSome
noncomputable def S.law16_TokenIssues_o (a0 : List (Ty .pass)) (a1 : Int) (a2 : Int) (a3 : Int) : S.law16_TokenIssues_T := (S.law16_TokenIssues a0 a1 a2 a3).getD default
noncomputable def ret_law16_TokenIssues (b : Bool) (r : S.law16_TokenIssues_T) : Ret := ⟨b, none, [(false, [C.d (D.sc (Sc.bool r.x0))])]⟩
noncomputable def g_law16_TokenIssues : Con
  | [(false, [.sl a0n a0f .pass a0]), (false, [.sc (.int .u64 a1)]), (false, [.sc (.int .i64 a2)]), (false, [.sc (.int .i64 a3)])] => some (ret_law16_TokenIssues (S.law16_TokenIssues_is a0 a1 a2 a3) (S.law16_TokenIssues_o a0 a1 a2 a3))
  | _ => none
theorem raw_law16_TokenIssues (a0n : Option Bool) (a0f : Bool) (a0 : List (Ty .pass)) (a1 : Int) (a2 : Int) (a3 : Int) : evR2 cx_law16_TokenIssues (hdI cx_law16_TokenIssues (find []) [] none 0) none Try.f14 14 none [(false, [.sl a0n a0f .pass a0]), (false, [.sc (.int .u64 a1)]), (false, [.sc (.int .i64 a2)]), (false, [.sc (.int .i64 a3)])] some = (S.law16_TokenIssues_R a0 a1 a2 a3).go (ret_law16_TokenIssues true) := by kernel_rfl
theorem bs_law16_TokenIssues : loopsIn Try.f14 [] = [] := by kernel_rfl
theorem law16_TokenIssues_ok : Stands Try.prog tyTab 14 g_law16_TokenIssues := by
  refine stands3 (L := find []) (n := 0) (hints := []) (cx_ok rfl) rdy_law16_TokenIssues ⟨by kernel_rfl, by kernel_rfl, by kernel_rfl⟩ bs_law16_TokenIssues nilB (fun das r hG hr => ?_)
  unfold g_law16_TokenIssues at hG
  split at hG
  · rename_i a0n a0f a0 a1 a2 a3
    injection hG with hG; subst hG
    exact ⟨none, true, win default ((raw_law16_TokenIssues a0n a0f a0 a1 a2 a3).trans (DT.go_run _ _)) hr⟩
  · cases hG
noncomputable abbrev cx_law16_TokenBack : Cx := mkCx2 tyTab [(28, g_law16_awake), (29, g_token_May), (30, g_token_Find), (31, g_token_Join), (32, g_token_Leave)] [] [(10, 13, { keep := [0, 2, 3, 5, 18, 22], acc := [] })] []
theorem rdy_law16_TokenBack : Ready Try.prog tyTab [(28, g_law16_awake), (29, g_token_May), (30, g_token_Find), (31, g_token_Join), (32, g_token_Leave)] [] [] := ⟨consG2 law16_awake_ok (consG2 token_May_ok (consG2 token_Find_ok (consG2 token_Join_ok (consG2 token_Leave_ok (noneG2))))), noneI2, noneF2⟩
structure S.law16_TokenBack_13_V where
  t_22_0 : Int
noncomputable def S.law16_TokenBack_13_R (t_0_0 : List (Ty ET.pass)) (t_2_0 : Int) (v : S.law16_TokenBack_13_V) : DT (Option Nat × S.law16_TokenBack_13_V) :=
let y0 : Bool := xdec (v.t_22_0 < (↑t_0_0.length : Int))
(.br (y0)
(.br (xdec (0 ≤ v.t_22_0) && y0)
(.br (xeqI (t_0_0.getD v.t_22_0.toNat (dflt ET.pass)).token t_2_0)
(.leaf (some 0, v))
(.leaf (none, ⟨xwrap IntKind.i64 (v.t_22_0 + 1)⟩)))
.fail)
(.leaf (some 1, v)))
noncomputable def S.law16_TokenBack_13_r (t_0_0 : List (Ty ET.pass)) (t_2_0 : Int) (v : S.law16_TokenBack_13_V) : Option (Option Nat × S.law16_TokenBack_13_V) := (S.law16_TokenBack_13_R t_0_0 t_2_0 v).run
noncomputable def S.law16_TokenBack_13_j (t_0_0 : List (Ty ET.pass)) (t_2_0 : Int) (v : S.law16_TokenBack_13_V) (j : Nat) : Bool := Lp_j (S.law16_TokenBack_13_r t_0_0 t_2_0) v j
noncomputable def S.law16_TokenBack_13_v (t_0_0 : List (Ty ET.pass)) (t_2_0 : Int) (v : S.law16_TokenBack_13_V) : S.law16_TokenBack_13_V := Lp_v (S.law16_TokenBack_13_r t_0_0 t_2_0) v
noncomputable def mk_law16_TokenBack_13 (t_0_0n : Option Bool) (t_0_0f : Bool) (t_0_0 : List (Ty ET.pass)) (t_2_0 : Int) (t_3_0 : Int) (t_5_0 : Int) (t_18_0 : List (Ty ET.pass)) (h_60_0 : Int) (h_60_1 : Int) (h_60_2 : Int) (h_60_3 : Int) (v : S.law16_TokenBack_13_V) : St := ⟨[V.v false [C.d (D.sl t_0_0n t_0_0f ET.pass t_0_0)], V.any, V.v false [C.d (D.sc (Sc.int IntKind.u64 t_2_0))], V.v false [C.d (D.sc (Sc.int IntKind.i64 t_3_0))], V.any,
  V.v false [C.d (D.sc (Sc.int IntKind.i64 t_5_0))], V.any, V.any, V.any, V.any, V.any, V.any, V.any, V.any, V.any, V.any, V.any, V.any,
  V.v false [C.d (D.sl none false ET.pass t_18_0)], V.any, V.any, V.any, V.v false [C.d (D.sc (Sc.int IntKind.i64 v.t_22_0))], V.any, V.any, V.any, V.any, V.any, V.any, V.any,
  V.any, V.any, V.any, V.any, V.any, V.any, V.any, V.any, V.any, V.any, V.any, V.any, V.any, V.any, V.any, V.any, V.any, V.any, V.any, V.any, V.any, V.any, V.any, V.any, V.any,
  V.any, V.any, V.any, V.any, V.any, V.any, V.any, V.any, V.any, V.any, V.any, V.any, V.any, V.any, V.any, V.any, V.any, V.any, V.any, V.any, V.any, V.any, V.any, V.any, V.any,
  V.any, V.any, V.any, V.any, V.any, V.any, V.any, V.any, V.any, V.any, V.any, V.any, V.any, V.any, V.any, V.any, V.any, V.any, V.any, V.any, V.any, V.any, V.any, V.any, V.any,
  V.any, V.any, V.any, V.any, V.any, V.any, V.any, V.any, V.any, V.any, V.any, V.any, V.any, V.any, V.any, V.any, V.any, V.any, V.any, V.any, V.any, V.any, V.any, V.any, V.any,
  V.any, V.any, V.any, V.any, V.any, V.any, V.any, V.any, V.any, V.any, V.any, V.any, V.any, V.any, V.any, V.any, V.any, V.any, V.any, V.any, V.any, V.any, V.any, V.any, V.any,
  V.any, V.any, V.any, V.any, V.any, V.any, V.any, V.any, V.any, V.any, V.any, V.any, V.any, V.any, V.any, V.any, V.any, V.any, V.any, V.any], [none, none, none, none, none, none, none, none, none, none, none, none, none, none, none, none, none, none, none, none, none, none, none, none, none, none, none, none, none, none,
  none, none, none, none, none, none, none, none, none, none, none, none, none, none, none, none, none, none, none, none, none, none, none, none, none, none, none, none, none,
  none,
  some
    (Blk.box 46 [C.d (D.sc (Sc.int IntKind.u64 h_60_0)), C.d (D.sc (Sc.int IntKind.i64 h_60_1)), C.d (D.sc (Sc.int IntKind.i64 h_60_2)), C.d (D.sc (Sc.int IntKind.i64 h_60_3))]),
  none, none, none, none, none, none, none, none, none, none, none, none, none, none, none, none, none, none, none, none, none, none, none, none, none, none, none, none, none,
  none, none, none, none, none, none, none, none, none, none, none, none, none, none, none, none, none, none, none, none, none, none, none, none, none, none, none, none, none,
  none, none, none, none, none, none, none, none, none, none, none, none, none, none, none, none, none], 0⟩
noncomputable def ex_law16_TokenBack_13 (t_0_0n : Option Bool) (t_0_0f : Bool) (t_0_0 : List (Ty ET.pass)) (t_2_0 : Int) (t_3_0 : Int) (t_5_0 : Int) (t_18_0 : List (Ty ET.pass)) (h_60_0 : Int) (h_60_1 : Int) (h_60_2 : Int) (h_60_3 : Int) (j : Nat) (v : S.law16_TokenBack_13_V) : Ex × St := match j with
  | 0 => (Ex.ret, ⟨[V.any, V.any, V.v false [C.d (D.sc (Sc.int IntKind.u64 t_2_0))], V.v false [C.d (D.sc (Sc.int IntKind.i64 t_3_0))], V.any, V.v false [C.d (D.sc (Sc.int IntKind.i64 t_5_0))],
  V.any, V.any, V.any, V.any, V.any, V.any, V.v false [C.d (D.sc (Sc.bool true))], V.any, V.any, V.any, V.any, V.any, V.v false [C.d (D.sl none false ET.pass t_18_0)], V.any,
  V.any, V.any, V.any, V.any, V.any, V.any, V.any, V.any, V.any, V.any, V.any, V.any, V.any, V.any, V.any, V.any, V.any, V.any, V.any, V.any, V.any, V.any, V.any, V.any, V.any,
  V.any, V.any, V.any, V.any, V.any, V.any, V.any, V.any, V.any, V.any, V.any, V.any, V.any, V.any, V.any, V.any, V.any, V.any, V.any, V.any, V.any, V.any, V.any, V.any, V.any,
  V.any, V.any, V.any, V.any, V.any, V.any, V.any, V.any, V.any, V.any, V.any, V.any, V.any, V.any, V.any, V.any, V.any, V.any, V.any, V.any, V.any, V.any, V.any, V.any, V.any,
  V.any, V.any, V.any, V.any, V.any, V.any, V.any, V.any, V.any, V.any, V.any, V.any, V.any, V.any, V.any, V.any, V.any, V.any, V.any, V.any, V.any, V.any, V.any, V.any, V.any,
  V.any, V.any, V.any, V.any, V.any, V.any, V.any, V.any, V.any, V.any, V.any, V.any, V.any, V.any, V.any, V.any, V.any, V.any, V.any, V.any, V.any, V.any, V.any, V.any, V.any,
  V.any, V.any, V.any, V.any, V.any, V.any, V.any, V.any, V.any, V.any, V.any, V.any, V.any, V.any, V.any, V.any, V.any, V.any, V.any, V.any, V.any, V.any, V.any, V.any, V.any,
  V.any, V.any, V.any, V.any, V.any], [none, none, none, none, none, none, none, none, none, none, none, none, none, none, none, none, none, none, none, none, none, none, none, none, none, none, none, none, none, none,
  none, none, none, none, none, none, none, none, none, none, none, none, none, none, none, none, none, none, none, none, none, none, none, none, none, none, none, none, none,
  none,
  some
    (Blk.box 46 [C.d (D.sc (Sc.int IntKind.u64 h_60_0)), C.d (D.sc (Sc.int IntKind.i64 h_60_1)), C.d (D.sc (Sc.int IntKind.i64 h_60_2)), C.d (D.sc (Sc.int IntKind.i64 h_60_3))]),
  none, none, none, none, none, none, none, none, none, none, none, none, none, none, none, none, none, none, none, none, none, none, none, none, none, none, none, none, none,
  none, none, none, none, none, none, none, none, none, none, none, none, none, none, none, none, none, none, none, none, none, none, none, none, none, none, none, none, none,
  none, none, none, none, none, none, none, none, none, none, none, none, none, none, none, none, none, none, none, none, none, none, none, none, none, none, none, none, none], 0⟩)
  | 1 => (Ex.exit 0, ⟨[V.any, V.any, V.v false [C.d (D.sc (Sc.int IntKind.u64 t_2_0))], V.v false [C.d (D.sc (Sc.int IntKind.i64 t_3_0))], V.any, V.v false [C.d (D.sc (Sc.int IntKind.i64 t_5_0))],
  V.any, V.any, V.any, V.any, V.any, V.any, V.any, V.any, V.any, V.any, V.any, V.any, V.v false [C.d (D.sl none false ET.pass t_18_0)], V.any, V.any, V.any, V.any, V.any, V.any,
  V.any, V.any, V.any, V.any, V.any, V.any, V.any, V.any, V.any, V.any, V.any, V.any, V.any, V.any, V.any, V.any, V.any, V.any, V.any, V.any, V.any, V.any, V.any, V.any, V.any,
  V.any, V.any, V.any, V.any, V.any, V.any, V.any, V.any, V.any, V.any, V.any, V.any, V.any, V.any, V.any, V.any, V.any, V.any, V.any, V.any, V.any, V.any, V.any, V.any, V.any,
  V.any, V.any, V.any, V.any, V.any, V.any, V.any, V.any, V.any, V.any, V.any, V.any, V.any, V.any, V.any, V.any, V.any, V.any, V.any, V.any, V.any, V.any, V.any, V.any, V.any,
  V.any, V.any, V.any, V.any, V.any, V.any, V.any, V.any, V.any, V.any, V.any, V.any, V.any, V.any, V.any, V.any, V.any, V.any, V.any, V.any, V.any, V.any, V.any, V.any, V.any,
  V.any, V.any, V.any, V.any, V.any, V.any, V.any, V.any, V.any, V.any, V.any, V.any, V.any, V.any, V.any, V.any, V.any, V.any, V.any, V.any, V.any, V.any, V.any, V.any, V.any,
  V.any, V.any, V.any, V.any, V.any, V.any, V.any, V.any, V.any, V.any, V.any, V.any, V.any, V.any, V.any, V.any, V.any, V.any, V.any, V.any, V.any, V.any, V.any, V.any, V.any], [none, none, none, none, none, none, none, none, none, none, none, none, none, none, none, none, none, none, none, none, none, none, none, none, none, none, none, none, none, none,
  none, none, none, none, none, none, none, none, none, none, none, none, none, none, none, none, none, none, none, none, none, none, none, none, none, none, none, none, none,
  none,
  some
    (Blk.box 46 [C.d (D.sc (Sc.int IntKind.u64 h_60_0)), C.d (D.sc (Sc.int IntKind.i64 h_60_1)), C.d (D.sc (Sc.int IntKind.i64 h_60_2)), C.d (D.sc (Sc.int IntKind.i64 h_60_3))]),
  none, none, none, none, none, none, none, none, none, none, none, none, none, none, none, none, none, none, none, none, none, none, none, none, none, none, none, none, none,
  none, none, none, none, none, none, none, none, none, none, none, none, none, none, none, none, none, none, none, none, none, none, none, none, none, none, none, none, none,
  none, none, none, none, none, none, none, none, none, none, none, none, none, none, none, none, none, none, none, none, none], 0⟩)
  | _ => (.ret, ⟨[], [], 0⟩)
noncomputable def T1_law16_TokenBack_13 : V → V → V → V → V → V → Option Blk → Tree
  | V.v false [C.d (D.sl t_0_0n t_0_0f ET.pass t_0_0)], V.v false [C.d (D.sc (Sc.int IntKind.u64 t_2_0))], V.v false [C.d (D.sc (Sc.int IntKind.i64 t_3_0))], V.v false [C.d (D.sc (Sc.int IntKind.i64 t_5_0))], V.v false [C.d (D.sl none false ET.pass t_18_0)], V.v false [C.d (D.sc (Sc.int IntKind.i64 t_22_0))], some (Blk.box 46 [C.d (D.sc (Sc.int IntKind.u64 h_60_0)), C.d (D.sc (Sc.int IntKind.i64 h_60_1)), C.d (D.sc (Sc.int IntKind.i64 h_60_2)), C.d (D.sc (Sc.int IntKind.i64 h_60_3))]) => exT (fun j => ex_law16_TokenBack_13 t_0_0n t_0_0f t_0_0 t_2_0 t_3_0 t_5_0 t_18_0 h_60_0 h_60_1 h_60_2 h_60_3 j (S.law16_TokenBack_13_v t_0_0 t_2_0 ⟨t_22_0⟩)) (S.law16_TokenBack_13_j t_0_0 t_2_0 ⟨t_22_0⟩) [0, 1]
  | _, _, _, _, _, _, _ => .bad
noncomputable def T_law16_TokenBack_13 (st : St) : Tree := bif okSt 175 136 0 [60] st then T1_law16_TokenBack_13 (st.env.getD 0 .any) (st.env.getD 2 .any) (st.env.getD 3 .any) (st.env.getD 5 .any) (st.env.getD 18 .any) (st.env.getD 22 .any) (lk st.heap 60) else .bad
noncomputable def b_law16_TokenBack_13 : Code := loopBy Try.f10 13
theorem rnd_law16_TokenBack_13 (t_0_0n : Option Bool) (t_0_0f : Bool) (t_0_0 : List (Ty ET.pass)) (t_2_0 : Int) (t_3_0 : Int) (t_5_0 : Int) (t_18_0 : List (Ty ET.pass)) (h_60_0 : Int) (h_60_1 : Int) (h_60_2 : Int) (h_60_3 : Int) (v : S.law16_TokenBack_13_V) : round2 cx_law16_TokenBack (hdI cx_law16_TokenBack (find []) [] none 0) 10 b_law16_TokenBack_13 [] 136 [2, 3, 5, 12, 18] (mk_law16_TokenBack_13 t_0_0n t_0_0f t_0_0 t_2_0 t_3_0 t_5_0 t_18_0 h_60_0 h_60_1 h_60_2 h_60_3 v) = (S.law16_TokenBack_13_R t_0_0 t_2_0 v).go (roundOut (mk_law16_TokenBack_13 t_0_0n t_0_0f t_0_0 t_2_0 t_3_0 t_5_0 t_18_0 h_60_0 h_60_1 h_60_2 h_60_3) (ex_law16_TokenBack_13 t_0_0n t_0_0f t_0_0 t_2_0 t_3_0 t_5_0 t_18_0 h_60_0 h_60_1 h_60_2 h_60_3)) := by kernel_rfl
theorem bs_law16_TokenBack_13 : loopsOf b_law16_TokenBack_13 ++ loopsInl [] = [] := by kernel_rfl
theorem ci_law16_TokenBack_13 (t_0_0n : Option Bool) (t_0_0f : Bool) (t_0_0 : List (Ty ET.pass)) (t_2_0 : Int) (t_3_0 : Int) (t_5_0 : Int) (t_18_0 : List (Ty ET.pass)) (h_60_0 : Int) (h_60_1 : Int) (h_60_2 : Int) (h_60_3 : Int) : ∀ v j v2, Lp (S.law16_TokenBack_13_r t_0_0 t_2_0) v = some (j, v2) → Circles Try.prog cx_law16_TokenBack b_law16_TokenBack_13 (mk_law16_TokenBack_13 t_0_0n t_0_0f t_0_0 t_2_0 t_3_0 t_5_0 t_18_0 h_60_0 h_60_1 h_60_2 h_60_3 v) (ex_law16_TokenBack_13 t_0_0n t_0_0f t_0_0 t_2_0 t_3_0 t_5_0 t_18_0 h_60_0 h_60_1 h_60_2 h_60_3 j v2).1 (ex_law16_TokenBack_13 t_0_0n t_0_0f t_0_0 t_2_0 t_3_0 t_5_0 t_18_0 h_60_0 h_60_1 h_60_2 h_60_3 j v2).2 :=
  loop_ok2 (L := find []) (n := 0) (hints := [(10, 13, { keep := [0, 2, 3, 5, 18, 22], acc := [] })]) (cx_ok rfl) rdy_law16_TokenBack bs_law16_TokenBack_13 nilB (fun v => (rnd_law16_TokenBack_13 t_0_0n t_0_0f t_0_0 t_2_0 t_3_0 t_5_0 t_18_0 h_60_0 h_60_1 h_60_2 h_60_3 v).trans (DT.go_run _ _)) (by intro j v; unfold ex_law16_TokenBack_13; split <;> rfl)
theorem mke_law16_TokenBack_13 (t_0_0n : Option Bool) (t_0_0f : Bool) (t_0_0 : List (Ty ET.pass)) (t_2_0 : Int) (t_3_0 : Int) (t_5_0 : Int) (t_18_0 : List (Ty ET.pass)) (h_60_0 : Int) (h_60_1 : Int) (h_60_2 : Int) (h_60_3 : Int) (v : S.law16_TokenBack_13_V) : mk_law16_TokenBack_13 t_0_0n t_0_0f t_0_0 t_2_0 t_3_0 t_5_0 t_18_0 h_60_0 h_60_1 h_60_2 h_60_3 v = ⟨envOf 175 [(0, V.v false [C.d (D.sl t_0_0n t_0_0f ET.pass t_0_0)]), (2, V.v false [C.d (D.sc (Sc.int IntKind.u64 t_2_0))]), (3, V.v false [C.d (D.sc (Sc.int IntKind.i64 t_3_0))]), (5, V.v false [C.d (D.sc (Sc.int IntKind.i64 t_5_0))]), (18, V.v false [C.d (D.sl none false ET.pass t_18_0)]), (22, V.v false [C.d (D.sc (Sc.int IntKind.i64 v.t_22_0))])], heapOf 136 [(60, some (Blk.box 46 [C.d (D.sc (Sc.int IntKind.u64 h_60_0)), C.d (D.sc (Sc.int IntKind.i64 h_60_1)), C.d (D.sc (Sc.int IntKind.i64 h_60_2)), C.d (D.sc (Sc.int IntKind.i64 h_60_3))]))], 0⟩ := by kernel_rfl
theorem lo1_law16_TokenBack_13 (e0 : V) (e2 : V) (e3 : V) (e5 : V) (e18 : V) (e22 : V) (h60 : Option Blk) e st2 (h : (T1_law16_TokenBack_13 e0 e2 e3 e5 e18 e22 h60).eval = some (e, st2)) : Circles Try.prog cx_law16_TokenBack b_law16_TokenBack_13 ⟨envOf 175 [(0, e0), (2, e2), (3, e3), (5, e5), (18, e18), (22, e22)], heapOf 136 [(60, h60)], 0⟩ e st2 := by
  unfold T1_law16_TokenBack_13 at h
  split at h
  · have := loop_tree (mk := mk_law16_TokenBack_13 _ _ _ _ _ _ _ _ _ _ _) (ci_law16_TokenBack_13 _ _ _ _ _ _ _ _ _ _ _) _ _ e st2 h
    rw [mke_law16_TokenBack_13] at this
    exact this
  · cases h
theorem lok_law16_TokenBack_13 : LoopOk Try.prog cx_law16_TokenBack b_law16_TokenBack_13 T_law16_TokenBack_13 := by
  intro st e st2 h
  unfold T_law16_TokenBack_13 at h
  cases hk : okSt 175 136 0 [60] st with
  | false => rw [hk] at h; cases h
  | true =>
    rw [hk] at h
    exact circles_keep (ks := [0, 2, 3, 5, 18, 22]) hk (lo1_law16_TokenBack_13 _ _ _ _ _ _ _ e st2 h)
structure S.law16_TokenBack_T where
  x0 : Bool
  deriving Inhabited
noncomputable def S.law16_TokenBack_R (a0 : List (Ty .pass)) (a1 : Int) (a2 : Int) (a3 : Int) (a4 : Int) (a5 : Int) : DT S.law16_TokenBack_T :=
let y0 : Int := (↑a0.length : Int)
let y1 : Bool := xdec (0 ≤ a1) && xdec (a1 < y0)
let y2 : Ty ET.pass := a0.getD a1.toNat (dflt ET.pass)
let y3 : Int := y2.conn
let y4 : Int := y2.token
let y5 : List (Ty ET.pass) := (S.token_Leave_o a0 y3 a4).x0
let y6 : S.token_Join_T := S.token_Join_o y5 y4 a3 a5
let y7 : Int := y6.x2
let y8 : Bool := xeqI y7 0
let y9 : Bool := xneI y6.x1 y2.sess
let y10 : List (Ty ET.pass) := y6.x0
let y11 : Bool := S.token_Find_is y10 a3
let y12 : Bool := xneI (S.token_Find_o y10 a3).x0 a1
let y13 : Bool := xneI (↑y10.length : Int) y0
let y14 : S.law16_TokenBack_13_V := { t_22_0 := 0 : S.law16_TokenBack_13_V }
let y15 : Bool := S.law16_TokenBack_13_j a0 a2 y14 0
let y16 : Bool := S.law16_TokenBack_13_j a0 a2 y14 1
let y17 : Bool := S.token_Join_is y5 a2 a3 a5
let y18 : Bool := xeqI (S.token_Join_o y5 a2 a3 a5).x2 10
(.br (S.law16_awake_is)
(.br (xnot S.law16_awake_o.x0)
(.leaf ⟨S.law16_awake_o.x0⟩)
(.br (xdec (y0 > 10))
(.leaf ⟨S.law16_awake_o.x0⟩)
(.br (S.token_May_is a0)
(.br (xnot (S.token_May_o a0).x0)
(.leaf ⟨S.law16_awake_o.x0⟩)
(.br (xdec (a1 < 0))
(.leaf ⟨S.law16_awake_o.x0⟩)
(.br (xdec (a1 ≥ y0))
(.leaf ⟨S.law16_awake_o.x0⟩)
(.br (y1)
(.br (xdec (y3 < 0))
(.leaf ⟨S.law16_awake_o.x0⟩)
(.br (xdec (a3 < 0))
(.leaf ⟨S.law16_awake_o.x0⟩)
(.br (S.token_Find_is a0 a3)
(.br (xdec ((S.token_Find_o a0 a3).x0 ≥ 0))
(.leaf ⟨S.law16_awake_o.x0⟩)
(.br (xdec (a4 < 0))
(.leaf ⟨S.law16_awake_o.x0⟩)
(.br (xdec (a4 > 1125899906842624))
(.leaf ⟨S.law16_awake_o.x0⟩)
(.br (xdec (a5 < a4))
(.leaf ⟨S.law16_awake_o.x0⟩)
(.br (y1)
(.br (S.token_Join_is a0 y4 a3 a5)
(.br (S.token_Leave_is a0 y3 a4)
(.br (S.token_Join_is y5 y4 a3 a5)
(.br (xneI (S.token_Join_o a0 y4 a3 a5).x2 10)
(.leaf ⟨false⟩)
(.br (bif y8 == xdec (a5 < xwrap IntKind.i64 (a4 + 20)) then false else true)
(.leaf ⟨false⟩)
(.br (xneI y7 0)
(.br (xneI y7 10)
(.leaf ⟨false⟩)
(.br (y8)
(.br (y9)
(.leaf ⟨false⟩)
(.br (y11)
(.br (y12)
(.leaf ⟨false⟩)
(.br (y13)
(.leaf ⟨false⟩)
(.br (y15)
(.leaf ⟨true⟩)
(.br (y16)
(.br (y17)
(.leaf ⟨y18⟩)
.fail)
.fail))))
.fail))
(.br (y15)
(.leaf ⟨true⟩)
(.br (y16)
(.br (y17)
(.leaf ⟨y18⟩)
.fail)
.fail))))
(.br (y8)
(.br (y9)
(.leaf ⟨false⟩)
(.br (y11)
(.br (y12)
(.leaf ⟨false⟩)
(.br (y13)
(.leaf ⟨false⟩)
(.br (y15)
(.leaf ⟨true⟩)
(.br (y16)
(.br (y17)
(.leaf ⟨y18⟩)
.fail)
.fail))))
.fail))
(.br (y15)
(.leaf ⟨true⟩)
(.br (y16)
(.br (y17)
(.leaf ⟨y18⟩)
.fail)
.fail))))))
.fail)
.fail)
.fail)
.fail)))))
.fail)))
.fail))))
.fail)))
.fail)
noncomputable def S.law16_TokenBack (a0 : List (Ty .pass)) (a1 : Int) (a2 : Int) (a3 : Int) (a4 : Int) (a5 : Int) : Option S.law16_TokenBack_T := (S.law16_TokenBack_R a0 a1 a2 a3 a4 a5).run
noncomputable def S.law16_TokenBack_is (a0 : List (Ty .pass)) (a1 : Int) (a2 : Int) (a3 : Int) (a4 : Int) (a5 : Int) : Bool := (S.law16_TokenBack a0 a1 a2 a3 a4 a5).isSome
noncomputable def S.law16_TokenBack_o (a0 : List (Ty .pass)) (a1 : Int) (a2 : Int) (a3 : Int) (a4 : Int) (a5 : Int) : S.law16_TokenBack_T := (S.law16_TokenBack a0 a1 a2 a3 a4 a5).getD default
noncomputable def ret_law16_TokenBack (b : Bool) (r : S.law16_TokenBack_T) : Ret := ⟨b, none, [(false, [C.d (D.sc (Sc.bool r.x0))])]⟩
noncomputable def g_law16_TokenBack : Con
  | [(false, [.sl a0n a0f .pass a0]), (false, [.sc (.int .i64 a1)]), (false, [.sc (.int .u64 a2)]), (false, [.sc (.int .i64 a3)]), (false, [.sc (.int .i64 a4)]), (false, [.sc (.int .i64 a5)])] => some (ret_law16_TokenBack (S.law16_TokenBack_is a0 a1 a2 a3 a4 a5) (S.law16_TokenBack_o a0 a1 a2 a3 a4 a5))
  | _ => none
theorem raw_law16_TokenBack (a0n : Option Bool) (a0f : Bool) (a0 : List (Ty .pass)) (a1 : Int) (a2 : Int) (a3 : Int) (a4 : Int) (a5 : Int) : evR2 cx_law16_TokenBack (hdI cx_law16_TokenBack (find [(13, T_law16_TokenBack_13)]) [] none 0) none Try.f10 10 none [(false, [.sl a0n a0f .pass a0]), (false, [.sc (.int .i64 a1)]), (false, [.sc (.int .u64 a2)]), (false, [.sc (.int .i64 a3)]), (false, [.sc (.int .i64 a4)]), (false, [.sc (.int .i64 a5)])] some = (S.law16_TokenBack_R a0 a1 a2 a3 a4 a5).go (ret_law16_TokenBack true) := by kernel_rfl
theorem bs_law16_TokenBack : loopsIn Try.f10 [] = [b_law16_TokenBack_13] := by kernel_rfl
theorem law16_TokenBack_ok : Stands Try.prog tyTab 10 g_law16_TokenBack := by
  refine stands3 (L := find [(13, T_law16_TokenBack_13)]) (n := 0) (hints := [(10, 13, { keep := [0, 2, 3, 5, 18, 22], acc := [] })]) (cx_ok rfl) rdy_law16_TokenBack ⟨by kernel_rfl, by kernel_rfl, by kernel_rfl⟩ bs_law16_TokenBack (consB (fun T h => by have e : T_law16_TokenBack_13 = T := Option.some.inj (show some T_law16_TokenBack_13 = some T from h); exact e ▸ lok_law16_TokenBack_13) nilB) (fun das r hG hr => ?_)
  unfold g_law16_TokenBack at hG
  split at hG
  · rename_i a0n a0f a0 a1 a2 a3 a4 a5
    injection hG with hG; subst hG
    exact ⟨none, true, win default ((raw_law16_TokenBack a0n a0f a0 a1 a2 a3 a4 a5).trans (DT.go_run _ _)) hr⟩
  · cases hG
end Go.Eng
