/- Contracts, laid by program. -/
import Derived.Test.YtbjeikmkngcjlaaZG5
set_option linter.unusedVariables false
set_option linter.unusedSimpArgs false
namespace Go.Eng
noncomputable section
open Go Go.Eng Go.Proofs Go.Eng.Tab
abbrev cx_slices_Equal_Run : Cx := mkCx2 tyTab [] [] [(132, 4, { keep := [0, 1, 12, 13], acc := [] })] []
theorem rdy_slices_Equal_Run : Ready Try.prog tyTab [] [] [] := ⟨noneG2, noneI2, noneF2⟩
structure S.slices_Equal_Run_4_V where
  t_13_0 : Int
def S.slices_Equal_Run_4_R (qA : List (Ty .run)) (qB : List (Ty .run)) (qC : Int) (v : S.slices_Equal_Run_4_V) : DT (Option Nat × S.slices_Equal_Run_4_V) :=
let y0 : Bool := xdec (0 ≤ v.t_13_0)
let y1 : Ty ET.run := qA.getD v.t_13_0.toNat (dflt ET.run)
let y2 : Ty ET.run := qB.getD v.t_13_0.toNat (dflt ET.run)
(.br (xdec (v.t_13_0 < qC))
(.br (y0 && xdec (v.t_13_0 < (↑qA.length : Int)))
(.br (y0 && xdec (v.t_13_0 < (↑qB.length : Int)))
(.br (bif xeqI y1.first y2.first && (xeqI y1.at_ y2.at_ && (xeqI y1.step y2.step && (xeqI y1.n y2.n && (xeqI y1.many y2.many && (xeqI y1.agg y2.agg && xeqB y1.bad y2.bad))))) then false
else true)
(.leaf (some 0, v))
(.leaf (none, ⟨xwrap IntKind.i64 (v.t_13_0 + 1)⟩)))
.fail)
.fail)
(.leaf (some 1, v)))
def S.slices_Equal_Run_4_r (qA : List (Ty .run)) (qB : List (Ty .run)) (qC : Int) (v : S.slices_Equal_Run_4_V) : Option (Option Nat × S.slices_Equal_Run_4_V) := (S.slices_Equal_Run_4_R qA qB qC v).run
def S.slices_Equal_Run_4_j (qA : List (Ty .run)) (qB : List (Ty .run)) (qC : Int) (v : S.slices_Equal_Run_4_V) (j : Nat) : Bool := Lp_j (S.slices_Equal_Run_4_r qA qB qC) v j
def S.slices_Equal_Run_4_v (qA : List (Ty .run)) (qB : List (Ty .run)) (qC : Int) (v : S.slices_Equal_Run_4_V) : S.slices_Equal_Run_4_V := Lp_v (S.slices_Equal_Run_4_r qA qB qC) v
def mk_slices_Equal_Run_4 (qD : Option Bool) (qE : Bool) (qA : List (Ty .run)) (qF : Option Bool) (qG : Bool) (qB : List (Ty .run)) (qC : Int) (v : S.slices_Equal_Run_4_V) : St := ⟨[V.v false [C.d (.sl qD qE ET.run qA)], V.v false [C.d (.sl qF qG ET.run qB)], V.any, V.any, V.any, V.any, V.any, V.any, V.any, V.any, V.any, V.any,
  V.v false [C.d (.sc (.int .i64 qC))], V.v false [C.d (.sc (.int .i64 v.t_13_0))], V.any, V.any, V.any, V.any, V.any, V.any, V.any, V.any, V.any, V.any,
  V.any, V.any], [none, none, none, none, none, none, none, none, none], 0⟩
def ex_slices_Equal_Run_4 (qD : Option Bool) (qE : Bool) (qA : List (Ty .run)) (qF : Option Bool) (qG : Bool) (qB : List (Ty .run)) (qC : Int) (j : Nat) (v : S.slices_Equal_Run_4_V) : Ex × St := match j with
  | 0 => (Ex.ret, ⟨[V.any, V.any, V.any, V.any, V.v false [C.d (.sc (.bool false))], V.any, V.any, V.any, V.any, V.any, V.any, V.any, V.any, V.any, V.any, V.any, V.any, V.any, V.any, V.any, V.any,
  V.any, V.any, V.any, V.any, V.any], [none, none, none, none, none, none, none, none, none, none, none, none, none, none, none, none, none, none, none, none, none, none], 0⟩)
  | 1 => (Ex.exit 0, ⟨[V.any, V.any, V.any, V.any, V.any, V.any, V.any, V.any, V.any, V.any, V.any, V.any, V.any, V.any, V.any, V.any, V.any, V.any, V.any, V.any, V.any, V.any, V.any, V.any, V.any,
  V.any], [none, none, none, none, none, none, none, none, none, none], 0⟩)
  | _ => (.ret, ⟨[], [], 0⟩)
def T1_slices_Equal_Run_4 : V → V → V → V → Tree
  | V.v false [C.d (.sl qD qE ET.run qA)], V.v false [C.d (.sl qF qG ET.run qB)], V.v false [C.d (.sc (.int .i64 qC))], V.v false [C.d (.sc (.int .i64 t_13_0))] => exT (fun j => ex_slices_Equal_Run_4 qD qE qA qF qG qB qC j (S.slices_Equal_Run_4_v qA qB qC ⟨t_13_0⟩)) (S.slices_Equal_Run_4_j qA qB qC ⟨t_13_0⟩) [0, 1]
  | _, _, _, _ => .bad
def T_slices_Equal_Run_4 (st : St) : Tree := bif okSt 26 9 0 [] st then T1_slices_Equal_Run_4 (st.env.getD 0 .any) (st.env.getD 1 .any) (st.env.getD 12 .any) (st.env.getD 13 .any) else .bad
def b_slices_Equal_Run_4 : Code := loopBy Try.f132 4
theorem rnd_slices_Equal_Run_4 (qD : Option Bool) (qE : Bool) (qA : List (Ty .run)) (qF : Option Bool) (qG : Bool) (qB : List (Ty .run)) (qC : Int) (v : S.slices_Equal_Run_4_V) : round2 cx_slices_Equal_Run (hdI cx_slices_Equal_Run (find []) [] none 0) 132 b_slices_Equal_Run_4 [] 9 [4] (mk_slices_Equal_Run_4 qD qE qA qF qG qB qC v) = (S.slices_Equal_Run_4_R qA qB qC v).go (roundOut (mk_slices_Equal_Run_4 qD qE qA qF qG qB qC) (ex_slices_Equal_Run_4 qD qE qA qF qG qB qC)) := by kernel_rfl
theorem bs_slices_Equal_Run_4 : loopsOf b_slices_Equal_Run_4 ++ loopsInl [] = [] := by kernel_rfl
theorem ci_slices_Equal_Run_4 (qD : Option Bool) (qE : Bool) (qA : List (Ty .run)) (qF : Option Bool) (qG : Bool) (qB : List (Ty .run)) (qC : Int) : ∀ v j v2, Lp (S.slices_Equal_Run_4_r qA qB qC) v = some (j, v2) → Circles Try.prog cx_slices_Equal_Run b_slices_Equal_Run_4 (mk_slices_Equal_Run_4 qD qE qA qF qG qB qC v) (ex_slices_Equal_Run_4 qD qE qA qF qG qB qC j v2).1 (ex_slices_Equal_Run_4 qD qE qA qF qG qB qC j v2).2 :=
  loop_ok2 (L := find []) (n := 0) (hints := [(132, 4, { keep := [0, 1, 12, 13], acc := [] })]) (cx_ok rfl) rdy_slices_Equal_Run bs_slices_Equal_Run_4 nilB (fun v => (rnd_slices_Equal_Run_4 qD qE qA qF qG qB qC v).trans (DT.go_run _ _)) (by intro j v; unfold ex_slices_Equal_Run_4; split <;> rfl)
theorem mke_slices_Equal_Run_4 (qD : Option Bool) (qE : Bool) (qA : List (Ty .run)) (qF : Option Bool) (qG : Bool) (qB : List (Ty .run)) (qC : Int) (v : S.slices_Equal_Run_4_V) : mk_slices_Equal_Run_4 qD qE qA qF qG qB qC v = ⟨envOf 26 [(0, V.v false [C.d (.sl qD qE ET.run qA)]), (1, V.v false [C.d (.sl qF qG ET.run qB)]), (12, V.v false [C.d (.sc (.int .i64 qC))]), (13, V.v false [C.d (.sc (.int .i64 v.t_13_0))])], heapOf 9 [], 0⟩ := by kernel_rfl
theorem lo1_slices_Equal_Run_4 (e0 : V) (e1 : V) (e12 : V) (e13 : V)  e st2 (h : (T1_slices_Equal_Run_4 e0 e1 e12 e13).eval = some (e, st2)) : Circles Try.prog cx_slices_Equal_Run b_slices_Equal_Run_4 ⟨envOf 26 [(0, e0), (1, e1), (12, e12), (13, e13)], heapOf 9 [], 0⟩ e st2 := by
  unfold T1_slices_Equal_Run_4 at h
  split at h
  · have := loop_tree (mk := mk_slices_Equal_Run_4 _ _ _ _ _ _ _) (ci_slices_Equal_Run_4 _ _ _ _ _ _ _) _ _ e st2 h
    rw [mke_slices_Equal_Run_4] at this
    exact this
  · cases h
theorem lok_slices_Equal_Run_4 : LoopOk Try.prog cx_slices_Equal_Run b_slices_Equal_Run_4 T_slices_Equal_Run_4 := by
  intro st e st2 h
  unfold T_slices_Equal_Run_4 at h
  cases hk : okSt 26 9 0 [] st with
  | false => rw [hk] at h; cases h
  | true =>
    rw [hk] at h
    exact circles_keep (ks := [0, 1, 12, 13]) hk (lo1_slices_Equal_Run_4 _ _ _ _ e st2 h)
structure S.slices_Equal_Run_T where
  x0 : Bool
  deriving Inhabited
def S.slices_Equal_Run_R (a0 : List (Ty .run)) (a1 : List (Ty .run)) : DT S.slices_Equal_Run_T :=
let y0 : Int := (↑a0.length : Int)
let y1 : S.slices_Equal_Run_4_V := { t_13_0 := 0 : S.slices_Equal_Run_4_V }
(.br (xneI y0 (↑a1.length : Int))
(.leaf ⟨false⟩)
(.br (S.slices_Equal_Run_4_j a0 a1 y0 y1 0)
(.leaf ⟨false⟩)
(.br (S.slices_Equal_Run_4_j a0 a1 y0 y1 1)
(.leaf ⟨true⟩)
.fail)))
def S.slices_Equal_Run (a0 : List (Ty .run)) (a1 : List (Ty .run)) : Option S.slices_Equal_Run_T := (S.slices_Equal_Run_R a0 a1).run
def S.slices_Equal_Run_is (a0 : List (Ty .run)) (a1 : List (Ty .run)) : Bool := (S.slices_Equal_Run a0 a1).isSome
def S.slices_Equal_Run_o (a0 : List (Ty .run)) (a1 : List (Ty .run)) : S.slices_Equal_Run_T := (S.slices_Equal_Run a0 a1).getD default
def ret_slices_Equal_Run (b : Bool) (r : S.slices_Equal_Run_T) : Ret := ⟨b, none, [(false, [C.d (.sc (.bool r.x0))])]⟩
def g_slices_Equal_Run : Con
  | [(false, [.sl a0n a0f .run a0]), (false, [.sl a1n a1f .run a1])] => some (ret_slices_Equal_Run (S.slices_Equal_Run_is a0 a1) (S.slices_Equal_Run_o a0 a1))
  | _ => none
theorem raw_slices_Equal_Run (a0n : Option Bool) (a0f : Bool) (a0 : List (Ty .run)) (a1n : Option Bool) (a1f : Bool) (a1 : List (Ty .run)) : evR2 cx_slices_Equal_Run (hdI cx_slices_Equal_Run (find [(4, T_slices_Equal_Run_4)]) [] none 0) none Try.f132 132 none [(false, [.sl a0n a0f .run a0]), (false, [.sl a1n a1f .run a1])] some = (S.slices_Equal_Run_R a0 a1).go (ret_slices_Equal_Run true) := by kernel_rfl
theorem bs_slices_Equal_Run : loopsIn Try.f132 [] = [b_slices_Equal_Run_4] := by kernel_rfl
theorem slices_Equal_Run_ok : Stands Try.prog tyTab 132 g_slices_Equal_Run := by
  refine stands3 (L := find [(4, T_slices_Equal_Run_4)]) (n := 0) (hints := [(132, 4, { keep := [0, 1, 12, 13], acc := [] })]) (cx_ok rfl) rdy_slices_Equal_Run ⟨by kernel_rfl, by kernel_rfl, by kernel_rfl⟩ bs_slices_Equal_Run (consB (fun T h => by have e : T_slices_Equal_Run_4 = T := Option.some.inj (show some T_slices_Equal_Run_4 = some T from h); exact e ▸ lok_slices_Equal_Run_4) nilB) (fun das r hG hr => ?_)
  unfold g_slices_Equal_Run at hG
  split at hG
  · rename_i a0n a0f a0 a1n a1f a1
    injection hG with hG; subst hG
    exact ⟨none, true, win default ((raw_slices_Equal_Run a0n a0f a0 a1n a1f a1).trans (DT.go_run _ _)) hr⟩
  · cases hG
abbrev cx_query_alike : Cx := mkCx2 tyTab [(123, g_expr_Same)] [] [] []
theorem rdy_query_alike : Ready Try.prog tyTab [(123, g_expr_Same)] [] [] := ⟨consG2 expr_Same_ok (noneG2), noneI2, noneF2⟩
structure S.query_alike_T where
  x0 : Bool
  deriving Inhabited
def S.query_alike_R (a0_0 : ByteArray) (a0_1 : List (Ty .op)) (a0_2 : Int) (a0_3 : Int) (a0_4 : Bool) (a0_5 : ByteArray) (a0_6 : List (Ty .op)) (a1_0 : ByteArray) (a1_1 : List (Ty .op)) (a1_2 : Int) (a1_3 : Int) (a1_4 : Bool) (a1_5 : ByteArray) (a1_6 : List (Ty .op)) : DT S.query_alike_T :=
(.br (xdec (a0_0 = a1_0))
(.br (xdec (a0_5 = a1_5))
(.br (a0_4 == a1_4)
(.br (xeqI a0_2 a1_2)
(.br (xeqI a0_3 a1_3)
(.br (S.expr_Same_is a0_1 a1_1)
(.br ((S.expr_Same_o a0_1 a1_1).x0)
(.br (S.expr_Same_is a0_6 a1_6)
(.leaf ⟨(S.expr_Same_o a0_6 a1_6).x0⟩)
.fail)
(.leaf ⟨false⟩))
.fail)
(.leaf ⟨false⟩))
(.leaf ⟨false⟩))
(.leaf ⟨false⟩))
(.leaf ⟨false⟩))
(.leaf ⟨false⟩))
def S.query_alike (a0_0 : ByteArray) (a0_1 : List (Ty .op)) (a0_2 : Int) (a0_3 : Int) (a0_4 : Bool) (a0_5 : ByteArray) (a0_6 : List (Ty .op)) (a1_0 : ByteArray) (a1_1 : List (Ty .op)) (a1_2 : Int) (a1_3 : Int) (a1_4 : Bool) (a1_5 : ByteArray) (a1_6 : List (Ty .op)) : Option S.query_alike_T := (S.query_alike_R a0_0 a0_1 a0_2 a0_3 a0_4 a0_5 a0_6 a1_0 a1_1 a1_2 a1_3 a1_4 a1_5 a1_6).run
def S.query_alike_is (a0_0 : ByteArray) (a0_1 : List (Ty .op)) (a0_2 : Int) (a0_3 : Int) (a0_4 : Bool) (a0_5 : ByteArray) (a0_6 : List (Ty .op)) (a1_0 : ByteArray) (a1_1 : List (Ty .op)) (a1_2 : Int) (a1_3 : Int) (a1_4 : Bool) (a1_5 : ByteArray) (a1_6 : List (Ty .op)) : Bool := (S.query_alike a0_0 a0_1 a0_2 a0_3 a0_4 a0_5 a0_6 a1_0 a1_1 a1_2 a1_3 a1_4 a1_5 a1_6).isSome
def S.query_alike_o (a0_0 : ByteArray) (a0_1 : List (Ty .op)) (a0_2 : Int) (a0_3 : Int) (a0_4 : Bool) (a0_5 : ByteArray) (a0_6 : List (Ty .op)) (a1_0 : ByteArray) (a1_1 : List (Ty .op)) (a1_2 : Int) (a1_3 : Int) (a1_4 : Bool) (a1_5 : ByteArray) (a1_6 : List (Ty .op)) : S.query_alike_T := (S.query_alike a0_0 a0_1 a0_2 a0_3 a0_4 a0_5 a0_6 a1_0 a1_1 a1_2 a1_3 a1_4 a1_5 a1_6).getD default
def ret_query_alike (b : Bool) (r : S.query_alike_T) : Ret := ⟨b, none, [(false, [C.d (.sc (.bool r.x0))])]⟩
def g_query_alike : Con
  | [(true, [.sc (.str a0_0), .sl a0_1n a0_1f .op a0_1, .sc (.int .i64 a0_2), .sc (.int .i64 a0_3), .sc (.bool a0_4), .sc (.str a0_5), .sl a0_6n a0_6f .op a0_6]), (true, [.sc (.str a1_0), .sl a1_1n a1_1f .op a1_1, .sc (.int .i64 a1_2), .sc (.int .i64 a1_3), .sc (.bool a1_4), .sc (.str a1_5), .sl a1_6n a1_6f .op a1_6])] => some (ret_query_alike (S.query_alike_is a0_0 a0_1 a0_2 a0_3 a0_4 a0_5 a0_6 a1_0 a1_1 a1_2 a1_3 a1_4 a1_5 a1_6) (S.query_alike_o a0_0 a0_1 a0_2 a0_3 a0_4 a0_5 a0_6 a1_0 a1_1 a1_2 a1_3 a1_4 a1_5 a1_6))
  | _ => none
theorem raw_query_alike (a0_0 : ByteArray) (a0_1n : Option Bool) (a0_1f : Bool) (a0_1 : List (Ty .op)) (a0_2 : Int) (a0_3 : Int) (a0_4 : Bool) (a0_5 : ByteArray) (a0_6n : Option Bool) (a0_6f : Bool) (a0_6 : List (Ty .op)) (a1_0 : ByteArray) (a1_1n : Option Bool) (a1_1f : Bool) (a1_1 : List (Ty .op)) (a1_2 : Int) (a1_3 : Int) (a1_4 : Bool) (a1_5 : ByteArray) (a1_6n : Option Bool) (a1_6f : Bool) (a1_6 : List (Ty .op)) : evR2 cx_query_alike (hdI cx_query_alike (find []) [] none 0) none Try.f158 158 none [(true, [.sc (.str a0_0), .sl a0_1n a0_1f .op a0_1, .sc (.int .i64 a0_2), .sc (.int .i64 a0_3), .sc (.bool a0_4), .sc (.str a0_5), .sl a0_6n a0_6f .op a0_6]), (true, [.sc (.str a1_0), .sl a1_1n a1_1f .op a1_1, .sc (.int .i64 a1_2), .sc (.int .i64 a1_3), .sc (.bool a1_4), .sc (.str a1_5), .sl a1_6n a1_6f .op a1_6])] some = (S.query_alike_R a0_0 a0_1 a0_2 a0_3 a0_4 a0_5 a0_6 a1_0 a1_1 a1_2 a1_3 a1_4 a1_5 a1_6).go (ret_query_alike true) := by kernel_rfl
theorem bs_query_alike : loopsIn Try.f158 [] = [] := by kernel_rfl
theorem query_alike_ok : Stands Try.prog tyTab 158 g_query_alike := by
  refine stands3 (L := find []) (n := 0) (hints := []) (cx_ok rfl) rdy_query_alike ⟨by kernel_rfl, by kernel_rfl, by kernel_rfl⟩ bs_query_alike nilB (fun das r hG hr => ?_)
  unfold g_query_alike at hG
  split at hG
  · rename_i a0_0 a0_1n a0_1f a0_1 a0_2 a0_3 a0_4 a0_5 a0_6n a0_6f a0_6 a1_0 a1_1n a1_1f a1_1 a1_2 a1_3 a1_4 a1_5 a1_6n a1_6f a1_6
    injection hG with hG; subst hG
    exact ⟨none, true, win default ((raw_query_alike a0_0 a0_1n a0_1f a0_1 a0_2 a0_3 a0_4 a0_5 a0_6n a0_6f a0_6 a1_0 a1_1n a1_1f a1_1 a1_2 a1_3 a1_4 a1_5 a1_6n a1_6f a1_6).trans (DT.go_run _ _)) hr⟩
  · cases hG
abbrev cx_EqualFunc_Step : Cx := mkCx2 tyTab [(158, g_query_alike)] [] [(157, 4, { keep := [1, 2, 15, 16, 17], acc := [] })] []
theorem rdy_EqualFunc_Step : Ready Try.prog tyTab [(158, g_query_alike)] [] [] := ⟨consG2 query_alike_ok (noneG2), noneI2, noneF2⟩
structure S.EqualFunc_Step_4_V where
  t_17_0 : Int
def S.EqualFunc_Step_4_R (qB : List (Ty .step)) (qH : List (Ty .step)) (qI : Int) (v : S.EqualFunc_Step_4_V) : DT (Option Nat × S.EqualFunc_Step_4_V) :=
let y0 : Bool := xdec (0 ≤ v.t_17_0)
let y1 : Ty ET.step := qH.getD v.t_17_0.toNat (dflt ET.step)
let y2 : ByteArray := y1.name
let y3 : List Opn := y1.ifs
let y4 : Int := y1.min
let y5 : Int := y1.max
let y6 : Bool := y1.guard
let y7 : ByteArray := y1.notName
let y8 : List Opn := y1.notIf
let y9 : Ty ET.step := qB.getD v.t_17_0.toNat (dflt ET.step)
let y10 : ByteArray := y9.name
let y11 : List Opn := y9.ifs
let y12 : Int := y9.min
let y13 : Int := y9.max
let y14 : Bool := y9.guard
let y15 : ByteArray := y9.notName
let y16 : List Opn := y9.notIf
(.br (xdec (v.t_17_0 < qI))
(.br (y0 && xdec (v.t_17_0 < (↑qH.length : Int)))
(.br (y0 && xdec (v.t_17_0 < (↑qB.length : Int)))
(.br (S.query_alike_is y2 y3 y4 y5 y6 y7 y8 y10 y11 y12 y13 y14 y15 y16)
(.br (xnot (S.query_alike_o y2 y3 y4 y5 y6 y7 y8 y10 y11 y12 y13 y14 y15 y16).x0)
(.leaf (some 0, v))
(.leaf (none, ⟨xwrap IntKind.i64 (v.t_17_0 + 1)⟩)))
.fail)
.fail)
.fail)
(.leaf (some 1, v)))
def S.EqualFunc_Step_4_r (qB : List (Ty .step)) (qH : List (Ty .step)) (qI : Int) (v : S.EqualFunc_Step_4_V) : Option (Option Nat × S.EqualFunc_Step_4_V) := (S.EqualFunc_Step_4_R qB qH qI v).run
def S.EqualFunc_Step_4_j (qB : List (Ty .step)) (qH : List (Ty .step)) (qI : Int) (v : S.EqualFunc_Step_4_V) (j : Nat) : Bool := Lp_j (S.EqualFunc_Step_4_r qB qH qI) v j
def S.EqualFunc_Step_4_v (qB : List (Ty .step)) (qH : List (Ty .step)) (qI : Int) (v : S.EqualFunc_Step_4_V) : S.EqualFunc_Step_4_V := Lp_v (S.EqualFunc_Step_4_r qB qH qI) v
def mk_EqualFunc_Step_4 (qF : Option Bool) (qG : Bool) (qB : List (Ty .step)) (qJ : Option Bool) (qK : Bool) (qH : List (Ty .step)) (qI : Int) (v : S.EqualFunc_Step_4_V) : St := ⟨[V.any, V.v false [C.d (.sl qF qG ET.step qB)], V.v false [C.d (D.fn 158 [] [])], V.any, V.any, V.any, V.any, V.any, V.any, V.any, V.any, V.any, V.any, V.any, V.any,
  V.v false [C.d (.sl qJ qK ET.step qH)], V.v false [C.d (.sc (.int .i64 qI))], V.v false [C.d (.sc (.int .i64 v.t_17_0))], V.any, V.any,
  V.any, V.any, V.any, V.any, V.any, V.any, V.any, V.any, V.any, V.any, V.any, V.any], [none, none, none, none, none, none, none, none, none], 0⟩
def ex_EqualFunc_Step_4 (qF : Option Bool) (qG : Bool) (qB : List (Ty .step)) (qJ : Option Bool) (qK : Bool) (qH : List (Ty .step)) (qI : Int) (j : Nat) (v : S.EqualFunc_Step_4_V) : Ex × St := match j with
  | 0 => (Ex.ret, ⟨[V.any, V.any, V.any, V.any, V.any, V.any, V.v false [C.d (.sc (.bool false))], V.any, V.any, V.any, V.any, V.any, V.any, V.any, V.any, V.any, V.any, V.any, V.any, V.any, V.any,
  V.any, V.any, V.any, V.any, V.any, V.any, V.any, V.any, V.any, V.any, V.any], [none, none, none, none, none, none, none, none, none, none, none, none, none,
  some
    (Blk.box 47
      [C.d (.sc (.str (qH.getD v.t_17_0.toNat (dflt ET.step)).name)), C.d (.sl none false ET.op (qH.getD v.t_17_0.toNat (dflt ET.step)).ifs),
        C.d (.sc (.int .i64 (qH.getD v.t_17_0.toNat (dflt ET.step)).min)), C.d (.sc (.int .i64 (qH.getD v.t_17_0.toNat (dflt ET.step)).max)),
        C.d (.sc (.bool (qH.getD v.t_17_0.toNat (dflt ET.step)).guard)), C.d (.sc (.str (qH.getD v.t_17_0.toNat (dflt ET.step)).notName)),
        C.d (.sl none false ET.op (qH.getD v.t_17_0.toNat (dflt ET.step)).notIf)]),
  none, none, none, none, none, none,
  some
    (Blk.box 47
      [C.d (.sc (.str (qB.getD v.t_17_0.toNat (dflt ET.step)).name)), C.d (.sl none false ET.op (qB.getD v.t_17_0.toNat (dflt ET.step)).ifs),
        C.d (.sc (.int .i64 (qB.getD v.t_17_0.toNat (dflt ET.step)).min)), C.d (.sc (.int .i64 (qB.getD v.t_17_0.toNat (dflt ET.step)).max)),
        C.d (.sc (.bool (qB.getD v.t_17_0.toNat (dflt ET.step)).guard)), C.d (.sc (.str (qB.getD v.t_17_0.toNat (dflt ET.step)).notName)),
        C.d (.sl none false ET.op (qB.getD v.t_17_0.toNat (dflt ET.step)).notIf)]),
  none, none, none, none, none, none, none], 0⟩)
  | 1 => (Ex.exit 0, ⟨[V.any, V.any, V.any, V.any, V.any, V.any, V.any, V.any, V.any, V.any, V.any, V.any, V.any, V.any, V.any, V.any, V.any, V.any, V.any, V.any, V.any, V.any, V.any, V.any, V.any,
  V.any, V.any, V.any, V.any, V.any, V.any, V.any], [none, none, none, none, none, none, none, none, none, none], 0⟩)
  | _ => (.ret, ⟨[], [], 0⟩)
def T1_EqualFunc_Step_4 : V → V → V → V → V → Tree
  | V.v false [C.d (.sl qF qG ET.step qB)], V.v false [C.d (D.fn 158 [] [])], V.v false [C.d (.sl qJ qK ET.step qH)], V.v false [C.d (.sc (.int .i64 qI))], V.v false [C.d (.sc (.int .i64 t_17_0))] => exT (fun j => ex_EqualFunc_Step_4 qF qG qB qJ qK qH qI j (S.EqualFunc_Step_4_v qB qH qI ⟨t_17_0⟩)) (S.EqualFunc_Step_4_j qB qH qI ⟨t_17_0⟩) [0, 1]
  | _, _, _, _, _ => .bad
def T_EqualFunc_Step_4 (st : St) : Tree := bif okSt 32 9 0 [] st then T1_EqualFunc_Step_4 (st.env.getD 1 .any) (st.env.getD 2 .any) (st.env.getD 15 .any) (st.env.getD 16 .any) (st.env.getD 17 .any) else .bad
def b_EqualFunc_Step_4 : Code := loopBy Try.f157 4
theorem rnd_EqualFunc_Step_4 (qF : Option Bool) (qG : Bool) (qB : List (Ty .step)) (qJ : Option Bool) (qK : Bool) (qH : List (Ty .step)) (qI : Int) (v : S.EqualFunc_Step_4_V) : round2 cx_EqualFunc_Step (hdI cx_EqualFunc_Step (find []) [] none 0) 157 b_EqualFunc_Step_4 [] 9 [6] (mk_EqualFunc_Step_4 qF qG qB qJ qK qH qI v) = (S.EqualFunc_Step_4_R qB qH qI v).go (roundOut (mk_EqualFunc_Step_4 qF qG qB qJ qK qH qI) (ex_EqualFunc_Step_4 qF qG qB qJ qK qH qI)) := by kernel_rfl
theorem bs_EqualFunc_Step_4 : loopsOf b_EqualFunc_Step_4 ++ loopsInl [] = [] := by kernel_rfl
theorem ci_EqualFunc_Step_4 (qF : Option Bool) (qG : Bool) (qB : List (Ty .step)) (qJ : Option Bool) (qK : Bool) (qH : List (Ty .step)) (qI : Int) : ∀ v j v2, Lp (S.EqualFunc_Step_4_r qB qH qI) v = some (j, v2) → Circles Try.prog cx_EqualFunc_Step b_EqualFunc_Step_4 (mk_EqualFunc_Step_4 qF qG qB qJ qK qH qI v) (ex_EqualFunc_Step_4 qF qG qB qJ qK qH qI j v2).1 (ex_EqualFunc_Step_4 qF qG qB qJ qK qH qI j v2).2 :=
  loop_ok2 (L := find []) (n := 0) (hints := [(157, 4, { keep := [1, 2, 15, 16, 17], acc := [] })]) (cx_ok rfl) rdy_EqualFunc_Step bs_EqualFunc_Step_4 nilB (fun v => (rnd_EqualFunc_Step_4 qF qG qB qJ qK qH qI v).trans (DT.go_run _ _)) (by intro j v; unfold ex_EqualFunc_Step_4; split <;> rfl)
theorem mke_EqualFunc_Step_4 (qF : Option Bool) (qG : Bool) (qB : List (Ty .step)) (qJ : Option Bool) (qK : Bool) (qH : List (Ty .step)) (qI : Int) (v : S.EqualFunc_Step_4_V) : mk_EqualFunc_Step_4 qF qG qB qJ qK qH qI v = ⟨envOf 32 [(1, V.v false [C.d (.sl qF qG ET.step qB)]), (2, V.v false [C.d (D.fn 158 [] [])]), (15, V.v false [C.d (.sl qJ qK ET.step qH)]), (16, V.v false [C.d (.sc (.int .i64 qI))]), (17, V.v false [C.d (.sc (.int .i64 v.t_17_0))])], heapOf 9 [], 0⟩ := by kernel_rfl
theorem lo1_EqualFunc_Step_4 (e1 : V) (e2 : V) (e15 : V) (e16 : V) (e17 : V)  e st2 (h : (T1_EqualFunc_Step_4 e1 e2 e15 e16 e17).eval = some (e, st2)) : Circles Try.prog cx_EqualFunc_Step b_EqualFunc_Step_4 ⟨envOf 32 [(1, e1), (2, e2), (15, e15), (16, e16), (17, e17)], heapOf 9 [], 0⟩ e st2 := by
  unfold T1_EqualFunc_Step_4 at h
  split at h
  · have := loop_tree (mk := mk_EqualFunc_Step_4 _ _ _ _ _ _ _) (ci_EqualFunc_Step_4 _ _ _ _ _ _ _) _ _ e st2 h
    rw [mke_EqualFunc_Step_4] at this
    exact this
  · cases h
theorem lok_EqualFunc_Step_4 : LoopOk Try.prog cx_EqualFunc_Step b_EqualFunc_Step_4 T_EqualFunc_Step_4 := by
  intro st e st2 h
  unfold T_EqualFunc_Step_4 at h
  cases hk : okSt 32 9 0 [] st with
  | false => rw [hk] at h; cases h
  | true =>
    rw [hk] at h
    exact circles_keep (ks := [1, 2, 15, 16, 17]) hk (lo1_EqualFunc_Step_4 _ _ _ _ _ e st2 h)
structure S.EqualFunc_Step_T where
  x0 : Bool
  deriving Inhabited
def S.EqualFunc_Step_R (a0 : List (Ty .step)) (a1 : List (Ty .step)) : DT S.EqualFunc_Step_T :=
let y0 : Int := (↑a0.length : Int)
let y1 : S.EqualFunc_Step_4_V := { t_17_0 := 0 : S.EqualFunc_Step_4_V }
(.br (xneI y0 (↑a1.length : Int))
(.leaf ⟨false⟩)
(.br (S.EqualFunc_Step_4_j a1 a0 y0 y1 0)
(.leaf ⟨false⟩)
(.br (S.EqualFunc_Step_4_j a1 a0 y0 y1 1)
(.leaf ⟨true⟩)
.fail)))
def S.EqualFunc_Step (a0 : List (Ty .step)) (a1 : List (Ty .step)) : Option S.EqualFunc_Step_T := (S.EqualFunc_Step_R a0 a1).run
def S.EqualFunc_Step_is (a0 : List (Ty .step)) (a1 : List (Ty .step)) : Bool := (S.EqualFunc_Step a0 a1).isSome
def S.EqualFunc_Step_o (a0 : List (Ty .step)) (a1 : List (Ty .step)) : S.EqualFunc_Step_T := (S.EqualFunc_Step a0 a1).getD default
def ret_EqualFunc_Step (b : Bool) (r : S.EqualFunc_Step_T) : Ret := ⟨b, none, [(false, [C.d (.sc (.bool r.x0))])]⟩
def g_EqualFunc_Step : Con
  | [(false, [.sl a0n a0f .step a0]), (false, [.sl a1n a1f .step a1]), (false, [.fn 158 [] []])] => some (ret_EqualFunc_Step (S.EqualFunc_Step_is a0 a1) (S.EqualFunc_Step_o a0 a1))
  | _ => none
theorem raw_EqualFunc_Step (a0n : Option Bool) (a0f : Bool) (a0 : List (Ty .step)) (a1n : Option Bool) (a1f : Bool) (a1 : List (Ty .step)) : evR2 cx_EqualFunc_Step (hdI cx_EqualFunc_Step (find [(4, T_EqualFunc_Step_4)]) [] none 0) none Try.f157 157 none [(false, [.sl a0n a0f .step a0]), (false, [.sl a1n a1f .step a1]), (false, [.fn 158 [] []])] some = (S.EqualFunc_Step_R a0 a1).go (ret_EqualFunc_Step true) := by kernel_rfl
theorem bs_EqualFunc_Step : loopsIn Try.f157 [] = [b_EqualFunc_Step_4] := by kernel_rfl
theorem EqualFunc_Step_ok : Stands Try.prog tyTab 157 g_EqualFunc_Step := by
  refine stands3 (L := find [(4, T_EqualFunc_Step_4)]) (n := 0) (hints := [(157, 4, { keep := [1, 2, 15, 16, 17], acc := [] })]) (cx_ok rfl) rdy_EqualFunc_Step ⟨by kernel_rfl, by kernel_rfl, by kernel_rfl⟩ bs_EqualFunc_Step (consB (fun T h => by have e : T_EqualFunc_Step_4 = T := Option.some.inj (show some T_EqualFunc_Step_4 = some T from h); exact e ▸ lok_EqualFunc_Step_4) nilB) (fun das r hG hr => ?_)
  unfold g_EqualFunc_Step at hG
  split at hG
  · rename_i a0n a0f a0 a1n a1f a1
    injection hG with hG; subst hG
    exact ⟨none, true, win default ((raw_EqualFunc_Step a0n a0f a0 a1n a1f a1).trans (DT.go_run _ _)) hr⟩
  · cases hG
abbrev cx_query_Same : Cx := mkCx2 tyTab [(157, g_EqualFunc_Step), (158, g_query_alike)] [] [] []
theorem rdy_query_Same : Ready Try.prog tyTab [(157, g_EqualFunc_Step), (158, g_query_alike)] [] [] := ⟨consG2 EqualFunc_Step_ok (consG2 query_alike_ok (noneG2)), noneI2, noneF2⟩
structure S.query_Same_T where
  x0 : Bool
  deriving Inhabited
def S.query_Same_R (a0_0 : List (Ty .step)) (a0_1 : Int) (a0_2 : Int) (a0_3 : Int) (a0_4 : Int) (a1_0 : List (Ty .step)) (a1_1 : Int) (a1_2 : Int) (a1_3 : Int) (a1_4 : Int) : DT S.query_Same_T :=
(.br (xeqI a0_2 a1_2)
(.br (xeqI a0_3 a1_3)
(.br (xeqI a0_4 a1_4)
(.br (xeqI a0_1 a1_1)
(.br (S.EqualFunc_Step_is a0_0 a1_0)
(.leaf ⟨(S.EqualFunc_Step_o a0_0 a1_0).x0⟩)
.fail)
(.leaf ⟨false⟩))
(.leaf ⟨false⟩))
(.leaf ⟨false⟩))
(.leaf ⟨false⟩))
def S.query_Same (a0_0 : List (Ty .step)) (a0_1 : Int) (a0_2 : Int) (a0_3 : Int) (a0_4 : Int) (a1_0 : List (Ty .step)) (a1_1 : Int) (a1_2 : Int) (a1_3 : Int) (a1_4 : Int) : Option S.query_Same_T := (S.query_Same_R a0_0 a0_1 a0_2 a0_3 a0_4 a1_0 a1_1 a1_2 a1_3 a1_4).run
def S.query_Same_is (a0_0 : List (Ty .step)) (a0_1 : Int) (a0_2 : Int) (a0_3 : Int) (a0_4 : Int) (a1_0 : List (Ty .step)) (a1_1 : Int) (a1_2 : Int) (a1_3 : Int) (a1_4 : Int) : Bool := (S.query_Same a0_0 a0_1 a0_2 a0_3 a0_4 a1_0 a1_1 a1_2 a1_3 a1_4).isSome
def S.query_Same_o (a0_0 : List (Ty .step)) (a0_1 : Int) (a0_2 : Int) (a0_3 : Int) (a0_4 : Int) (a1_0 : List (Ty .step)) (a1_1 : Int) (a1_2 : Int) (a1_3 : Int) (a1_4 : Int) : S.query_Same_T := (S.query_Same a0_0 a0_1 a0_2 a0_3 a0_4 a1_0 a1_1 a1_2 a1_3 a1_4).getD default
def ret_query_Same (b : Bool) (r : S.query_Same_T) : Ret := ⟨b, none, [(false, [C.d (.sc (.bool r.x0))])]⟩
def g_query_Same : Con
  | [(true, [.sl a0_0n a0_0f .step a0_0, .sc (.int .i64 a0_1), .sc (.int .i64 a0_2), .sc (.int .i64 a0_3), .sc (.int .i64 a0_4)]), (true, [.sl a1_0n a1_0f .step a1_0, .sc (.int .i64 a1_1), .sc (.int .i64 a1_2), .sc (.int .i64 a1_3), .sc (.int .i64 a1_4)])] => some (ret_query_Same (S.query_Same_is a0_0 a0_1 a0_2 a0_3 a0_4 a1_0 a1_1 a1_2 a1_3 a1_4) (S.query_Same_o a0_0 a0_1 a0_2 a0_3 a0_4 a1_0 a1_1 a1_2 a1_3 a1_4))
  | _ => none
theorem raw_query_Same (a0_0n : Option Bool) (a0_0f : Bool) (a0_0 : List (Ty .step)) (a0_1 : Int) (a0_2 : Int) (a0_3 : Int) (a0_4 : Int) (a1_0n : Option Bool) (a1_0f : Bool) (a1_0 : List (Ty .step)) (a1_1 : Int) (a1_2 : Int) (a1_3 : Int) (a1_4 : Int) : evR2 cx_query_Same (hdI cx_query_Same (find []) [] none 0) none Try.f131 131 none [(true, [.sl a0_0n a0_0f .step a0_0, .sc (.int .i64 a0_1), .sc (.int .i64 a0_2), .sc (.int .i64 a0_3), .sc (.int .i64 a0_4)]), (true, [.sl a1_0n a1_0f .step a1_0, .sc (.int .i64 a1_1), .sc (.int .i64 a1_2), .sc (.int .i64 a1_3), .sc (.int .i64 a1_4)])] some = (S.query_Same_R a0_0 a0_1 a0_2 a0_3 a0_4 a1_0 a1_1 a1_2 a1_3 a1_4).go (ret_query_Same true) := by kernel_rfl
theorem bs_query_Same : loopsIn Try.f131 [] = [] := by kernel_rfl
theorem query_Same_ok : Stands Try.prog tyTab 131 g_query_Same := by
  refine stands3 (L := find []) (n := 0) (hints := []) (cx_ok rfl) rdy_query_Same ⟨by kernel_rfl, by kernel_rfl, by kernel_rfl⟩ bs_query_Same nilB (fun das r hG hr => ?_)
  unfold g_query_Same at hG
  split at hG
  · rename_i a0_0n a0_0f a0_0 a0_1 a0_2 a0_3 a0_4 a1_0n a1_0f a1_0 a1_1 a1_2 a1_3 a1_4
    injection hG with hG; subst hG
    exact ⟨none, true, win default ((raw_query_Same a0_0n a0_0f a0_0 a0_1 a0_2 a0_3 a0_4 a1_0n a1_0f a1_0 a1_1 a1_2 a1_3 a1_4).trans (DT.go_run _ _)) hr⟩
  · cases hG
abbrev cx_match_Same : Cx := mkCx2 tyTab [(131, g_query_Same), (132, g_slices_Equal_Run)] [] [] []
theorem rdy_match_Same : Ready Try.prog tyTab [(131, g_query_Same), (132, g_slices_Equal_Run)] [] [] := ⟨consG2 query_Same_ok (consG2 slices_Equal_Run_ok (noneG2)), noneI2, noneF2⟩
structure S.match_Same_T where
  x0 : Bool
  deriving Inhabited
def S.match_Same_R (a0_0 : List (Ty .step)) (a0_1 : Int) (a0_2 : Int) (a0_3 : Int) (a0_4 : Int) (a0_5 : List (Ty .run)) (a0_6 : Int) (a1_0 : List (Ty .step)) (a1_1 : Int) (a1_2 : Int) (a1_3 : Int) (a1_4 : Int) (a1_5 : List (Ty .run)) (a1_6 : Int) : DT S.match_Same_T :=
(.br (S.query_Same_is a0_0 a0_1 a0_2 a0_3 a0_4 a1_0 a1_1 a1_2 a1_3 a1_4)
(.br ((S.query_Same_o a0_0 a0_1 a0_2 a0_3 a0_4 a1_0 a1_1 a1_2 a1_3 a1_4).x0)
(.br (xeqI a0_6 a1_6)
(.br (S.slices_Equal_Run_is a0_5 a1_5)
(.leaf ⟨(S.slices_Equal_Run_o a0_5 a1_5).x0⟩)
.fail)
(.leaf ⟨false⟩))
(.leaf ⟨false⟩))
.fail)
def S.match_Same (a0_0 : List (Ty .step)) (a0_1 : Int) (a0_2 : Int) (a0_3 : Int) (a0_4 : Int) (a0_5 : List (Ty .run)) (a0_6 : Int) (a1_0 : List (Ty .step)) (a1_1 : Int) (a1_2 : Int) (a1_3 : Int) (a1_4 : Int) (a1_5 : List (Ty .run)) (a1_6 : Int) : Option S.match_Same_T := (S.match_Same_R a0_0 a0_1 a0_2 a0_3 a0_4 a0_5 a0_6 a1_0 a1_1 a1_2 a1_3 a1_4 a1_5 a1_6).run
def S.match_Same_is (a0_0 : List (Ty .step)) (a0_1 : Int) (a0_2 : Int) (a0_3 : Int) (a0_4 : Int) (a0_5 : List (Ty .run)) (a0_6 : Int) (a1_0 : List (Ty .step)) (a1_1 : Int) (a1_2 : Int) (a1_3 : Int) (a1_4 : Int) (a1_5 : List (Ty .run)) (a1_6 : Int) : Bool := (S.match_Same a0_0 a0_1 a0_2 a0_3 a0_4 a0_5 a0_6 a1_0 a1_1 a1_2 a1_3 a1_4 a1_5 a1_6).isSome
def S.match_Same_o (a0_0 : List (Ty .step)) (a0_1 : Int) (a0_2 : Int) (a0_3 : Int) (a0_4 : Int) (a0_5 : List (Ty .run)) (a0_6 : Int) (a1_0 : List (Ty .step)) (a1_1 : Int) (a1_2 : Int) (a1_3 : Int) (a1_4 : Int) (a1_5 : List (Ty .run)) (a1_6 : Int) : S.match_Same_T := (S.match_Same a0_0 a0_1 a0_2 a0_3 a0_4 a0_5 a0_6 a1_0 a1_1 a1_2 a1_3 a1_4 a1_5 a1_6).getD default
def ret_match_Same (b : Bool) (r : S.match_Same_T) : Ret := ⟨b, none, [(false, [C.d (.sc (.bool r.x0))])]⟩
def g_match_Same : Con
  | [(true, [.sl a0_0n a0_0f .step a0_0, .sc (.int .i64 a0_1), .sc (.int .i64 a0_2), .sc (.int .i64 a0_3), .sc (.int .i64 a0_4), .sl a0_5n a0_5f .run a0_5, .sc (.int .i64 a0_6)]), (true, [.sl a1_0n a1_0f .step a1_0, .sc (.int .i64 a1_1), .sc (.int .i64 a1_2), .sc (.int .i64 a1_3), .sc (.int .i64 a1_4), .sl a1_5n a1_5f .run a1_5, .sc (.int .i64 a1_6)])] => some (ret_match_Same (S.match_Same_is a0_0 a0_1 a0_2 a0_3 a0_4 a0_5 a0_6 a1_0 a1_1 a1_2 a1_3 a1_4 a1_5 a1_6) (S.match_Same_o a0_0 a0_1 a0_2 a0_3 a0_4 a0_5 a0_6 a1_0 a1_1 a1_2 a1_3 a1_4 a1_5 a1_6))
  | _ => none
theorem raw_match_Same (a0_0n : Option Bool) (a0_0f : Bool) (a0_0 : List (Ty .step)) (a0_1 : Int) (a0_2 : Int) (a0_3 : Int) (a0_4 : Int) (a0_5n : Option Bool) (a0_5f : Bool) (a0_5 : List (Ty .run)) (a0_6 : Int) (a1_0n : Option Bool) (a1_0f : Bool) (a1_0 : List (Ty .step)) (a1_1 : Int) (a1_2 : Int) (a1_3 : Int) (a1_4 : Int) (a1_5n : Option Bool) (a1_5f : Bool) (a1_5 : List (Ty .run)) (a1_6 : Int) : evR2 cx_match_Same (hdI cx_match_Same (find []) [] none 0) none Try.f98 98 none [(true, [.sl a0_0n a0_0f .step a0_0, .sc (.int .i64 a0_1), .sc (.int .i64 a0_2), .sc (.int .i64 a0_3), .sc (.int .i64 a0_4), .sl a0_5n a0_5f .run a0_5, .sc (.int .i64 a0_6)]), (true, [.sl a1_0n a1_0f .step a1_0, .sc (.int .i64 a1_1), .sc (.int .i64 a1_2), .sc (.int .i64 a1_3), .sc (.int .i64 a1_4), .sl a1_5n a1_5f .run a1_5, .sc (.int .i64 a1_6)])] some = (S.match_Same_R a0_0 a0_1 a0_2 a0_3 a0_4 a0_5 a0_6 a1_0 a1_1 a1_2 a1_3 a1_4 a1_5 a1_6).go (ret_match_Same true) := by kernel_rfl
theorem bs_match_Same : loopsIn Try.f98 [] = [] := by kernel_rfl
theorem match_Same_ok : Stands Try.prog tyTab 98 g_match_Same := by
  refine stands3 (L := find []) (n := 0) (hints := []) (cx_ok rfl) rdy_match_Same ⟨by kernel_rfl, by kernel_rfl, by kernel_rfl⟩ bs_match_Same nilB (fun das r hG hr => ?_)
  unfold g_match_Same at hG
  split at hG
  · rename_i a0_0n a0_0f a0_0 a0_1 a0_2 a0_3 a0_4 a0_5n a0_5f a0_5 a0_6 a1_0n a1_0f a1_0 a1_1 a1_2 a1_3 a1_4 a1_5n a1_5f a1_5 a1_6
    injection hG with hG; subst hG
    exact ⟨none, true, win default ((raw_match_Same a0_0n a0_0f a0_0 a0_1 a0_2 a0_3 a0_4 a0_5n a0_5f a0_5 a0_6 a1_0n a1_0f a1_0 a1_1 a1_2 a1_3 a1_4 a1_5n a1_5f a1_5 a1_6).trans (DT.go_run _ _)) hr⟩
  · cases hG
abbrev cx_law13_Few : Cx := mkCx2 tyTab [(50, g_law09_Few)] [] [] []
theorem rdy_law13_Few : Ready Try.prog tyTab [(50, g_law09_Few)] [] [] := ⟨consG2 law09_Few_ok (noneG2), noneI2, noneF2⟩
structure S.law13_Few_T where
  x0 : Bool
  deriving Inhabited
def S.law13_Few_R (a0_0 : List (Ty .step)) (a0_5 : List (Ty .run)) : DT S.law13_Few_T :=
(.br (S.law09_Few_is a0_0)
(.br ((S.law09_Few_o a0_0).x0)
(.leaf ⟨xdec ((↑a0_5.length : Int) ≤ 10)⟩)
(.leaf ⟨false⟩))
.fail)
def S.law13_Few (a0_0 : List (Ty .step)) (a0_5 : List (Ty .run)) : Option S.law13_Few_T := (S.law13_Few_R a0_0 a0_5).run
def S.law13_Few_is (a0_0 : List (Ty .step)) (a0_5 : List (Ty .run)) : Bool := (S.law13_Few a0_0 a0_5).isSome
def S.law13_Few_o (a0_0 : List (Ty .step)) (a0_5 : List (Ty .run)) : S.law13_Few_T := (S.law13_Few a0_0 a0_5).getD default
def ret_law13_Few (b : Bool) (r : S.law13_Few_T) : Ret := ⟨b, none, [(false, [C.d (.sc (.bool r.x0))])]⟩
def g_law13_Few : Con
  | [(true, [.sl a0_0n a0_0f .step a0_0, .sc (.int .i64 a0_1), .sc (.int .i64 a0_2), .sc (.int .i64 a0_3), .sc (.int .i64 a0_4), .sl a0_5n a0_5f .run a0_5, .sc (.int .i64 a0_6)])] => some (ret_law13_Few (S.law13_Few_is a0_0 a0_5) (S.law13_Few_o a0_0 a0_5))
  | _ => none
theorem raw_law13_Few (a0_0n : Option Bool) (a0_0f : Bool) (a0_0 : List (Ty .step)) (a0_1 : Int) (a0_2 : Int) (a0_3 : Int) (a0_4 : Int) (a0_5n : Option Bool) (a0_5f : Bool) (a0_5 : List (Ty .run)) (a0_6 : Int) : evR2 cx_law13_Few (hdI cx_law13_Few (find []) [] none 0) none Try.f56 56 none [(true, [.sl a0_0n a0_0f .step a0_0, .sc (.int .i64 a0_1), .sc (.int .i64 a0_2), .sc (.int .i64 a0_3), .sc (.int .i64 a0_4), .sl a0_5n a0_5f .run a0_5, .sc (.int .i64 a0_6)])] some = (S.law13_Few_R a0_0 a0_5).go (ret_law13_Few true) := by kernel_rfl
theorem bs_law13_Few : loopsIn Try.f56 [] = [] := by kernel_rfl
theorem law13_Few_ok : Stands Try.prog tyTab 56 g_law13_Few := by
  refine stands3 (L := find []) (n := 0) (hints := []) (cx_ok rfl) rdy_law13_Few ⟨by kernel_rfl, by kernel_rfl, by kernel_rfl⟩ bs_law13_Few nilB (fun das r hG hr => ?_)
  unfold g_law13_Few at hG
  split at hG
  · rename_i a0_0n a0_0f a0_0 a0_1 a0_2 a0_3 a0_4 a0_5n a0_5f a0_5 a0_6
    injection hG with hG; subst hG
    exact ⟨none, true, win default ((raw_law13_Few a0_0n a0_0f a0_0 a0_1 a0_2 a0_3 a0_4 a0_5n a0_5f a0_5 a0_6).trans (DT.go_run _ _)) hr⟩
  · cases hG
end
end Go.Eng
