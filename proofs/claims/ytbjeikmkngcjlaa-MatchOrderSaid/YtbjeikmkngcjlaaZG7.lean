/- Contracts, laid by program. -/
import Derived.Test.YtbjeikmkngcjlaaZG5
set_option linter.unusedVariables false
set_option linter.unusedSimpArgs false
namespace Go.Eng
open Go Go.Eng Go.Proofs Go.Eng.Tab
noncomputable abbrev cx_slices_Equal_Run : Cx := mkCx2 tyTab [] [] [(132, 4, { keep := [0, 1, 12, 13], acc := [] })] []
theorem rdy_slices_Equal_Run : Ready Try.prog tyTab [] [] [] := ⟨noneG2, noneI2, noneF2⟩
structure S.slices_Equal_Run_4_V where
  t_13_0 : Int
noncomputable def S.slices_Equal_Run_4_R (t_0_0 : List (Ty ET.run)) (t_1_0 : List (Ty ET.run)) (t_12_0 : Int) (v : S.slices_Equal_Run_4_V) : DT (Option Nat × S.slices_Equal_Run_4_V) :=
let y0 : Bool := xdec (0 ≤ v.t_13_0)
let y1 : Ty ET.run := t_0_0.getD v.t_13_0.toNat (dflt ET.run)
let y2 : Ty ET.run := t_1_0.getD v.t_13_0.toNat (dflt ET.run)
(.br (xdec (v.t_13_0 < t_12_0))
(.br (y0 && xdec (v.t_13_0 < (↑t_0_0.length : Int)))
(.br (y0 && xdec (v.t_13_0 < (↑t_1_0.length : Int)))
(.br (bif xeqI y1.first y2.first && (xeqI y1.at_ y2.at_ && (xeqI y1.step y2.step && (xeqI y1.n y2.n && (xeqI y1.many y2.many && (xeqI y1.agg y2.agg && xeqB y1.bad y2.bad))))) then false
else true)
(.leaf (some 0, v))
(.leaf (none, ⟨xwrap IntKind.i64 (v.t_13_0 + 1)⟩)))
.fail)
.fail)
(.leaf (some 1, v)))
noncomputable def S.slices_Equal_Run_4_r (t_0_0 : List (Ty ET.run)) (t_1_0 : List (Ty ET.run)) (t_12_0 : Int) (v : S.slices_Equal_Run_4_V) : Option (Option Nat × S.slices_Equal_Run_4_V) := (S.slices_Equal_Run_4_R t_0_0 t_1_0 t_12_0 v).run
noncomputable def S.slices_Equal_Run_4_j (t_0_0 : List (Ty ET.run)) (t_1_0 : List (Ty ET.run)) (t_12_0 : Int) (v : S.slices_Equal_Run_4_V) (j : Nat) : Bool := Lp_j (S.slices_Equal_Run_4_r t_0_0 t_1_0 t_12_0) v j
noncomputable def S.slices_Equal_Run_4_v (t_0_0 : List (Ty ET.run)) (t_1_0 : List (Ty ET.run)) (t_12_0 : Int) (v : S.slices_Equal_Run_4_V) : S.slices_Equal_Run_4_V := Lp_v (S.slices_Equal_Run_4_r t_0_0 t_1_0 t_12_0) v
noncomputable def mk_slices_Equal_Run_4 (t_0_0n : Option Bool) (t_0_0f : Bool) (t_0_0 : List (Ty ET.run)) (t_1_0n : Option Bool) (t_1_0f : Bool) (t_1_0 : List (Ty ET.run)) (t_12_0 : Int) (v : S.slices_Equal_Run_4_V) : St := ⟨[V.v false [C.d (D.sl t_0_0n t_0_0f ET.run t_0_0)], V.v false [C.d (D.sl t_1_0n t_1_0f ET.run t_1_0)], V.any, V.any, V.any, V.any, V.any, V.any, V.any, V.any, V.any, V.any,
  V.v false [C.d (D.sc (Sc.int IntKind.i64 t_12_0))], V.v false [C.d (D.sc (Sc.int IntKind.i64 v.t_13_0))], V.any, V.any, V.any, V.any, V.any, V.any, V.any, V.any, V.any, V.any,
  V.any, V.any], [none, none, none, none, none, none, none, none, none], 0⟩
noncomputable def ex_slices_Equal_Run_4 (t_0_0n : Option Bool) (t_0_0f : Bool) (t_0_0 : List (Ty ET.run)) (t_1_0n : Option Bool) (t_1_0f : Bool) (t_1_0 : List (Ty ET.run)) (t_12_0 : Int) (j : Nat) (v : S.slices_Equal_Run_4_V) : Ex × St := match j with
  | 0 => (Ex.ret, ⟨[V.any, V.any, V.any, V.any, V.v false [C.d (D.sc (Sc.bool false))], V.any, V.any, V.any, V.any, V.any, V.any, V.any, V.any, V.any, V.any, V.any, V.any, V.any, V.any, V.any, V.any,
  V.any, V.any, V.any, V.any, V.any], [none, none, none, none, none, none, none, none, none, none, none, none, none, none, none, none, none, none, none, none, none, none], 0⟩)
  | 1 => (Ex.exit 0, ⟨[V.any, V.any, V.any, V.any, V.any, V.any, V.any, V.any, V.any, V.any, V.any, V.any, V.any, V.any, V.any, V.any, V.any, V.any, V.any, V.any, V.any, V.any, V.any, V.any, V.any,
  V.any], [none, none, none, none, none, none, none, none, none, none], 0⟩)
  | _ => (.ret, ⟨[], [], 0⟩)
noncomputable def T1_slices_Equal_Run_4 : V → V → V → V → Tree
  | V.v false [C.d (D.sl t_0_0n t_0_0f ET.run t_0_0)], V.v false [C.d (D.sl t_1_0n t_1_0f ET.run t_1_0)], V.v false [C.d (D.sc (Sc.int IntKind.i64 t_12_0))], V.v false [C.d (D.sc (Sc.int IntKind.i64 t_13_0))] => exT (fun j => ex_slices_Equal_Run_4 t_0_0n t_0_0f t_0_0 t_1_0n t_1_0f t_1_0 t_12_0 j (S.slices_Equal_Run_4_v t_0_0 t_1_0 t_12_0 ⟨t_13_0⟩)) (S.slices_Equal_Run_4_j t_0_0 t_1_0 t_12_0 ⟨t_13_0⟩) [0, 1]
  | _, _, _, _ => .bad
noncomputable def T_slices_Equal_Run_4 (st : St) : Tree := bif okSt 26 9 0 [] st then T1_slices_Equal_Run_4 (st.env.getD 0 .any) (st.env.getD 1 .any) (st.env.getD 12 .any) (st.env.getD 13 .any) else .bad
noncomputable def b_slices_Equal_Run_4 : Code := loopBy Try.f132 4
theorem rnd_slices_Equal_Run_4 (t_0_0n : Option Bool) (t_0_0f : Bool) (t_0_0 : List (Ty ET.run)) (t_1_0n : Option Bool) (t_1_0f : Bool) (t_1_0 : List (Ty ET.run)) (t_12_0 : Int) (v : S.slices_Equal_Run_4_V) : round2 cx_slices_Equal_Run (hdI cx_slices_Equal_Run (find []) [] none 0) 132 b_slices_Equal_Run_4 [] 9 [4] (mk_slices_Equal_Run_4 t_0_0n t_0_0f t_0_0 t_1_0n t_1_0f t_1_0 t_12_0 v) = (S.slices_Equal_Run_4_R t_0_0 t_1_0 t_12_0 v).go (roundOut (mk_slices_Equal_Run_4 t_0_0n t_0_0f t_0_0 t_1_0n t_1_0f t_1_0 t_12_0) (ex_slices_Equal_Run_4 t_0_0n t_0_0f t_0_0 t_1_0n t_1_0f t_1_0 t_12_0)) := by kernel_rfl
theorem bs_slices_Equal_Run_4 : loopsOf b_slices_Equal_Run_4 ++ loopsInl [] = [] := by kernel_rfl
theorem ci_slices_Equal_Run_4 (t_0_0n : Option Bool) (t_0_0f : Bool) (t_0_0 : List (Ty ET.run)) (t_1_0n : Option Bool) (t_1_0f : Bool) (t_1_0 : List (Ty ET.run)) (t_12_0 : Int) : ∀ v j v2, Lp (S.slices_Equal_Run_4_r t_0_0 t_1_0 t_12_0) v = some (j, v2) → Circles Try.prog cx_slices_Equal_Run b_slices_Equal_Run_4 (mk_slices_Equal_Run_4 t_0_0n t_0_0f t_0_0 t_1_0n t_1_0f t_1_0 t_12_0 v) (ex_slices_Equal_Run_4 t_0_0n t_0_0f t_0_0 t_1_0n t_1_0f t_1_0 t_12_0 j v2).1 (ex_slices_Equal_Run_4 t_0_0n t_0_0f t_0_0 t_1_0n t_1_0f t_1_0 t_12_0 j v2).2 :=
  loop_ok2 (L := find []) (n := 0) (hints := [(132, 4, { keep := [0, 1, 12, 13], acc := [] })]) (cx_ok rfl) rdy_slices_Equal_Run bs_slices_Equal_Run_4 nilB (fun v => (rnd_slices_Equal_Run_4 t_0_0n t_0_0f t_0_0 t_1_0n t_1_0f t_1_0 t_12_0 v).trans (DT.go_run _ _)) (by intro j v; unfold ex_slices_Equal_Run_4; split <;> rfl)
theorem mke_slices_Equal_Run_4 (t_0_0n : Option Bool) (t_0_0f : Bool) (t_0_0 : List (Ty ET.run)) (t_1_0n : Option Bool) (t_1_0f : Bool) (t_1_0 : List (Ty ET.run)) (t_12_0 : Int) (v : S.slices_Equal_Run_4_V) : mk_slices_Equal_Run_4 t_0_0n t_0_0f t_0_0 t_1_0n t_1_0f t_1_0 t_12_0 v = ⟨envOf 26 [(0, V.v false [C.d (D.sl t_0_0n t_0_0f ET.run t_0_0)]), (1, V.v false [C.d (D.sl t_1_0n t_1_0f ET.run t_1_0)]), (12, V.v false [C.d (D.sc (Sc.int IntKind.i64 t_12_0))]), (13, V.v false [C.d (D.sc (Sc.int IntKind.i64 v.t_13_0))])], heapOf 9 [], 0⟩ := by kernel_rfl
theorem lo1_slices_Equal_Run_4 (e0 : V) (e1 : V) (e12 : V) (e13 : V)  e st2 (h : (T1_slices_Equal_Run_4 e0 e1 e12 e13).eval = some (e, st2)) : Circles Try.prog cx_slices_Equal_Run b_slices_Equal_Run_4 ⟨envOf 26 [(0, e0), (1, e1), (12, e12), (13, e13)], heapOf 9 [], 0⟩ e st2 := by
  unfold T1_slices_Equal_Run_4 at h
  split at h
  · have := loop_tree (mk := mk_slices_Equal_Run_4 _ _ _ _ _ _ _) (ci_slices_Equal_Run_4 _ _ _ _ _ _ _) _ _ e st2 h
    rw [mke_slices_Equal_Run_4] at this
    exact this
  · cases h
theorem lok_slices_Equal_Run_4 : LoopOk Try.prog cx_slices_Equal_Run b_slices_Equal_Run_4 T_slices_Equal_Run_4 := by
  intro st e st2 h
  unfold T_slices_Equal_Run_4 at h
  cases hk : okSt 26 9 0 [] st with
  | false => rw [hk] at h; cases h
  | true =>
    rw [hk] at h
    exact circles_keep (ks := [0, 1, 12, 13]) hk (lo1_slices_Equal_Run_4 _ _ _ _ e st2 h)
structure S.slices_Equal_Run_T where
  x0 : Bool
  deriving Inhabited
noncomputable def S.slices_Equal_Run_R (a0 : List (Ty .run)) (a1 : List (Ty .run)) : DT S.slices_Equal_Run_T :=
let y0 : Int := (↑a0.length : Int)
let y1 : S.slices_Equal_Run_4_V := { t_13_0 := 0 : S.slices_Equal_Run_4_V }
(.br (xneI y0 (↑a1.length : Int))
(.leaf ⟨false⟩)
(.br (S.slices_Equal_Run_4_j a0 a1 y0 y1 0)
(.leaf ⟨false⟩)
(.br (S.slices_Equal_Run_4_j a0 a1 y0 y1 1)
(.leaf ⟨true⟩)
.fail)))
noncomputable def S.slices_Equal_Run (a0 : List (Ty .run)) (a1 : List (Ty .run)) : Option S.slices_Equal_Run_T := (S.slices_Equal_Run_R a0 a1).run
noncomputable def S.slices_Equal_Run_is (a0 : List (Ty .run)) (a1 : List (Ty .run)) : Bool := (S.slices_Equal_Run a0 a1).isSome
noncomputable def S.slices_Equal_Run_o (a0 : List (Ty .run)) (a1 : List (Ty .run)) : S.slices_Equal_Run_T := (S.slices_Equal_Run a0 a1).getD default
noncomputable def ret_slices_Equal_Run (b : Bool) (r : S.slices_Equal_Run_T) : Ret := ⟨b, none, [(false, [C.d (D.sc (Sc.bool r.x0))])]⟩
noncomputable def g_slices_Equal_Run : Con
  | [(false, [.sl a0n a0f .run a0]), (false, [.sl a1n a1f .run a1])] => some (ret_slices_Equal_Run (S.slices_Equal_Run_is a0 a1) (S.slices_Equal_Run_o a0 a1))
  | _ => none
theorem raw_slices_Equal_Run (a0n : Option Bool) (a0f : Bool) (a0 : List (Ty .run)) (a1n : Option Bool) (a1f : Bool) (a1 : List (Ty .run)) : evR2 cx_slices_Equal_Run (hdI cx_slices_Equal_Run (find [(4, T_slices_Equal_Run_4)]) [] none 0) none Try.f132 132 none [(false, [.sl a0n a0f .run a0]), (false, [.sl a1n a1f .run a1])] some = (S.slices_Equal_Run_R a0 a1).go (ret_slices_Equal_Run true) := by kernel_rfl
theorem bs_slices_Equal_Run : loopsIn Try.f132 [] = [b_slices_Equal_Run_4] := by kernel_rfl
theorem slices_Equal_Run_ok : Stands Try.prog tyTab 132 g_slices_Equal_Run := by
  refine stands3 (L := find [(4, T_slices_Equal_Run_4)]) (n := 0) (hints := [(132, 4, { keep := [0, 1, 12, 13], acc := [] })]) (cx_ok rfl) rdy_slices_Equal_Run ⟨by kernel_rfl, by kernel_rfl, by kernel_rfl⟩ bs_slices_Equal_Run (consB (fun T h => by have e : T_slices_Equal_Run_4 = T := Option.some.inj (show some T_slices_Equal_Run_4 = some T from h); exact e ▸ lok_slices_Equal_Run_4) nilB) (fun das r hG hr => ?_)
  unfold g_slices_Equal_Run at hG
  split at hG
  · rename_i a0n a0f a0 a1n a1f a1
    injection hG with hG; subst hG
    exact ⟨none, true, win default ((raw_slices_Equal_Run a0n a0f a0 a1n a1f a1).trans (DT.go_run _ _)) hr⟩
  · cases hG
noncomputable abbrev cx_query_alike : Cx := mkCx2 tyTab [(123, g_expr_Same)] [] [] []
theorem rdy_query_alike : Ready Try.prog tyTab [(123, g_expr_Same)] [] [] := ⟨consG2 expr_Same_ok (noneG2), noneI2, noneF2⟩
structure S.query_alike_T where
  x0 : Bool
  deriving Inhabited
noncomputable def S.query_alike_R (a0_0 : ByteArray) (a0_1 : List (Ty .op)) (a0_2 : Int) (a0_3 : Int) (a0_4 : Bool) (a0_5 : ByteArray) (a0_6 : List (Ty .op)) (a1_0 : ByteArray) (a1_1 : List (Ty .op)) (a1_2 : Int) (a1_3 : Int) (a1_4 : Bool) (a1_5 : ByteArray) (a1_6 : List (Ty .op)) : DT S.query_alike_T :=
(.br (xdec (a0_0 = a1_0))
(.br (xdec (a0_5 = a1_5))
(.br (a0_4 == a1_4)
(.br (xeqI a0_2 a1_2)
(.br (xeqI a0_3 a1_3)
(.br (S.expr_Same_is a0_1 a1_1)
(.br ((S.expr_Same_o a0_1 a1_1).x0)
(.br (S.expr_Same_is a0_6 a1_6)
(.leaf ⟨(S.expr_Same_o a0_6 a1_6).x0⟩)
.fail)
(.leaf ⟨false⟩))
.fail)
(.leaf ⟨false⟩))
(.leaf ⟨false⟩))
(.leaf ⟨false⟩))
(.leaf ⟨false⟩))
(.leaf ⟨false⟩))
noncomputable def S.query_alike (a0_0 : ByteArray) (a0_1 : List (Ty .op)) (a0_2 : Int) (a0_3 : Int) (a0_4 : Bool) (a0_5 : ByteArray) (a0_6 : List (Ty .op)) (a1_0 : ByteArray) (a1_1 : List (Ty .op)) (a1_2 : Int) (a1_3 : Int) (a1_4 : Bool) (a1_5 : ByteArray) (a1_6 : List (Ty .op)) : Option S.query_alike_T := (S.query_alike_R a0_0 a0_1 a0_2 a0_3 a0_4 a0_5 a0_6 a1_0 a1_1 a1_2 a1_3 a1_4 a1_5 a1_6).run
noncomputable def S.query_alike_is (a0_0 : ByteArray) (a0_1 : List (Ty .op)) (a0_2 : Int) (a0_3 : Int) (a0_4 : Bool) (a0_5 : ByteArray) (a0_6 : List (Ty .op)) (a1_0 : ByteArray) (a1_1 : List (Ty .op)) (a1_2 : Int) (a1_3 : Int) (a1_4 : Bool) (a1_5 : ByteArray) (a1_6 : List (Ty .op)) : Bool := (S.query_alike a0_0 a0_1 a0_2 a0_3 a0_4 a0_5 a0_6 a1_0 a1_1 a1_2 a1_3 a1_4 a1_5 a1_6).isSome
noncomputable def S.query_alike_o (a0_0 : ByteArray) (a0_1 : List (Ty .op)) (a0_2 : Int) (a0_3 : Int) (a0_4 : Bool) (a0_5 : ByteArray) (a0_6 : List (Ty .op)) (a1_0 : ByteArray) (a1_1 : List (Ty .op)) (a1_2 : Int) (a1_3 : Int) (a1_4 : Bool) (a1_5 : ByteArray) (a1_6 : List (Ty .op)) : S.query_alike_T := (S.query_alike a0_0 a0_1 a0_2 a0_3 a0_4 a0_5 a0_6 a1_0 a1_1 a1_2 a1_3 a1_4 a1_5 a1_6).getD default
noncomputable def ret_query_alike (b : Bool) (r : S.query_alike_T) : Ret := ⟨b, none, [(false, [C.d (D.sc (Sc.bool r.x0))])]⟩
noncomputable def g_query_alike : Con
  | [(true, [.sc (.str a0_0), .sl a0_1n a0_1f .op a0_1, .sc (.int .i64 a0_2), .sc (.int .i64 a0_3), .sc (.bool a0_4), .sc (.str a0_5), .sl a0_6n a0_6f .op a0_6]), (true, [.sc (.str a1_0), .sl a1_1n a1_1f .op a1_1, .sc (.int .i64 a1_2), .sc (.int .i64 a1_3), .sc (.bool a1_4), .sc (.str a1_5), .sl a1_6n a1_6f .op a1_6])] => some (ret_query_alike (S.query_alike_is a0_0 a0_1 a0_2 a0_3 a0_4 a0_5 a0_6 a1_0 a1_1 a1_2 a1_3 a1_4 a1_5 a1_6) (S.query_alike_o a0_0 a0_1 a0_2 a0_3 a0_4 a0_5 a0_6 a1_0 a1_1 a1_2 a1_3 a1_4 a1_5 a1_6))
  | _ => none
theorem raw_query_alike (a0_0 : ByteArray) (a0_1n : Option Bool) (a0_1f : Bool) (a0_1 : List (Ty .op)) (a0_2 : Int) (a0_3 : Int) (a0_4 : Bool) (a0_5 : ByteArray) (a0_6n : Option Bool) (a0_6f : Bool) (a0_6 : List (Ty .op)) (a1_0 : ByteArray) (a1_1n : Option Bool) (a1_1f : Bool) (a1_1 : List (Ty .op)) (a1_2 : Int) (a1_3 : Int) (a1_4 : Bool) (a1_5 : ByteArray) (a1_6n : Option Bool) (a1_6f : Bool) (a1_6 : List (Ty .op)) : evR2 cx_query_alike (hdI cx_query_alike (find []) [] none 0) none Try.f158 158 none [(true, [.sc (.str a0_0), .sl a0_1n a0_1f .op a0_1, .sc (.int .i64 a0_2), .sc (.int .i64 a0_3), .sc (.bool a0_4), .sc (.str a0_5), .sl a0_6n a0_6f .op a0_6]), (true, [.sc (.str a1_0), .sl a1_1n a1_1f .op a1_1, .sc (.int .i64 a1_2), .sc (.int .i64 a1_3), .sc (.bool a1_4), .sc (.str a1_5), .sl a1_6n a1_6f .op a1_6])] some = (S.query_alike_R a0_0 a0_1 a0_2 a0_3 a0_4 a0_5 a0_6 a1_0 a1_1 a1_2 a1_3 a1_4 a1_5 a1_6).go (ret_query_alike true) := by kernel_rfl
theorem bs_query_alike : loopsIn Try.f158 [] = [] := by kernel_rfl
theorem query_alike_ok : Stands Try.prog tyTab 158 g_query_alike := by
  refine stands3 (L := find []) (n := 0) (hints := []) (cx_ok rfl) rdy_query_alike ⟨by kernel_rfl, by kernel_rfl, by kernel_rfl⟩ bs_query_alike nilB (fun das r hG hr => ?_)
  unfold g_query_alike at hG
  split at hG
  · rename_i a0_0 a0_1n a0_1f a0_1 a0_2 a0_3 a0_4 a0_5 a0_6n a0_6f a0_6 a1_0 a1_1n a1_1f a1_1 a1_2 a1_3 a1_4 a1_5 a1_6n a1_6f a1_6
    injection hG with hG; subst hG
    exact ⟨none, true, win default ((raw_query_alike a0_0 a0_1n a0_1f a0_1 a0_2 a0_3 a0_4 a0_5 a0_6n a0_6f a0_6 a1_0 a1_1n a1_1f a1_1 a1_2 a1_3 a1_4 a1_5 a1_6n a1_6f a1_6).trans (DT.go_run _ _)) hr⟩
  · cases hG
noncomputable abbrev cx_EqualFunc_Step : Cx := mkCx2 tyTab [(158, g_query_alike)] [] [(157, 4, { keep := [1, 2, 15, 16, 17], acc := [] })] []
theorem rdy_EqualFunc_Step : Ready Try.prog tyTab [(158, g_query_alike)] [] [] := ⟨consG2 query_alike_ok (noneG2), noneI2, noneF2⟩
structure S.EqualFunc_Step_4_V where
  t_17_0 : Int
noncomputable def S.EqualFunc_Step_4_R (t_1_0 : List (Ty ET.step)) (t_15_0 : List (Ty ET.step)) (t_16_0 : Int) (v : S.EqualFunc_Step_4_V) : DT (Option Nat × S.EqualFunc_Step_4_V) :=
let y0 : Bool := xdec (0 ≤ v.t_17_0)
let y1 : Ty ET.step := t_15_0.getD v.t_17_0.toNat (dflt ET.step)
let y2 : ByteArray := y1.name
let y3 : List Opn := y1.ifs
let y4 : Int := y1.min
let y5 : Int := y1.max
let y6 : Bool := y1.guard
let y7 : ByteArray := y1.notName
let y8 : List Opn := y1.notIf
let y9 : Ty ET.step := t_1_0.getD v.t_17_0.toNat (dflt ET.step)
let y10 : ByteArray := y9.name
let y11 : List Opn := y9.ifs
let y12 : Int := y9.min
let y13 : Int := y9.max
let y14 : Bool := y9.guard
let y15 : ByteArray := y9.notName
let y16 : List Opn := y9.notIf
(.br (xdec (v.t_17_0 < t_16_0))
(.br (y0 && xdec (v.t_17_0 < (↑t_15_0.length : Int)))
(.br (y0 && xdec (v.t_17_0 < (↑t_1_0.length : Int)))
(.br (S.query_alike_is y2 y3 y4 y5 y6 y7 y8 y10 y11 y12 y13 y14 y15 y16)
(.br (xnot (S.query_alike_o y2 y3 y4 y5 y6 y7 y8 y10 y11 y12 y13 y14 y15 y16).x0)
(.leaf (some 0, v))
(.leaf (none, ⟨xwrap IntKind.i64 (v.t_17_0 + 1)⟩)))
.fail)
.fail)
.fail)
(.leaf (some 1, v)))
noncomputable def S.EqualFunc_Step_4_r (t_1_0 : List (Ty ET.step)) (t_15_0 : List (Ty ET.step)) (t_16_0 : Int) (v : S.EqualFunc_Step_4_V) : Option (Option Nat × S.EqualFunc_Step_4_V) := (S.EqualFunc_Step_4_R t_1_0 t_15_0 t_16_0 v).run
noncomputable def S.EqualFunc_Step_4_j (t_1_0 : List (Ty ET.step)) (t_15_0 : List (Ty ET.step)) (t_16_0 : Int) (v : S.EqualFunc_Step_4_V) (j : Nat) : Bool := Lp_j (S.EqualFunc_Step_4_r t_1_0 t_15_0 t_16_0) v j
noncomputable def S.EqualFunc_Step_4_v (t_1_0 : List (Ty ET.step)) (t_15_0 : List (Ty ET.step)) (t_16_0 : Int) (v : S.EqualFunc_Step_4_V) : S.EqualFunc_Step_4_V := Lp_v (S.EqualFunc_Step_4_r t_1_0 t_15_0 t_16_0) v
noncomputable def mk_EqualFunc_Step_4 (t_1_0n : Option Bool) (t_1_0f : Bool) (t_1_0 : List (Ty ET.step)) (t_15_0n : Option Bool) (t_15_0f : Bool) (t_15_0 : List (Ty ET.step)) (t_16_0 : Int) (v : S.EqualFunc_Step_4_V) : St := ⟨[V.any, V.v false [C.d (D.sl t_1_0n t_1_0f ET.step t_1_0)], V.v false [C.d (D.fn 158 [] [])], V.any, V.any, V.any, V.any, V.any, V.any, V.any, V.any, V.any, V.any, V.any, V.any,
  V.v false [C.d (D.sl t_15_0n t_15_0f ET.step t_15_0)], V.v false [C.d (D.sc (Sc.int IntKind.i64 t_16_0))], V.v false [C.d (D.sc (Sc.int IntKind.i64 v.t_17_0))], V.any, V.any,
  V.any, V.any, V.any, V.any, V.any, V.any, V.any, V.any, V.any, V.any, V.any, V.any], [none, none, none, none, none, none, none, none, none], 0⟩
noncomputable def ex_EqualFunc_Step_4 (t_1_0n : Option Bool) (t_1_0f : Bool) (t_1_0 : List (Ty ET.step)) (t_15_0n : Option Bool) (t_15_0f : Bool) (t_15_0 : List (Ty ET.step)) (t_16_0 : Int) (j : Nat) (v : S.EqualFunc_Step_4_V) : Ex × St := match j with
  | 0 => (Ex.ret, ⟨[V.any, V.any, V.any, V.any, V.any, V.any, V.v false [C.d (D.sc (Sc.bool false))], V.any, V.any, V.any, V.any, V.any, V.any, V.any, V.any, V.any, V.any, V.any, V.any, V.any, V.any,
  V.any, V.any, V.any, V.any, V.any, V.any, V.any, V.any, V.any, V.any, V.any], [none, none, none, none, none, none, none, none, none, none, none, none, none,
  some
    (Blk.box 47
      [C.d (D.sc (Sc.str (t_15_0.getD v.t_17_0.toNat (dflt ET.step)).name)), C.d (D.sl none false ET.op (t_15_0.getD v.t_17_0.toNat (dflt ET.step)).ifs),
        C.d (D.sc (Sc.int IntKind.i64 (t_15_0.getD v.t_17_0.toNat (dflt ET.step)).min)), C.d (D.sc (Sc.int IntKind.i64 (t_15_0.getD v.t_17_0.toNat (dflt ET.step)).max)),
        C.d (D.sc (Sc.bool (t_15_0.getD v.t_17_0.toNat (dflt ET.step)).guard)), C.d (D.sc (Sc.str (t_15_0.getD v.t_17_0.toNat (dflt ET.step)).notName)),
        C.d (D.sl none false ET.op (t_15_0.getD v.t_17_0.toNat (dflt ET.step)).notIf)]),
  none, none, none, none, none, none,
  some
    (Blk.box 47
      [C.d (D.sc (Sc.str (t_1_0.getD v.t_17_0.toNat (dflt ET.step)).name)), C.d (D.sl none false ET.op (t_1_0.getD v.t_17_0.toNat (dflt ET.step)).ifs),
        C.d (D.sc (Sc.int IntKind.i64 (t_1_0.getD v.t_17_0.toNat (dflt ET.step)).min)), C.d (D.sc (Sc.int IntKind.i64 (t_1_0.getD v.t_17_0.toNat (dflt ET.step)).max)),
        C.d (D.sc (Sc.bool (t_1_0.getD v.t_17_0.toNat (dflt ET.step)).guard)), C.d (D.sc (Sc.str (t_1_0.getD v.t_17_0.toNat (dflt ET.step)).notName)),
        C.d (D.sl none false ET.op (t_1_0.getD v.t_17_0.toNat (dflt ET.step)).notIf)]),
  none, none, none, none, none, none, none], 0⟩)
  | 1 => (Ex.exit 0, ⟨[V.any, V.any, V.any, V.any, V.any, V.any, V.any, V.any, V.any, V.any, V.any, V.any, V.any, V.any, V.any, V.any, V.any, V.any, V.any, V.any, V.any, V.any, V.any, V.any, V.any,
  V.any, V.any, V.any, V.any, V.any, V.any, V.any], [none, none, none, none, none, none, none, none, none, none], 0⟩)
  | _ => (.ret, ⟨[], [], 0⟩)
noncomputable def T1_EqualFunc_Step_4 : V → V → V → V → V → Tree
  | V.v false [C.d (D.sl t_1_0n t_1_0f ET.step t_1_0)], V.v false [C.d (D.fn 158 [] [])], V.v false [C.d (D.sl t_15_0n t_15_0f ET.step t_15_0)], V.v false [C.d (D.sc (Sc.int IntKind.i64 t_16_0))], V.v false [C.d (D.sc (Sc.int IntKind.i64 t_17_0))] => exT (fun j => ex_EqualFunc_Step_4 t_1_0n t_1_0f t_1_0 t_15_0n t_15_0f t_15_0 t_16_0 j (S.EqualFunc_Step_4_v t_1_0 t_15_0 t_16_0 ⟨t_17_0⟩)) (S.EqualFunc_Step_4_j t_1_0 t_15_0 t_16_0 ⟨t_17_0⟩) [0, 1]
  | _, _, _, _, _ => .bad
noncomputable def T_EqualFunc_Step_4 (st : St) : Tree := bif okSt 32 9 0 [] st then T1_EqualFunc_Step_4 (st.env.getD 1 .any) (st.env.getD 2 .any) (st.env.getD 15 .any) (st.env.getD 16 .any) (st.env.getD 17 .any) else .bad
noncomputable def b_EqualFunc_Step_4 : Code := loopBy Try.f157 4
theorem rnd_EqualFunc_Step_4 (t_1_0n : Option Bool) (t_1_0f : Bool) (t_1_0 : List (Ty ET.step)) (t_15_0n : Option Bool) (t_15_0f : Bool) (t_15_0 : List (Ty ET.step)) (t_16_0 : Int) (v : S.EqualFunc_Step_4_V) : round2 cx_EqualFunc_Step (hdI cx_EqualFunc_Step (find []) [] none 0) 157 b_EqualFunc_Step_4 [] 9 [6] (mk_EqualFunc_Step_4 t_1_0n t_1_0f t_1_0 t_15_0n t_15_0f t_15_0 t_16_0 v) = (S.EqualFunc_Step_4_R t_1_0 t_15_0 t_16_0 v).go (roundOut (mk_EqualFunc_Step_4 t_1_0n t_1_0f t_1_0 t_15_0n t_15_0f t_15_0 t_16_0) (ex_EqualFunc_Step_4 t_1_0n t_1_0f t_1_0 t_15_0n t_15_0f t_15_0 t_16_0)) := by kernel_rfl
theorem bs_EqualFunc_Step_4 : loopsOf b_EqualFunc_Step_4 ++ loopsInl [] = [] := by kernel_rfl
theorem ci_EqualFunc_Step_4 (t_1_0n : Option Bool) (t_1_0f : Bool) (t_1_0 : List (Ty ET.step)) (t_15_0n : Option Bool) (t_15_0f : Bool) (t_15_0 : List (Ty ET.step)) (t_16_0 : Int) : ∀ v j v2, Lp (S.EqualFunc_Step_4_r t_1_0 t_15_0 t_16_0) v = some (j, v2) → Circles Try.prog cx_EqualFunc_Step b_EqualFunc_Step_4 (mk_EqualFunc_Step_4 t_1_0n t_1_0f t_1_0 t_15_0n t_15_0f t_15_0 t_16_0 v) (ex_EqualFunc_Step_4 t_1_0n t_1_0f t_1_0 t_15_0n t_15_0f t_15_0 t_16_0 j v2).1 (ex_EqualFunc_Step_4 t_1_0n t_1_0f t_1_0 t_15_0n t_15_0f t_15_0 t_16_0 j v2).2 :=
  loop_ok2 (L := find []) (n := 0) (hints := [(157, 4, { keep := [1, 2, 15, 16, 17], acc := [] })]) (cx_ok rfl) rdy_EqualFunc_Step bs_EqualFunc_Step_4 nilB (fun v => (rnd_EqualFunc_Step_4 t_1_0n t_1_0f t_1_0 t_15_0n t_15_0f t_15_0 t_16_0 v).trans (DT.go_run _ _)) (by intro j v; unfold ex_EqualFunc_Step_4; split <;> rfl)
theorem mke_EqualFunc_Step_4 (t_1_0n : Option Bool) (t_1_0f : Bool) (t_1_0 : List (Ty ET.step)) (t_15_0n : Option Bool) (t_15_0f : Bool) (t_15_0 : List (Ty ET.step)) (t_16_0 : Int) (v : S.EqualFunc_Step_4_V) : mk_EqualFunc_Step_4 t_1_0n t_1_0f t_1_0 t_15_0n t_15_0f t_15_0 t_16_0 v = ⟨envOf 32 [(1, V.v false [C.d (D.sl t_1_0n t_1_0f ET.step t_1_0)]), (2, V.v false [C.d (D.fn 158 [] [])]), (15, V.v false [C.d (D.sl t_15_0n t_15_0f ET.step t_15_0)]), (16, V.v false [C.d (D.sc (Sc.int IntKind.i64 t_16_0))]), (17, V.v false [C.d (D.sc (Sc.int IntKind.i64 v.t_17_0))])], heapOf 9 [], 0⟩ := by kernel_rfl
theorem lo1_EqualFunc_Step_4 (e1 : V) (e2 : V) (e15 : V) (e16 : V) (e17 : V)  e st2 (h : (T1_EqualFunc_Step_4 e1 e2 e15 e16 e17).eval = some (e, st2)) : Circles Try.prog cx_EqualFunc_Step b_EqualFunc_Step_4 ⟨envOf 32 [(1, e1), (2, e2), (15, e15), (16, e16), (17, e17)], heapOf 9 [], 0⟩ e st2 := by
  unfold T1_EqualFunc_Step_4 at h
  split at h
  · have := loop_tree (mk := mk_EqualFunc_Step_4 _ _ _ _ _ _ _) (ci_EqualFunc_Step_4 _ _ _ _ _ _ _) _ _ e st2 h
    rw [mke_EqualFunc_Step_4] at this
    exact this
  · cases h
theorem lok_EqualFunc_Step_4 : LoopOk Try.prog cx_EqualFunc_Step b_EqualFunc_Step_4 T_EqualFunc_Step_4 := by
  intro st e st2 h
  unfold T_EqualFunc_Step_4 at h
  cases hk : okSt 32 9 0 [] st with
  | false => rw [hk] at h; cases h
  | true =>
    rw [hk] at h
    exact circles_keep (ks := [1, 2, 15, 16, 17]) hk (lo1_EqualFunc_Step_4 _ _ _ _ _ e st2 h)
structure S.EqualFunc_Step_T where
  x0 : Bool
  deriving Inhabited
noncomputable def S.EqualFunc_Step_R (a0 : List (Ty .step)) (a1 : List (Ty .step)) : DT S.EqualFunc_Step_T :=
let y0 : Int := (↑a0.length : Int)
let y1 : S.EqualFunc_Step_4_V := { t_17_0 := 0 : S.EqualFunc_Step_4_V }
(.br (xneI y0 (↑a1.length : Int))
(.leaf ⟨false⟩)
(.br (S.EqualFunc_Step_4_j a1 a0 y0 y1 0)
(.leaf ⟨false⟩)
(.br (S.EqualFunc_Step_4_j a1 a0 y0 y1 1)
(.leaf ⟨true⟩)
.fail)))
noncomputable def S.EqualFunc_Step (a0 : List (Ty .step)) (a1 : List (Ty .step)) : Option S.EqualFunc_Step_T := (S.EqualFunc_Step_R a0 a1).run
noncomputable def S.EqualFunc_Step_is (a0 : List (Ty .step)) (a1 : List (Ty .step)) : Bool := (S.EqualFunc_Step a0 a1).isSome
noncomputable def S.EqualFunc_Step_o (a0 : List (Ty .step)) (a1 : List (Ty .step)) : S.EqualFunc_Step_T := (S.EqualFunc_Step a0 a1).getD default
noncomputable def ret_EqualFunc_Step (b : Bool) (r : S.EqualFunc_Step_T) : Ret := ⟨b, none, [(false, [C.d (D.sc (Sc.bool r.x0))])]⟩
noncomputable def g_EqualFunc_Step : Con
  | [(false, [.sl a0n a0f .step a0]), (false, [.sl a1n a1f .step a1]), (false, [.fn 158 [] []])] => some (ret_EqualFunc_Step (S.EqualFunc_Step_is a0 a1) (S.EqualFunc_Step_o a0 a1))
  | _ => none
theorem raw_EqualFunc_Step (a0n : Option Bool) (a0f : Bool) (a0 : List (Ty .step)) (a1n : Option Bool) (a1f : Bool) (a1 : List (Ty .step)) : evR2 cx_EqualFunc_Step (hdI cx_EqualFunc_Step (find [(4, T_EqualFunc_Step_4)]) [] none 0) none Try.f157 157 none [(false, [.sl a0n a0f .step a0]), (false, [.sl a1n a1f .step a1]), (false, [.fn 158 [] []])] some = (S.EqualFunc_Step_R a0 a1).go (ret_EqualFunc_Step true) := by kernel_rfl
theorem bs_EqualFunc_Step : loopsIn Try.f157 [] = [b_EqualFunc_Step_4] := by kernel_rfl
theorem EqualFunc_Step_ok : Stands Try.prog tyTab 157 g_EqualFunc_Step := by
  refine stands3 (L := find [(4, T_EqualFunc_Step_4)]) (n := 0) (hints := [(157, 4, { keep := [1, 2, 15, 16, 17], acc := [] })]) (cx_ok rfl) rdy_EqualFunc_Step ⟨by kernel_rfl, by kernel_rfl, by kernel_rfl⟩ bs_EqualFunc_Step (consB (fun T h => by have e : T_EqualFunc_Step_4 = T := Option.some.inj (show some T_EqualFunc_Step_4 = some T from h); exact e ▸ lok_EqualFunc_Step_4) nilB) (fun das r hG hr => ?_)
  unfold g_EqualFunc_Step at hG
  split at hG
  · rename_i a0n a0f a0 a1n a1f a1
    injection hG with hG; subst hG
    exact ⟨none, true, win default ((raw_EqualFunc_Step a0n a0f a0 a1n a1f a1).trans (DT.go_run _ _)) hr⟩
  · cases hG
noncomputable abbrev cx_query_Same : Cx := mkCx2 tyTab [(157, g_EqualFunc_Step), (158, g_query_alike)] [] [] []
theorem rdy_query_Same : Ready Try.prog tyTab [(157, g_EqualFunc_Step), (158, g_query_alike)] [] [] := ⟨consG2 EqualFunc_Step_ok (consG2 query_alike_ok (noneG2)), noneI2, noneF2⟩
structure S.query_Same_T where
  x0 : Bool
  deriving Inhabited
noncomputable def S.query_Same_R (a0_0 : List (Ty .step)) (a0_1 : Int) (a0_2 : Int) (a0_3 : Int) (a0_4 : Int) (a1_0 : List (Ty .step)) (a1_1 : Int) (a1_2 : Int) (a1_3 : Int) (a1_4 : Int) : DT S.query_Same_T :=
(.br (xeqI a0_2 a1_2)
(.br (xeqI a0_3 a1_3)
(.br (xeqI a0_4 a1_4)
(.br (xeqI a0_1 a1_1)
(.br (S.EqualFunc_Step_is a0_0 a1_0)
(.leaf ⟨(S.EqualFunc_Step_o a0_0 a1_0).x0⟩)
.fail)
(.leaf ⟨false⟩))
(.leaf ⟨false⟩))
(.leaf ⟨false⟩))
(.leaf ⟨false⟩))
noncomputable def S.query_Same (a0_0 : List (Ty .step)) (a0_1 : Int) (a0_2 : Int) (a0_3 : Int) (a0_4 : Int) (a1_0 : List (Ty .step)) (a1_1 : Int) (a1_2 : Int) (a1_3 : Int) (a1_4 : Int) : Option S.query_Same_T := (S.query_Same_R a0_0 a0_1 a0_2 a0_3 a0_4 a1_0 a1_1 a1_2 a1_3 a1_4).run
noncomputable def S.query_Same_is (a0_0 : List (Ty .step)) (a0_1 : Int) (a0_2 : Int) (a0_3 : Int) (a0_4 : Int) (a1_0 : List (Ty .step)) (a1_1 : Int) (a1_2 : Int) (a1_3 : Int) (a1_4 : Int) : Bool := (S.query_Same a0_0 a0_1 a0_2 a0_3 a0_4 a1_0 a1_1 a1_2 a1_3 a1_4).isSome
noncomputable def S.query_Same_o (a0_0 : List (Ty .step)) (a0_1 : Int) (a0_2 : Int) (a0_3 : Int) (a0_4 : Int) (a1_0 : List (Ty .step)) (a1_1 : Int) (a1_2 : Int) (a1_3 : Int) (a1_4 : Int) : S.query_Same_T := (S.query_Same a0_0 a0_1 a0_2 a0_3 a0_4 a1_0 a1_1 a1_2 a1_3 a1_4).getD default
noncomputable def ret_query_Same (b : Bool) (r : S.query_Same_T) : Ret := ⟨b, none, [(false, [C.d (D.sc (Sc.bool r.x0))])]⟩
noncomputable def g_query_Same : Con
  | [(true, [.sl a0_0n a0_0f .step a0_0, .sc (.int .i64 a0_1), .sc (.int .i64 a0_2), .sc (.int .i64 a0_3), .sc (.int .i64 a0_4)]), (true, [.sl a1_0n a1_0f .step a1_0, .sc (.int .i64 a1_1), .sc (.int .i64 a1_2), .sc (.int .i64 a1_3), .sc (.int .i64 a1_4)])] => some (ret_query_Same (S.query_Same_is a0_0 a0_1 a0_2 a0_3 a0_4 a1_0 a1_1 a1_2 a1_3 a1_4) (S.query_Same_o a0_0 a0_1 a0_2 a0_3 a0_4 a1_0 a1_1 a1_2 a1_3 a1_4))
  | _ => none
theorem raw_query_Same (a0_0n : Option Bool) (a0_0f : Bool) (a0_0 : List (Ty .step)) (a0_1 : Int) (a0_2 : Int) (a0_3 : Int) (a0_4 : Int) (a1_0n : Option Bool) (a1_0f : Bool) (a1_0 : List (Ty .step)) (a1_1 : Int) (a1_2 : Int) (a1_3 : Int) (a1_4 : Int) : evR2 cx_query_Same (hdI cx_query_Same (find []) [] none 0) none Try.f131 131 none [(true, [.sl a0_0n a0_0f .step a0_0, .sc (.int .i64 a0_1), .sc (.int .i64 a0_2), .sc (.int .i64 a0_3), .sc (.int .i64 a0_4)]), (true, [.sl a1_0n a1_0f .step a1_0, .sc (.int .i64 a1_1), .sc (.int .i64 a1_2), .sc (.int .i64 a1_3), .sc (.int .i64 a1_4)])] some = (S.query_Same_R a0_0 a0_1 a0_2 a0_3 a0_4 a1_0 a1_1 a1_2 a1_3 a1_4).go (ret_query_Same true) := by kernel_rfl
theorem bs_query_Same : loopsIn Try.f131 [] = [] := by kernel_rfl
theorem query_Same_ok : Stands Try.prog tyTab 131 g_query_Same := by
  refine stands3 (L := find []) (n := 0) (hints := []) (cx_ok rfl) rdy_query_Same ⟨by kernel_rfl, by kernel_rfl, by kernel_rfl⟩ bs_query_Same nilB (fun das r hG hr => ?_)
  unfold g_query_Same at hG
  split at hG
  · rename_i a0_0n a0_0f a0_0 a0_1 a0_2 a0_3 a0_4 a1_0n a1_0f a1_0 a1_1 a1_2 a1_3 a1_4
    injection hG with hG; subst hG
    exact ⟨none, true, win default ((raw_query_Same a0_0n a0_0f a0_0 a0_1 a0_2 a0_3 a0_4 a1_0n a1_0f a1_0 a1_1 a1_2 a1_3 a1_4).trans (DT.go_run _ _)) hr⟩
  · cases hG
noncomputable abbrev cx_match_Same : Cx := mkCx2 tyTab [(131, g_query_Same), (132, g_slices_Equal_Run)] [] [] []
theorem rdy_match_Same : Ready Try.prog tyTab [(131, g_query_Same), (132, g_slices_Equal_Run)] [] [] := ⟨consG2 query_Same_ok (consG2 slices_Equal_Run_ok (noneG2)), noneI2, noneF2⟩
structure S.match_Same_T where
  x0 : Bool
  deriving Inhabited
noncomputable def S.match_Same_R (a0_0 : List (Ty .step)) (a0_1 : Int) (a0_2 : Int) (a0_3 : Int) (a0_4 : Int) (a0_5 : List (Ty .run)) (a0_6 : Int) (a1_0 : List (Ty .step)) (a1_1 : Int) (a1_2 : Int) (a1_3 : Int) (a1_4 : Int) (a1_5 : List (Ty .run)) (a1_6 : Int) : DT S.match_Same_T :=
(.br (S.query_Same_is a0_0 a0_1 a0_2 a0_3 a0_4 a1_0 a1_1 a1_2 a1_3 a1_4)
(.br ((S.query_Same_o a0_0 a0_1 a0_2 a0_3 a0_4 a1_0 a1_1 a1_2 a1_3 a1_4).x0)
(.br (xeqI a0_6 a1_6)
(.br (S.slices_Equal_Run_is a0_5 a1_5)
(.leaf ⟨(S.slices_Equal_Run_o a0_5 a1_5).x0⟩)
.fail)
(.leaf ⟨false⟩))
(.leaf ⟨false⟩))
.fail)
noncomputable def S.match_Same (a0_0 : List (Ty .step)) (a0_1 : Int) (a0_2 : Int) (a0_3 : Int) (a0_4 : Int) (a0_5 : List (Ty .run)) (a0_6 : Int) (a1_0 : List (Ty .step)) (a1_1 : Int) (a1_2 : Int) (a1_3 : Int) (a1_4 : Int) (a1_5 : List (Ty .run)) (a1_6 : Int) : Option S.match_Same_T := (S.match_Same_R a0_0 a0_1 a0_2 a0_3 a0_4 a0_5 a0_6 a1_0 a1_1 a1_2 a1_3 a1_4 a1_5 a1_6).run
noncomputable def S.match_Same_is (a0_0 : List (Ty .step)) (a0_1 : Int) (a0_2 : Int) (a0_3 : Int) (a0_4 : Int) (a0_5 : List (Ty .run)) (a0_6 : Int) (a1_0 : List (Ty .step)) (a1_1 : Int) (a1_2 : Int) (a1_3 : Int) (a1_4 : Int) (a1_5 : List (Ty .run)) (a1_6 : Int) : Bool := (S.match_Same a0_0 a0_1 a0_2 a0_3 a0_4 a0_5 a0_6 a1_0 a1_1 a1_2 a1_3 a1_4 a1_5 a1_6).isSome
noncomputable def S.match_Same_o (a0_0 : List (Ty .step)) (a0_1 : Int) (a0_2 : Int) (a0_3 : Int) (a0_4 : Int) (a0_5 : List (Ty .run)) (a0_6 : Int) (a1_0 : List (Ty .step)) (a1_1 : Int) (a1_2 : Int) (a1_3 : Int) (a1_4 : Int) (a1_5 : List (Ty .run)) (a1_6 : Int) : S.match_Same_T := (S.match_Same a0_0 a0_1 a0_2 a0_3 a0_4 a0_5 a0_6 a1_0 a1_1 a1_2 a1_3 a1_4 a1_5 a1_6).getD default
noncomputable def ret_match_Same (b : Bool) (r : S.match_Same_T) : Ret := ⟨b, none, [(false, [C.d (D.sc (Sc.bool r.x0))])]⟩
noncomputable def g_match_Same : Con
  | [(true, [.sl a0_0n a0_0f .step a0_0, .sc (.int .i64 a0_1), .sc (.int .i64 a0_2), .sc (.int .i64 a0_3), .sc (.int .i64 a0_4), .sl a0_5n a0_5f .run a0_5, .sc (.int .i64 a0_6)]), (true, [.sl a1_0n a1_0f .step a1_0, .sc (.int .i64 a1_1), .sc (.int .i64 a1_2), .sc (.int .i64 a1_3), .sc (.int .i64 a1_4), .sl a1_5n a1_5f .run a1_5, .sc (.int .i64 a1_6)])] => some (ret_match_Same (S.match_Same_is a0_0 a0_1 a0_2 a0_3 a0_4 a0_5 a0_6 a1_0 a1_1 a1_2 a1_3 a1_4 a1_5 a1_6) (S.match_Same_o a0_0 a0_1 a0_2 a0_3 a0_4 a0_5 a0_6 a1_0 a1_1 a1_2 a1_3 a1_4 a1_5 a1_6))
  | _ => none
theorem raw_match_Same (a0_0n : Option Bool) (a0_0f : Bool) (a0_0 : List (Ty .step)) (a0_1 : Int) (a0_2 : Int) (a0_3 : Int) (a0_4 : Int) (a0_5n : Option Bool) (a0_5f : Bool) (a0_5 : List (Ty .run)) (a0_6 : Int) (a1_0n : Option Bool) (a1_0f : Bool) (a1_0 : List (Ty .step)) (a1_1 : Int) (a1_2 : Int) (a1_3 : Int) (a1_4 : Int) (a1_5n : Option Bool) (a1_5f : Bool) (a1_5 : List (Ty .run)) (a1_6 : Int) : evR2 cx_match_Same (hdI cx_match_Same (find []) [] none 0) none Try.f98 98 none [(true, [.sl a0_0n a0_0f .step a0_0, .sc (.int .i64 a0_1), .sc (.int .i64 a0_2), .sc (.int .i64 a0_3), .sc (.int .i64 a0_4), .sl a0_5n a0_5f .run a0_5, .sc (.int .i64 a0_6)]), (true, [.sl a1_0n a1_0f .step a1_0, .sc (.int .i64 a1_1), .sc (.int .i64 a1_2), .sc (.int .i64 a1_3), .sc (.int .i64 a1_4), .sl a1_5n a1_5f .run a1_5, .sc (.int .i64 a1_6)])] some = (S.match_Same_R a0_0 a0_1 a0_2 a0_3 a0_4 a0_5 a0_6 a1_0 a1_1 a1_2 a1_3 a1_4 a1_5 a1_6).go (ret_match_Same true) := by kernel_rfl
theorem bs_match_Same : loopsIn Try.f98 [] = [] := by kernel_rfl
theorem match_Same_ok : Stands Try.prog tyTab 98 g_match_Same := by
  refine stands3 (L := find []) (n := 0) (hints := []) (cx_ok rfl) rdy_match_Same ⟨by kernel_rfl, by kernel_rfl, by kernel_rfl⟩ bs_match_Same nilB (fun das r hG hr => ?_)
  unfold g_match_Same at hG
  split at hG
  · rename_i a0_0n a0_0f a0_0 a0_1 a0_2 a0_3 a0_4 a0_5n a0_5f a0_5 a0_6 a1_0n a1_0f a1_0 a1_1 a1_2 a1_3 a1_4 a1_5n a1_5f a1_5 a1_6
    injection hG with hG; subst hG
    exact ⟨none, true, win default ((raw_match_Same a0_0n a0_0f a0_0 a0_1 a0_2 a0_3 a0_4 a0_5n a0_5f a0_5 a0_6 a1_0n a1_0f a1_0 a1_1 a1_2 a1_3 a1_4 a1_5n a1_5f a1_5 a1_6).trans (DT.go_run _ _)) hr⟩
  · cases hG
noncomputable abbrev cx_ref08_Same : Cx := mkCx2 tyTab [] [] [(81, 4, { keep := [0, 1, 5], acc := [] })] []
theorem rdy_ref08_Same : Ready Try.prog tyTab [] [] [] := ⟨noneG2, noneI2, noneF2⟩
structure S.ref08_Same_4_V where
  t_5_0 : Int
noncomputable def S.ref08_Same_4_R (t_0_0 : List (Ty ET.op)) (t_1_0 : List (Ty ET.op)) (v : S.ref08_Same_4_V) : DT (Option Nat × S.ref08_Same_4_V) :=
let y0 : Bool := xdec (v.t_5_0 < (↑t_0_0.length : Int))
let y1 : Bool := xdec (0 ≤ v.t_5_0)
let y2 : Ty ET.op := t_0_0.getD v.t_5_0.toNat (dflt ET.op)
let y3 : Ty ET.op := t_1_0.getD v.t_5_0.toNat (dflt ET.op)
let y4 : Val := y2.v
let y5 : Val := y3.v
(.br (y0)
(.br (y1 && y0)
(.br (y1 && xdec (v.t_5_0 < (↑t_1_0.length : Int)))
(.br (bif xeqI y2.code y3.code && (xeqI y2.arg y3.arg && (xeqI y4.kind y5.kind && (xeqI y4.n y5.n && xdec (y4.s = y5.s)))) then false else true)
(.leaf (some 0, v))
(.leaf (none, ⟨xwrap IntKind.i64 (v.t_5_0 + 1)⟩)))
.fail)
.fail)
(.leaf (some 1, v)))
noncomputable def S.ref08_Same_4_r (t_0_0 : List (Ty ET.op)) (t_1_0 : List (Ty ET.op)) (v : S.ref08_Same_4_V) : Option (Option Nat × S.ref08_Same_4_V) := (S.ref08_Same_4_R t_0_0 t_1_0 v).run
noncomputable def S.ref08_Same_4_j (t_0_0 : List (Ty ET.op)) (t_1_0 : List (Ty ET.op)) (v : S.ref08_Same_4_V) (j : Nat) : Bool := Lp_j (S.ref08_Same_4_r t_0_0 t_1_0) v j
noncomputable def S.ref08_Same_4_v (t_0_0 : List (Ty ET.op)) (t_1_0 : List (Ty ET.op)) (v : S.ref08_Same_4_V) : S.ref08_Same_4_V := Lp_v (S.ref08_Same_4_r t_0_0 t_1_0) v
noncomputable def mk_ref08_Same_4 (t_0_0n : Option Bool) (t_0_0f : Bool) (t_0_0 : List (Ty ET.op)) (t_1_0n : Option Bool) (t_1_0f : Bool) (t_1_0 : List (Ty ET.op)) (v : S.ref08_Same_4_V) : St := ⟨[V.v false [C.d (D.sl t_0_0n t_0_0f ET.op t_0_0)], V.v false [C.d (D.sl t_1_0n t_1_0f ET.op t_1_0)], V.any, V.any, V.any, V.v false [C.d (D.sc (Sc.int IntKind.i64 v.t_5_0))],
  V.any, V.any, V.any, V.any, V.any, V.any, V.any, V.any, V.any, V.any, V.any, V.any, V.any, V.any, V.any, V.any, V.any, V.any, V.any, V.any], [none, none, none, none, none, none, none], 0⟩
noncomputable def ex_ref08_Same_4 (t_0_0n : Option Bool) (t_0_0f : Bool) (t_0_0 : List (Ty ET.op)) (t_1_0n : Option Bool) (t_1_0f : Bool) (t_1_0 : List (Ty ET.op)) (j : Nat) (v : S.ref08_Same_4_V) : Ex × St := match j with
  | 0 => (Ex.ret, ⟨[V.any, V.any, V.any, V.any, V.v false [C.d (D.sc (Sc.bool false))], V.any, V.any, V.any, V.any, V.any, V.any, V.any, V.any, V.any, V.any, V.any, V.any, V.any, V.any, V.any, V.any,
  V.any, V.any, V.any, V.any, V.any], [none, none, none, none, none, none, none, none, none, none, none, none, none, none, none, none, none, none, none, none, none], 0⟩)
  | 1 => (Ex.exit 0, ⟨[V.any, V.any, V.any, V.any, V.any, V.any, V.any, V.any, V.any, V.any, V.any, V.any, V.any, V.any, V.any, V.any, V.any, V.any, V.any, V.any, V.any, V.any, V.any, V.any, V.any,
  V.any], [none, none, none, none, none, none, none, none, none, none, none], 0⟩)
  | _ => (.ret, ⟨[], [], 0⟩)
noncomputable def T1_ref08_Same_4 : V → V → V → Tree
  | V.v false [C.d (D.sl t_0_0n t_0_0f ET.op t_0_0)], V.v false [C.d (D.sl t_1_0n t_1_0f ET.op t_1_0)], V.v false [C.d (D.sc (Sc.int IntKind.i64 t_5_0))] => exT (fun j => ex_ref08_Same_4 t_0_0n t_0_0f t_0_0 t_1_0n t_1_0f t_1_0 j (S.ref08_Same_4_v t_0_0 t_1_0 ⟨t_5_0⟩)) (S.ref08_Same_4_j t_0_0 t_1_0 ⟨t_5_0⟩) [0, 1]
  | _, _, _ => .bad
noncomputable def T_ref08_Same_4 (st : St) : Tree := bif okSt 26 7 0 [] st then T1_ref08_Same_4 (st.env.getD 0 .any) (st.env.getD 1 .any) (st.env.getD 5 .any) else .bad
noncomputable def b_ref08_Same_4 : Code := loopBy Try.f81 4
theorem rnd_ref08_Same_4 (t_0_0n : Option Bool) (t_0_0f : Bool) (t_0_0 : List (Ty ET.op)) (t_1_0n : Option Bool) (t_1_0f : Bool) (t_1_0 : List (Ty ET.op)) (v : S.ref08_Same_4_V) : round2 cx_ref08_Same (hdI cx_ref08_Same (find []) [] none 0) 81 b_ref08_Same_4 [] 7 [4] (mk_ref08_Same_4 t_0_0n t_0_0f t_0_0 t_1_0n t_1_0f t_1_0 v) = (S.ref08_Same_4_R t_0_0 t_1_0 v).go (roundOut (mk_ref08_Same_4 t_0_0n t_0_0f t_0_0 t_1_0n t_1_0f t_1_0) (ex_ref08_Same_4 t_0_0n t_0_0f t_0_0 t_1_0n t_1_0f t_1_0)) := by kernel_rfl
theorem bs_ref08_Same_4 : loopsOf b_ref08_Same_4 ++ loopsInl [] = [] := by kernel_rfl
theorem ci_ref08_Same_4 (t_0_0n : Option Bool) (t_0_0f : Bool) (t_0_0 : List (Ty ET.op)) (t_1_0n : Option Bool) (t_1_0f : Bool) (t_1_0 : List (Ty ET.op)) : ∀ v j v2, Lp (S.ref08_Same_4_r t_0_0 t_1_0) v = some (j, v2) → Circles Try.prog cx_ref08_Same b_ref08_Same_4 (mk_ref08_Same_4 t_0_0n t_0_0f t_0_0 t_1_0n t_1_0f t_1_0 v) (ex_ref08_Same_4 t_0_0n t_0_0f t_0_0 t_1_0n t_1_0f t_1_0 j v2).1 (ex_ref08_Same_4 t_0_0n t_0_0f t_0_0 t_1_0n t_1_0f t_1_0 j v2).2 :=
  loop_ok2 (L := find []) (n := 0) (hints := [(81, 4, { keep := [0, 1, 5], acc := [] })]) (cx_ok rfl) rdy_ref08_Same bs_ref08_Same_4 nilB (fun v => (rnd_ref08_Same_4 t_0_0n t_0_0f t_0_0 t_1_0n t_1_0f t_1_0 v).trans (DT.go_run _ _)) (by intro j v; unfold ex_ref08_Same_4; split <;> rfl)
theorem mke_ref08_Same_4 (t_0_0n : Option Bool) (t_0_0f : Bool) (t_0_0 : List (Ty ET.op)) (t_1_0n : Option Bool) (t_1_0f : Bool) (t_1_0 : List (Ty ET.op)) (v : S.ref08_Same_4_V) : mk_ref08_Same_4 t_0_0n t_0_0f t_0_0 t_1_0n t_1_0f t_1_0 v = ⟨envOf 26 [(0, V.v false [C.d (D.sl t_0_0n t_0_0f ET.op t_0_0)]), (1, V.v false [C.d (D.sl t_1_0n t_1_0f ET.op t_1_0)]), (5, V.v false [C.d (D.sc (Sc.int IntKind.i64 v.t_5_0))])], heapOf 7 [], 0⟩ := by kernel_rfl
theorem lo1_ref08_Same_4 (e0 : V) (e1 : V) (e5 : V)  e st2 (h : (T1_ref08_Same_4 e0 e1 e5).eval = some (e, st2)) : Circles Try.prog cx_ref08_Same b_ref08_Same_4 ⟨envOf 26 [(0, e0), (1, e1), (5, e5)], heapOf 7 [], 0⟩ e st2 := by
  unfold T1_ref08_Same_4 at h
  split at h
  · have := loop_tree (mk := mk_ref08_Same_4 _ _ _ _ _ _) (ci_ref08_Same_4 _ _ _ _ _ _) _ _ e st2 h
    rw [mke_ref08_Same_4] at this
    exact this
  · cases h
theorem lok_ref08_Same_4 : LoopOk Try.prog cx_ref08_Same b_ref08_Same_4 T_ref08_Same_4 := by
  intro st e st2 h
  unfold T_ref08_Same_4 at h
  cases hk : okSt 26 7 0 [] st with
  | false => rw [hk] at h; cases h
  | true =>
    rw [hk] at h
    exact circles_keep (ks := [0, 1, 5]) hk (lo1_ref08_Same_4 _ _ _ e st2 h)
structure S.ref08_Same_T where
  x0 : Bool
  deriving Inhabited
noncomputable def S.ref08_Same_R (a0 : List (Ty .op)) (a1 : List (Ty .op)) : DT S.ref08_Same_T :=
let y0 : S.ref08_Same_4_V := { t_5_0 := 0 : S.ref08_Same_4_V }
(.br (xneI (↑a0.length : Int) (↑a1.length : Int))
(.leaf ⟨false⟩)
(.br (S.ref08_Same_4_j a0 a1 y0 0)
(.leaf ⟨false⟩)
(.br (S.ref08_Same_4_j a0 a1 y0 1)
(.leaf ⟨true⟩)
.fail)))
noncomputable def S.ref08_Same (a0 : List (Ty .op)) (a1 : List (Ty .op)) : Option S.ref08_Same_T := (S.ref08_Same_R a0 a1).run
noncomputable def S.ref08_Same_is (a0 : List (Ty .op)) (a1 : List (Ty .op)) : Bool := (S.ref08_Same a0 a1).isSome
noncomputable def S.ref08_Same_o (a0 : List (Ty .op)) (a1 : List (Ty .op)) : S.ref08_Same_T := (S.ref08_Same a0 a1).getD default
noncomputable def ret_ref08_Same (b : Bool) (r : S.ref08_Same_T) : Ret := ⟨b, none, [(false, [C.d (D.sc (Sc.bool r.x0))])]⟩
noncomputable def g_ref08_Same : Con
  | [(false, [.sl a0n a0f .op a0]), (false, [.sl a1n a1f .op a1])] => some (ret_ref08_Same (S.ref08_Same_is a0 a1) (S.ref08_Same_o a0 a1))
  | _ => none
theorem raw_ref08_Same (a0n : Option Bool) (a0f : Bool) (a0 : List (Ty .op)) (a1n : Option Bool) (a1f : Bool) (a1 : List (Ty .op)) : evR2 cx_ref08_Same (hdI cx_ref08_Same (find [(4, T_ref08_Same_4)]) [] none 0) none Try.f81 81 none [(false, [.sl a0n a0f .op a0]), (false, [.sl a1n a1f .op a1])] some = (S.ref08_Same_R a0 a1).go (ret_ref08_Same true) := by kernel_rfl
theorem bs_ref08_Same : loopsIn Try.f81 [] = [b_ref08_Same_4] := by kernel_rfl
theorem ref08_Same_ok : Stands Try.prog tyTab 81 g_ref08_Same := by
  refine stands3 (L := find [(4, T_ref08_Same_4)]) (n := 0) (hints := [(81, 4, { keep := [0, 1, 5], acc := [] })]) (cx_ok rfl) rdy_ref08_Same ⟨by kernel_rfl, by kernel_rfl, by kernel_rfl⟩ bs_ref08_Same (consB (fun T h => by have e : T_ref08_Same_4 = T := Option.some.inj (show some T_ref08_Same_4 = some T from h); exact e ▸ lok_ref08_Same_4) nilB) (fun das r hG hr => ?_)
  unfold g_ref08_Same at hG
  split at hG
  · rename_i a0n a0f a0 a1n a1f a1
    injection hG with hG; subst hG
    exact ⟨none, true, win default ((raw_ref08_Same a0n a0f a0 a1n a1f a1).trans (DT.go_run _ _)) hr⟩
  · cases hG
noncomputable abbrev cx_ref09_Same : Cx := mkCx2 tyTab [(81, g_ref08_Same)] [] [(103, 4, { keep := [2, 3, 5], acc := [] })] []
theorem rdy_ref09_Same : Ready Try.prog tyTab [(81, g_ref08_Same)] [] [] := ⟨consG2 ref08_Same_ok (noneG2), noneI2, noneF2⟩
structure S.ref09_Same_4_V where
  t_5_0 : Int
noncomputable def S.ref09_Same_4_R (h_0_0 : List (Ty ET.step)) (h_1_0 : List (Ty ET.step)) (v : S.ref09_Same_4_V) : DT (Option Nat × S.ref09_Same_4_V) :=
let y0 : Bool := xdec (v.t_5_0 < (↑h_0_0.length : Int))
let y1 : Bool := xdec (0 ≤ v.t_5_0)
let y2 : Ty ET.step := h_0_0.getD v.t_5_0.toNat (dflt ET.step)
let y3 : List Opn := y2.ifs
let y4 : Ty ET.step := h_1_0.getD v.t_5_0.toNat (dflt ET.step)
let y5 : List Opn := y4.ifs
let y6 : List Opn := y2.notIf
let y7 : List Opn := y4.notIf
(.br (y0)
(.br (y1 && y0)
(.br (y1 && xdec (v.t_5_0 < (↑h_1_0.length : Int)))
(.br (S.ref08_Same_is y3 y5)
(.br (S.ref08_Same_is y6 y7)
(.br (xnot (S.ref08_Same_o y3 y5).x0)
(.leaf (some 0, v))
(.br (xnot (S.ref08_Same_o y6 y7).x0)
(.leaf (some 0, v))
(.br (xnot (xdec (y2.name = y4.name)))
(.leaf (some 0, v))
(.br (xneI y2.min y4.min)
(.leaf (some 0, v))
(.br (xneI y2.max y4.max)
(.leaf (some 0, v))
(.br (bif y2.guard == y4.guard then false else true)
(.leaf (some 0, v))
(.br (xnot (xdec (y2.notName = y4.notName)))
(.leaf (some 0, v))
(.leaf (none, ⟨xwrap IntKind.i64 (v.t_5_0 + 1)⟩)))))))))
.fail)
.fail)
.fail)
.fail)
(.leaf (some 1, v)))
noncomputable def S.ref09_Same_4_r (h_0_0 : List (Ty ET.step)) (h_1_0 : List (Ty ET.step)) (v : S.ref09_Same_4_V) : Option (Option Nat × S.ref09_Same_4_V) := (S.ref09_Same_4_R h_0_0 h_1_0 v).run
noncomputable def S.ref09_Same_4_j (h_0_0 : List (Ty ET.step)) (h_1_0 : List (Ty ET.step)) (v : S.ref09_Same_4_V) (j : Nat) : Bool := Lp_j (S.ref09_Same_4_r h_0_0 h_1_0) v j
noncomputable def S.ref09_Same_4_v (h_0_0 : List (Ty ET.step)) (h_1_0 : List (Ty ET.step)) (v : S.ref09_Same_4_V) : S.ref09_Same_4_V := Lp_v (S.ref09_Same_4_r h_0_0 h_1_0) v
noncomputable def mk_ref09_Same_4 (h_0_0n : Option Bool) (h_0_0f : Bool) (h_0_0 : List (Ty ET.step)) (h_0_1 : Int) (h_0_2 : Int) (h_0_3 : Int) (h_0_4 : Int) (h_1_0n : Option Bool) (h_1_0f : Bool) (h_1_0 : List (Ty ET.step)) (h_1_1 : Int) (h_1_2 : Int) (h_1_3 : Int) (h_1_4 : Int) (v : S.ref09_Same_4_V) : St := ⟨[V.any, V.any, V.v false [C.ptr 0 0], V.v false [C.ptr 1 0], V.any, V.v false [C.d (D.sc (Sc.int IntKind.i64 v.t_5_0))], V.any, V.any, V.any, V.any, V.any, V.any, V.any, V.any,
  V.any, V.any, V.any, V.any, V.any, V.any, V.any, V.any, V.any, V.any, V.any, V.any, V.any, V.any, V.any, V.any, V.any, V.any, V.any, V.any, V.any, V.any, V.any, V.any, V.any,
  V.any, V.any, V.any, V.any, V.any, V.any, V.any, V.any, V.any, V.any, V.any, V.any, V.any, V.any, V.any, V.any, V.any, V.any, V.any, V.any, V.any, V.any, V.any, V.any, V.any,
  V.any, V.any, V.any, V.any, V.any, V.any, V.any, V.any, V.any, V.any, V.any, V.any, V.any, V.any, V.any, V.any, V.any, V.any, V.any, V.any, V.any, V.any, V.any, V.any, V.any,
  V.any, V.any, V.any, V.any, V.any, V.any, V.any, V.any, V.any, V.any, V.any, V.any, V.any, V.any, V.any, V.any, V.any, V.any, V.any, V.any, V.any, V.any, V.any, V.any], [some
    (Blk.box 45
      [C.d (D.sl h_0_0n h_0_0f ET.step h_0_0), C.d (D.sc (Sc.int IntKind.i64 h_0_1)), C.d (D.sc (Sc.int IntKind.i64 h_0_2)), C.d (D.sc (Sc.int IntKind.i64 h_0_3)),
        C.d (D.sc (Sc.int IntKind.i64 h_0_4))]),
  some
    (Blk.box 45
      [C.d (D.sl h_1_0n h_1_0f ET.step h_1_0), C.d (D.sc (Sc.int IntKind.i64 h_1_1)), C.d (D.sc (Sc.int IntKind.i64 h_1_2)), C.d (D.sc (Sc.int IntKind.i64 h_1_3)),
        C.d (D.sc (Sc.int IntKind.i64 h_1_4))]),
  none, none, none, none, none, none, none, none, none, none, none, none, none, none, none, none, none, none, none, none, none, none, none, none, none, none, none, none, none,
  none, none, none, none, none, none, none, none], 0⟩
noncomputable def ex_ref09_Same_4 (h_0_0n : Option Bool) (h_0_0f : Bool) (h_0_0 : List (Ty ET.step)) (h_0_1 : Int) (h_0_2 : Int) (h_0_3 : Int) (h_0_4 : Int) (h_1_0n : Option Bool) (h_1_0f : Bool) (h_1_0 : List (Ty ET.step)) (h_1_1 : Int) (h_1_2 : Int) (h_1_3 : Int) (h_1_4 : Int) (j : Nat) (v : S.ref09_Same_4_V) : Ex × St := match j with
  | 0 => (Ex.ret, ⟨[V.any, V.any, V.any, V.any, V.v false [C.d (D.sc (Sc.bool false))], V.any, V.any, V.any, V.any, V.any, V.any, V.any, V.any, V.any, V.any, V.any, V.any, V.any, V.any, V.any, V.any,
  V.any, V.any, V.any, V.any, V.any, V.any, V.any, V.any, V.any, V.any, V.any, V.any, V.any, V.any, V.any, V.any, V.any, V.any, V.any, V.any, V.any, V.any, V.any, V.any, V.any,
  V.any, V.any, V.any, V.any, V.any, V.any, V.any, V.any, V.any, V.any, V.any, V.any, V.any, V.any, V.any, V.any, V.any, V.any, V.any, V.any, V.any, V.any, V.any, V.any, V.any,
  V.any, V.any, V.any, V.any, V.any, V.any, V.any, V.any, V.any, V.any, V.any, V.any, V.any, V.any, V.any, V.any, V.any, V.any, V.any, V.any, V.any, V.any, V.any, V.any, V.any,
  V.any, V.any, V.any, V.any, V.any, V.any, V.any, V.any, V.any, V.any, V.any, V.any, V.any, V.any, V.any, V.any, V.any], [some
    (Blk.box 45
      [C.d (D.sl h_0_0n h_0_0f ET.step h_0_0), C.d (D.sc (Sc.int IntKind.i64 h_0_1)), C.d (D.sc (Sc.int IntKind.i64 h_0_2)), C.d (D.sc (Sc.int IntKind.i64 h_0_3)),
        C.d (D.sc (Sc.int IntKind.i64 h_0_4))]),
  some
    (Blk.box 45
      [C.d (D.sl h_1_0n h_1_0f ET.step h_1_0), C.d (D.sc (Sc.int IntKind.i64 h_1_1)), C.d (D.sc (Sc.int IntKind.i64 h_1_2)), C.d (D.sc (Sc.int IntKind.i64 h_1_3)),
        C.d (D.sc (Sc.int IntKind.i64 h_1_4))]),
  none, none, none, none, none, none, none, none, none, none, none, none, none, none, none, none, none, none, none, none, none, none, none, none, none, none, none, none, none,
  none, none, none, none, none, none, none, none, none, none, none, none, none, none, none, none, none, none,
  some
    (Blk.box 47
      [C.d (D.sc (Sc.str (h_0_0.getD v.t_5_0.toNat (dflt ET.step)).name)), C.d (D.sl none false ET.op (h_0_0.getD v.t_5_0.toNat (dflt ET.step)).ifs),
        C.d (D.sc (Sc.int IntKind.i64 (h_0_0.getD v.t_5_0.toNat (dflt ET.step)).min)), C.d (D.sc (Sc.int IntKind.i64 (h_0_0.getD v.t_5_0.toNat (dflt ET.step)).max)),
        C.d (D.sc (Sc.bool (h_0_0.getD v.t_5_0.toNat (dflt ET.step)).guard)), C.d (D.sc (Sc.str (h_0_0.getD v.t_5_0.toNat (dflt ET.step)).notName)),
        C.d (D.sl none false ET.op (h_0_0.getD v.t_5_0.toNat (dflt ET.step)).notIf)]),
  none, none, none, none, none, none,
  some
    (Blk.box 47
      [C.d (D.sc (Sc.str (h_1_0.getD v.t_5_0.toNat (dflt ET.step)).name)), C.d (D.sl none false ET.op (h_1_0.getD v.t_5_0.toNat (dflt ET.step)).ifs),
        C.d (D.sc (Sc.int IntKind.i64 (h_1_0.getD v.t_5_0.toNat (dflt ET.step)).min)), C.d (D.sc (Sc.int IntKind.i64 (h_1_0.getD v.t_5_0.toNat (dflt ET.step)).max)),
        C.d (D.sc (Sc.bool (h_1_0.getD v.t_5_0.toNat (dflt ET.step)).guard)), C.d (D.sc (Sc.str (h_1_0.getD v.t_5_0.toNat (dflt ET.step)).notName)),
        C.d (D.sl none false ET.op (h_1_0.getD v.t_5_0.toNat (dflt ET.step)).notIf)]),
  none, none, none, none, none, none, none, none, none, none, none, none, none, none, none, none, none, none, none, none, none, none, none, none, none, none, none, none, none,
  none, none, none, none, none, none, none, none, none, none, none, none, none, none, none, none, none, none, none, none, none, none, none, none, none, none], 0⟩)
  | 1 => (Ex.exit 0, ⟨[V.any, V.any, V.any, V.any, V.any, V.any, V.any, V.any, V.any, V.any, V.any, V.any, V.any, V.any, V.any, V.any, V.any, V.any, V.any, V.any, V.any, V.any, V.any, V.any, V.any,
  V.any, V.any, V.any, V.any, V.any, V.any, V.any, V.any, V.any, V.any, V.any, V.any, V.any, V.any, V.any, V.any, V.any, V.any, V.any, V.any, V.any, V.any, V.any, V.any, V.any,
  V.any, V.any, V.any, V.any, V.any, V.any, V.any, V.any, V.any, V.any, V.any, V.any, V.any, V.any, V.any, V.any, V.any, V.any, V.any, V.any, V.any, V.any, V.any, V.any, V.any,
  V.any, V.any, V.any, V.any, V.any, V.any, V.any, V.any, V.any, V.any, V.any, V.any, V.any, V.any, V.any, V.any, V.any, V.any, V.any, V.any, V.any, V.any, V.any, V.any, V.any,
  V.any, V.any, V.any, V.any, V.any, V.any, V.any, V.any, V.any, V.any, V.any, V.any, V.any], [some
    (Blk.box 45
      [C.d (D.sl h_0_0n h_0_0f ET.step h_0_0), C.d (D.sc (Sc.int IntKind.i64 h_0_1)), C.d (D.sc (Sc.int IntKind.i64 h_0_2)), C.d (D.sc (Sc.int IntKind.i64 h_0_3)),
        C.d (D.sc (Sc.int IntKind.i64 h_0_4))]),
  some
    (Blk.box 45
      [C.d (D.sl h_1_0n h_1_0f ET.step h_1_0), C.d (D.sc (Sc.int IntKind.i64 h_1_1)), C.d (D.sc (Sc.int IntKind.i64 h_1_2)), C.d (D.sc (Sc.int IntKind.i64 h_1_3)),
        C.d (D.sc (Sc.int IntKind.i64 h_1_4))]),
  none, none, none, none, none, none, none, none, none, none, none, none, none, none, none, none, none, none, none, none, none, none, none, none, none, none, none, none, none,
  none, none, none, none, none, none, none, none, none, none, none, none, none], 0⟩)
  | _ => (.ret, ⟨[], [], 0⟩)
noncomputable def T1_ref09_Same_4 : V → V → V → Option Blk → Option Blk → Tree
  | V.v false [C.ptr 0 0], V.v false [C.ptr 1 0], V.v false [C.d (D.sc (Sc.int IntKind.i64 t_5_0))], some (Blk.box 45 [C.d (D.sl h_0_0n h_0_0f ET.step h_0_0), C.d (D.sc (Sc.int IntKind.i64 h_0_1)), C.d (D.sc (Sc.int IntKind.i64 h_0_2)), C.d (D.sc (Sc.int IntKind.i64 h_0_3)), C.d (D.sc (Sc.int IntKind.i64 h_0_4))]), some (Blk.box 45 [C.d (D.sl h_1_0n h_1_0f ET.step h_1_0), C.d (D.sc (Sc.int IntKind.i64 h_1_1)), C.d (D.sc (Sc.int IntKind.i64 h_1_2)), C.d (D.sc (Sc.int IntKind.i64 h_1_3)), C.d (D.sc (Sc.int IntKind.i64 h_1_4))]) => exT (fun j => ex_ref09_Same_4 h_0_0n h_0_0f h_0_0 h_0_1 h_0_2 h_0_3 h_0_4 h_1_0n h_1_0f h_1_0 h_1_1 h_1_2 h_1_3 h_1_4 j (S.ref09_Same_4_v h_0_0 h_1_0 ⟨t_5_0⟩)) (S.ref09_Same_4_j h_0_0 h_1_0 ⟨t_5_0⟩) [0, 1]
  | _, _, _, _, _ => .bad
noncomputable def T_ref09_Same_4 (st : St) : Tree := bif okSt 113 39 0 [0, 1] st then T1_ref09_Same_4 (st.env.getD 2 .any) (st.env.getD 3 .any) (st.env.getD 5 .any) (lk st.heap 0) (lk st.heap 1) else .bad
noncomputable def b_ref09_Same_4 : Code := loopBy Try.f103 4
theorem rnd_ref09_Same_4 (h_0_0n : Option Bool) (h_0_0f : Bool) (h_0_0 : List (Ty ET.step)) (h_0_1 : Int) (h_0_2 : Int) (h_0_3 : Int) (h_0_4 : Int) (h_1_0n : Option Bool) (h_1_0f : Bool) (h_1_0 : List (Ty ET.step)) (h_1_1 : Int) (h_1_2 : Int) (h_1_3 : Int) (h_1_4 : Int) (v : S.ref09_Same_4_V) : round2 cx_ref09_Same (hdI cx_ref09_Same (find []) [] none 0) 103 b_ref09_Same_4 [] 39 [4] (mk_ref09_Same_4 h_0_0n h_0_0f h_0_0 h_0_1 h_0_2 h_0_3 h_0_4 h_1_0n h_1_0f h_1_0 h_1_1 h_1_2 h_1_3 h_1_4 v) = (S.ref09_Same_4_R h_0_0 h_1_0 v).go (roundOut (mk_ref09_Same_4 h_0_0n h_0_0f h_0_0 h_0_1 h_0_2 h_0_3 h_0_4 h_1_0n h_1_0f h_1_0 h_1_1 h_1_2 h_1_3 h_1_4) (ex_ref09_Same_4 h_0_0n h_0_0f h_0_0 h_0_1 h_0_2 h_0_3 h_0_4 h_1_0n h_1_0f h_1_0 h_1_1 h_1_2 h_1_3 h_1_4)) := by kernel_rfl
theorem bs_ref09_Same_4 : loopsOf b_ref09_Same_4 ++ loopsInl [] = [] := by kernel_rfl
theorem ci_ref09_Same_4 (h_0_0n : Option Bool) (h_0_0f : Bool) (h_0_0 : List (Ty ET.step)) (h_0_1 : Int) (h_0_2 : Int) (h_0_3 : Int) (h_0_4 : Int) (h_1_0n : Option Bool) (h_1_0f : Bool) (h_1_0 : List (Ty ET.step)) (h_1_1 : Int) (h_1_2 : Int) (h_1_3 : Int) (h_1_4 : Int) : ∀ v j v2, Lp (S.ref09_Same_4_r h_0_0 h_1_0) v = some (j, v2) → Circles Try.prog cx_ref09_Same b_ref09_Same_4 (mk_ref09_Same_4 h_0_0n h_0_0f h_0_0 h_0_1 h_0_2 h_0_3 h_0_4 h_1_0n h_1_0f h_1_0 h_1_1 h_1_2 h_1_3 h_1_4 v) (ex_ref09_Same_4 h_0_0n h_0_0f h_0_0 h_0_1 h_0_2 h_0_3 h_0_4 h_1_0n h_1_0f h_1_0 h_1_1 h_1_2 h_1_3 h_1_4 j v2).1 (ex_ref09_Same_4 h_0_0n h_0_0f h_0_0 h_0_1 h_0_2 h_0_3 h_0_4 h_1_0n h_1_0f h_1_0 h_1_1 h_1_2 h_1_3 h_1_4 j v2).2 :=
  loop_ok2 (L := find []) (n := 0) (hints := [(103, 4, { keep := [2, 3, 5], acc := [] })]) (cx_ok rfl) rdy_ref09_Same bs_ref09_Same_4 nilB (fun v => (rnd_ref09_Same_4 h_0_0n h_0_0f h_0_0 h_0_1 h_0_2 h_0_3 h_0_4 h_1_0n h_1_0f h_1_0 h_1_1 h_1_2 h_1_3 h_1_4 v).trans (DT.go_run _ _)) (by intro j v; unfold ex_ref09_Same_4; split <;> rfl)
theorem mke_ref09_Same_4 (h_0_0n : Option Bool) (h_0_0f : Bool) (h_0_0 : List (Ty ET.step)) (h_0_1 : Int) (h_0_2 : Int) (h_0_3 : Int) (h_0_4 : Int) (h_1_0n : Option Bool) (h_1_0f : Bool) (h_1_0 : List (Ty ET.step)) (h_1_1 : Int) (h_1_2 : Int) (h_1_3 : Int) (h_1_4 : Int) (v : S.ref09_Same_4_V) : mk_ref09_Same_4 h_0_0n h_0_0f h_0_0 h_0_1 h_0_2 h_0_3 h_0_4 h_1_0n h_1_0f h_1_0 h_1_1 h_1_2 h_1_3 h_1_4 v = ⟨envOf 113 [(2, V.v false [C.ptr 0 0]), (3, V.v false [C.ptr 1 0]), (5, V.v false [C.d (D.sc (Sc.int IntKind.i64 v.t_5_0))])], heapOf 39 [(0, some
  (Blk.box 45
    [C.d (D.sl h_0_0n h_0_0f ET.step h_0_0), C.d (D.sc (Sc.int IntKind.i64 h_0_1)), C.d (D.sc (Sc.int IntKind.i64 h_0_2)), C.d (D.sc (Sc.int IntKind.i64 h_0_3)),
      C.d (D.sc (Sc.int IntKind.i64 h_0_4))])), (1, some
  (Blk.box 45
    [C.d (D.sl h_1_0n h_1_0f ET.step h_1_0), C.d (D.sc (Sc.int IntKind.i64 h_1_1)), C.d (D.sc (Sc.int IntKind.i64 h_1_2)), C.d (D.sc (Sc.int IntKind.i64 h_1_3)),
      C.d (D.sc (Sc.int IntKind.i64 h_1_4))]))], 0⟩ := by kernel_rfl
theorem lo1_ref09_Same_4 (e2 : V) (e3 : V) (e5 : V) (h0 : Option Blk) (h1 : Option Blk) e st2 (h : (T1_ref09_Same_4 e2 e3 e5 h0 h1).eval = some (e, st2)) : Circles Try.prog cx_ref09_Same b_ref09_Same_4 ⟨envOf 113 [(2, e2), (3, e3), (5, e5)], heapOf 39 [(0, h0), (1, h1)], 0⟩ e st2 := by
  unfold T1_ref09_Same_4 at h
  split at h
  · have := loop_tree (mk := mk_ref09_Same_4 _ _ _ _ _ _ _ _ _ _ _ _ _ _) (ci_ref09_Same_4 _ _ _ _ _ _ _ _ _ _ _ _ _ _) _ _ e st2 h
    rw [mke_ref09_Same_4] at this
    exact this
  · cases h
theorem lok_ref09_Same_4 : LoopOk Try.prog cx_ref09_Same b_ref09_Same_4 T_ref09_Same_4 := by
  intro st e st2 h
  unfold T_ref09_Same_4 at h
  cases hk : okSt 113 39 0 [0, 1] st with
  | false => rw [hk] at h; cases h
  | true =>
    rw [hk] at h
    exact circles_keep (ks := [2, 3, 5]) hk (lo1_ref09_Same_4 _ _ _ _ _ e st2 h)
structure S.ref09_Same_T where
  x0 : Bool
  deriving Inhabited
noncomputable def S.ref09_Same_R (a0_0 : List (Ty .step)) (a0_1 : Int) (a0_2 : Int) (a0_3 : Int) (a0_4 : Int) (a1_0 : List (Ty .step)) (a1_1 : Int) (a1_2 : Int) (a1_3 : Int) (a1_4 : Int) : DT S.ref09_Same_T :=
let y0 : S.ref09_Same_4_V := { t_5_0 := 0 : S.ref09_Same_4_V }
(.br (xneI (↑a0_0.length : Int) (↑a1_0.length : Int))
(.leaf ⟨false⟩)
(.br (xneI a0_1 a1_1)
(.leaf ⟨false⟩)
(.br (xneI a0_2 a1_2)
(.leaf ⟨false⟩)
(.br (xneI a0_3 a1_3)
(.leaf ⟨false⟩)
(.br (xneI a0_4 a1_4)
(.leaf ⟨false⟩)
(.br (S.ref09_Same_4_j a0_0 a1_0 y0 0)
(.leaf ⟨false⟩)
(.br (S.ref09_Same_4_j a0_0 a1_0 y0 1)
(.leaf ⟨true⟩)
.fail)))))))
noncomputable def S.ref09_Same (a0_0 : List (Ty .step)) (a0_1 : Int) (a0_2 : Int) (a0_3 : Int) (a0_4 : Int) (a1_0 : List (Ty .step)) (a1_1 : Int) (a1_2 : Int) (a1_3 : Int) (a1_4 : Int) : Option S.ref09_Same_T := (S.ref09_Same_R a0_0 a0_1 a0_2 a0_3 a0_4 a1_0 a1_1 a1_2 a1_3 a1_4).run
noncomputable def S.ref09_Same_is (a0_0 : List (Ty .step)) (a0_1 : Int) (a0_2 : Int) (a0_3 : Int) (a0_4 : Int) (a1_0 : List (Ty .step)) (a1_1 : Int) (a1_2 : Int) (a1_3 : Int) (a1_4 : Int) : Bool := (S.ref09_Same a0_0 a0_1 a0_2 a0_3 a0_4 a1_0 a1_1 a1_2 a1_3 a1_4).isSome
noncomputable def S.ref09_Same_o (a0_0 : List (Ty .step)) (a0_1 : Int) (a0_2 : Int) (a0_3 : Int) (a0_4 : Int) (a1_0 : List (Ty .step)) (a1_1 : Int) (a1_2 : Int) (a1_3 : Int) (a1_4 : Int) : S.ref09_Same_T := (S.ref09_Same a0_0 a0_1 a0_2 a0_3 a0_4 a1_0 a1_1 a1_2 a1_3 a1_4).getD default
noncomputable def ret_ref09_Same (b : Bool) (r : S.ref09_Same_T) : Ret := ⟨b, none, [(false, [C.d (D.sc (Sc.bool r.x0))])]⟩
noncomputable def g_ref09_Same : Con
  | [(true, [.sl a0_0n a0_0f .step a0_0, .sc (.int .i64 a0_1), .sc (.int .i64 a0_2), .sc (.int .i64 a0_3), .sc (.int .i64 a0_4)]), (true, [.sl a1_0n a1_0f .step a1_0, .sc (.int .i64 a1_1), .sc (.int .i64 a1_2), .sc (.int .i64 a1_3), .sc (.int .i64 a1_4)])] => some (ret_ref09_Same (S.ref09_Same_is a0_0 a0_1 a0_2 a0_3 a0_4 a1_0 a1_1 a1_2 a1_3 a1_4) (S.ref09_Same_o a0_0 a0_1 a0_2 a0_3 a0_4 a1_0 a1_1 a1_2 a1_3 a1_4))
  | _ => none
theorem raw_ref09_Same (a0_0n : Option Bool) (a0_0f : Bool) (a0_0 : List (Ty .step)) (a0_1 : Int) (a0_2 : Int) (a0_3 : Int) (a0_4 : Int) (a1_0n : Option Bool) (a1_0f : Bool) (a1_0 : List (Ty .step)) (a1_1 : Int) (a1_2 : Int) (a1_3 : Int) (a1_4 : Int) : evR2 cx_ref09_Same (hdI cx_ref09_Same (find [(4, T_ref09_Same_4)]) [] none 0) none Try.f103 103 none [(true, [.sl a0_0n a0_0f .step a0_0, .sc (.int .i64 a0_1), .sc (.int .i64 a0_2), .sc (.int .i64 a0_3), .sc (.int .i64 a0_4)]), (true, [.sl a1_0n a1_0f .step a1_0, .sc (.int .i64 a1_1), .sc (.int .i64 a1_2), .sc (.int .i64 a1_3), .sc (.int .i64 a1_4)])] some = (S.ref09_Same_R a0_0 a0_1 a0_2 a0_3 a0_4 a1_0 a1_1 a1_2 a1_3 a1_4).go (ret_ref09_Same true) := by kernel_rfl
theorem bs_ref09_Same : loopsIn Try.f103 [] = [b_ref09_Same_4] := by kernel_rfl
theorem ref09_Same_ok : Stands Try.prog tyTab 103 g_ref09_Same := by
  refine stands3 (L := find [(4, T_ref09_Same_4)]) (n := 0) (hints := [(103, 4, { keep := [2, 3, 5], acc := [] })]) (cx_ok rfl) rdy_ref09_Same ⟨by kernel_rfl, by kernel_rfl, by kernel_rfl⟩ bs_ref09_Same (consB (fun T h => by have e : T_ref09_Same_4 = T := Option.some.inj (show some T_ref09_Same_4 = some T from h); exact e ▸ lok_ref09_Same_4) nilB) (fun das r hG hr => ?_)
  unfold g_ref09_Same at hG
  split at hG
  · rename_i a0_0n a0_0f a0_0 a0_1 a0_2 a0_3 a0_4 a1_0n a1_0f a1_0 a1_1 a1_2 a1_3 a1_4
    injection hG with hG; subst hG
    exact ⟨none, true, win default ((raw_ref09_Same a0_0n a0_0f a0_0 a0_1 a0_2 a0_3 a0_4 a1_0n a1_0f a1_0 a1_1 a1_2 a1_3 a1_4).trans (DT.go_run _ _)) hr⟩
  · cases hG
noncomputable abbrev cx_ref13_Same : Cx := mkCx2 tyTab [(103, g_ref09_Same)] [] [(59, 5, { keep := [2, 3, 6], acc := [] })] []
theorem rdy_ref13_Same : Ready Try.prog tyTab [(103, g_ref09_Same)] [] [] := ⟨consG2 ref09_Same_ok (noneG2), noneI2, noneF2⟩
structure S.ref13_Same_5_V where
  t_6_0 : Int
noncomputable def S.ref13_Same_5_R (h_0_5 : List (Ty ET.run)) (h_1_5 : List (Ty ET.run)) (v : S.ref13_Same_5_V) : DT (Option Nat × S.ref13_Same_5_V) :=
let y0 : Bool := xdec (v.t_6_0 < (↑h_0_5.length : Int))
let y1 : Bool := xdec (0 ≤ v.t_6_0)
let y2 : Ty ET.run := h_0_5.getD v.t_6_0.toNat (dflt ET.run)
let y3 : Ty ET.run := h_1_5.getD v.t_6_0.toNat (dflt ET.run)
(.br (y0)
(.br (y1 && y0)
(.br (y1 && xdec (v.t_6_0 < (↑h_1_5.length : Int)))
(.br (bif xeqI y2.first y3.first && (xeqI y2.at_ y3.at_ && (xeqI y2.step y3.step && (xeqI y2.n y3.n && (xeqI y2.many y3.many && (xeqI y2.agg y3.agg && xeqB y2.bad y3.bad))))) then false
else true)
(.leaf (some 0, v))
(.leaf (none, ⟨xwrap IntKind.i64 (v.t_6_0 + 1)⟩)))
.fail)
.fail)
(.leaf (some 1, v)))
noncomputable def S.ref13_Same_5_r (h_0_5 : List (Ty ET.run)) (h_1_5 : List (Ty ET.run)) (v : S.ref13_Same_5_V) : Option (Option Nat × S.ref13_Same_5_V) := (S.ref13_Same_5_R h_0_5 h_1_5 v).run
noncomputable def S.ref13_Same_5_j (h_0_5 : List (Ty ET.run)) (h_1_5 : List (Ty ET.run)) (v : S.ref13_Same_5_V) (j : Nat) : Bool := Lp_j (S.ref13_Same_5_r h_0_5 h_1_5) v j
noncomputable def S.ref13_Same_5_v (h_0_5 : List (Ty ET.run)) (h_1_5 : List (Ty ET.run)) (v : S.ref13_Same_5_V) : S.ref13_Same_5_V := Lp_v (S.ref13_Same_5_r h_0_5 h_1_5) v
noncomputable def mk_ref13_Same_5 (h_0_0n : Option Bool) (h_0_0f : Bool) (h_0_0 : List (Ty ET.step)) (h_0_1 : Int) (h_0_2 : Int) (h_0_3 : Int) (h_0_4 : Int) (h_0_5n : Option Bool) (h_0_5f : Bool) (h_0_5 : List (Ty ET.run)) (h_0_6 : Int) (h_1_0n : Option Bool) (h_1_0f : Bool) (h_1_0 : List (Ty ET.step)) (h_1_1 : Int) (h_1_2 : Int) (h_1_3 : Int) (h_1_4 : Int) (h_1_5n : Option Bool) (h_1_5f : Bool) (h_1_5 : List (Ty ET.run)) (h_1_6 : Int) (v : S.ref13_Same_5_V) : St := ⟨[V.any, V.any, V.v false [C.ptr 0 0], V.v false [C.ptr 1 0], V.any, V.any, V.v false [C.d (D.sc (Sc.int IntKind.i64 v.t_6_0))], V.any, V.any, V.any, V.any, V.any, V.any, V.any,
  V.any, V.any, V.any, V.any, V.any, V.any, V.any, V.any, V.any, V.any, V.any, V.any, V.any, V.any, V.any, V.any, V.any, V.any, V.any, V.any, V.any, V.any, V.any, V.any, V.any,
  V.any, V.any, V.any, V.any, V.any, V.any, V.any, V.any, V.any], [some
    (Blk.box 71
      [C.d (D.sl h_0_0n h_0_0f ET.step h_0_0), C.d (D.sc (Sc.int IntKind.i64 h_0_1)), C.d (D.sc (Sc.int IntKind.i64 h_0_2)), C.d (D.sc (Sc.int IntKind.i64 h_0_3)),
        C.d (D.sc (Sc.int IntKind.i64 h_0_4)), C.d (D.sl h_0_5n h_0_5f ET.run h_0_5), C.d (D.sc (Sc.int IntKind.i64 h_0_6))]),
  some
    (Blk.box 71
      [C.d (D.sl h_1_0n h_1_0f ET.step h_1_0), C.d (D.sc (Sc.int IntKind.i64 h_1_1)), C.d (D.sc (Sc.int IntKind.i64 h_1_2)), C.d (D.sc (Sc.int IntKind.i64 h_1_3)),
        C.d (D.sc (Sc.int IntKind.i64 h_1_4)), C.d (D.sl h_1_5n h_1_5f ET.run h_1_5), C.d (D.sc (Sc.int IntKind.i64 h_1_6))]),
  none, none, none, none, none, none, none, none, none, none, none, none, none, none, none, none, none, none, none, none, none, none, none, none, none, none], 0⟩
noncomputable def ex_ref13_Same_5 (h_0_0n : Option Bool) (h_0_0f : Bool) (h_0_0 : List (Ty ET.step)) (h_0_1 : Int) (h_0_2 : Int) (h_0_3 : Int) (h_0_4 : Int) (h_0_5n : Option Bool) (h_0_5f : Bool) (h_0_5 : List (Ty ET.run)) (h_0_6 : Int) (h_1_0n : Option Bool) (h_1_0f : Bool) (h_1_0 : List (Ty ET.step)) (h_1_1 : Int) (h_1_2 : Int) (h_1_3 : Int) (h_1_4 : Int) (h_1_5n : Option Bool) (h_1_5f : Bool) (h_1_5 : List (Ty ET.run)) (h_1_6 : Int) (j : Nat) (v : S.ref13_Same_5_V) : Ex × St := match j with
  | 0 => (Ex.ret, ⟨[V.any, V.any, V.any, V.any, V.v false [C.d (D.sc (Sc.bool false))], V.any, V.any, V.any, V.any, V.any, V.any, V.any, V.any, V.any, V.any, V.any, V.any, V.any, V.any, V.any, V.any,
  V.any, V.any, V.any, V.any, V.any, V.any, V.any, V.any, V.any, V.any, V.any, V.any, V.any, V.any, V.any, V.any, V.any, V.any, V.any, V.any, V.any, V.any, V.any, V.any, V.any,
  V.any, V.any], [some
    (Blk.box 71
      [C.d (D.sl h_0_0n h_0_0f ET.step h_0_0), C.d (D.sc (Sc.int IntKind.i64 h_0_1)), C.d (D.sc (Sc.int IntKind.i64 h_0_2)), C.d (D.sc (Sc.int IntKind.i64 h_0_3)),
        C.d (D.sc (Sc.int IntKind.i64 h_0_4)), C.d (D.sl h_0_5n h_0_5f ET.run h_0_5), C.d (D.sc (Sc.int IntKind.i64 h_0_6))]),
  some
    (Blk.box 71
      [C.d (D.sl h_1_0n h_1_0f ET.step h_1_0), C.d (D.sc (Sc.int IntKind.i64 h_1_1)), C.d (D.sc (Sc.int IntKind.i64 h_1_2)), C.d (D.sc (Sc.int IntKind.i64 h_1_3)),
        C.d (D.sc (Sc.int IntKind.i64 h_1_4)), C.d (D.sl h_1_5n h_1_5f ET.run h_1_5), C.d (D.sc (Sc.int IntKind.i64 h_1_6))]),
  none, none, none, none, none, none, none, none, none, none, none, none, none, none, none, none, none, none, none, none, none, none, none, none, none, none, none, none, none,
  none, none, none, none, none, none, none, none, none, none, none, none, none, none], 0⟩)
  | 1 => (Ex.exit 0, ⟨[V.any, V.any, V.any, V.any, V.any, V.any, V.any, V.any, V.any, V.any, V.any, V.any, V.any, V.any, V.any, V.any, V.any, V.any, V.any, V.any, V.any, V.any, V.any, V.any, V.any,
  V.any, V.any, V.any, V.any, V.any, V.any, V.any, V.any, V.any, V.any, V.any, V.any, V.any, V.any, V.any, V.any, V.any, V.any, V.any, V.any, V.any, V.any, V.any], [some
    (Blk.box 71
      [C.d (D.sl h_0_0n h_0_0f ET.step h_0_0), C.d (D.sc (Sc.int IntKind.i64 h_0_1)), C.d (D.sc (Sc.int IntKind.i64 h_0_2)), C.d (D.sc (Sc.int IntKind.i64 h_0_3)),
        C.d (D.sc (Sc.int IntKind.i64 h_0_4)), C.d (D.sl h_0_5n h_0_5f ET.run h_0_5), C.d (D.sc (Sc.int IntKind.i64 h_0_6))]),
  some
    (Blk.box 71
      [C.d (D.sl h_1_0n h_1_0f ET.step h_1_0), C.d (D.sc (Sc.int IntKind.i64 h_1_1)), C.d (D.sc (Sc.int IntKind.i64 h_1_2)), C.d (D.sc (Sc.int IntKind.i64 h_1_3)),
        C.d (D.sc (Sc.int IntKind.i64 h_1_4)), C.d (D.sl h_1_5n h_1_5f ET.run h_1_5), C.d (D.sc (Sc.int IntKind.i64 h_1_6))]),
  none, none, none, none, none, none, none, none, none, none, none, none, none, none, none, none, none, none, none, none, none, none, none, none, none, none, none, none, none,
  none, none], 0⟩)
  | _ => (.ret, ⟨[], [], 0⟩)
noncomputable def T1_ref13_Same_5 : V → V → V → Option Blk → Option Blk → Tree
  | V.v false [C.ptr 0 0], V.v false [C.ptr 1 0], V.v false [C.d (D.sc (Sc.int IntKind.i64 t_6_0))], some (Blk.box 71 [C.d (D.sl h_0_0n h_0_0f ET.step h_0_0), C.d (D.sc (Sc.int IntKind.i64 h_0_1)), C.d (D.sc (Sc.int IntKind.i64 h_0_2)), C.d (D.sc (Sc.int IntKind.i64 h_0_3)), C.d (D.sc (Sc.int IntKind.i64 h_0_4)), C.d (D.sl h_0_5n h_0_5f ET.run h_0_5), C.d (D.sc (Sc.int IntKind.i64 h_0_6))]), some (Blk.box 71 [C.d (D.sl h_1_0n h_1_0f ET.step h_1_0), C.d (D.sc (Sc.int IntKind.i64 h_1_1)), C.d (D.sc (Sc.int IntKind.i64 h_1_2)), C.d (D.sc (Sc.int IntKind.i64 h_1_3)), C.d (D.sc (Sc.int IntKind.i64 h_1_4)), C.d (D.sl h_1_5n h_1_5f ET.run h_1_5), C.d (D.sc (Sc.int IntKind.i64 h_1_6))]) => exT (fun j => ex_ref13_Same_5 h_0_0n h_0_0f h_0_0 h_0_1 h_0_2 h_0_3 h_0_4 h_0_5n h_0_5f h_0_5 h_0_6 h_1_0n h_1_0f h_1_0 h_1_1 h_1_2 h_1_3 h_1_4 h_1_5n h_1_5f h_1_5 h_1_6 j (S.ref13_Same_5_v h_0_5 h_1_5 ⟨t_6_0⟩)) (S.ref13_Same_5_j h_0_5 h_1_5 ⟨t_6_0⟩) [0, 1]
  | _, _, _, _, _ => .bad
noncomputable def T_ref13_Same_5 (st : St) : Tree := bif okSt 48 28 0 [0, 1] st then T1_ref13_Same_5 (st.env.getD 2 .any) (st.env.getD 3 .any) (st.env.getD 6 .any) (lk st.heap 0) (lk st.heap 1) else .bad
noncomputable def b_ref13_Same_5 : Code := loopBy Try.f59 5
theorem rnd_ref13_Same_5 (h_0_0n : Option Bool) (h_0_0f : Bool) (h_0_0 : List (Ty ET.step)) (h_0_1 : Int) (h_0_2 : Int) (h_0_3 : Int) (h_0_4 : Int) (h_0_5n : Option Bool) (h_0_5f : Bool) (h_0_5 : List (Ty ET.run)) (h_0_6 : Int) (h_1_0n : Option Bool) (h_1_0f : Bool) (h_1_0 : List (Ty ET.step)) (h_1_1 : Int) (h_1_2 : Int) (h_1_3 : Int) (h_1_4 : Int) (h_1_5n : Option Bool) (h_1_5f : Bool) (h_1_5 : List (Ty ET.run)) (h_1_6 : Int) (v : S.ref13_Same_5_V) : round2 cx_ref13_Same (hdI cx_ref13_Same (find []) [] none 0) 59 b_ref13_Same_5 [] 28 [4] (mk_ref13_Same_5 h_0_0n h_0_0f h_0_0 h_0_1 h_0_2 h_0_3 h_0_4 h_0_5n h_0_5f h_0_5 h_0_6 h_1_0n h_1_0f h_1_0 h_1_1 h_1_2 h_1_3 h_1_4 h_1_5n h_1_5f h_1_5 h_1_6 v) = (S.ref13_Same_5_R h_0_5 h_1_5 v).go (roundOut (mk_ref13_Same_5 h_0_0n h_0_0f h_0_0 h_0_1 h_0_2 h_0_3 h_0_4 h_0_5n h_0_5f h_0_5 h_0_6 h_1_0n h_1_0f h_1_0 h_1_1 h_1_2 h_1_3 h_1_4 h_1_5n h_1_5f h_1_5 h_1_6) (ex_ref13_Same_5 h_0_0n h_0_0f h_0_0 h_0_1 h_0_2 h_0_3 h_0_4 h_0_5n h_0_5f h_0_5 h_0_6 h_1_0n h_1_0f h_1_0 h_1_1 h_1_2 h_1_3 h_1_4 h_1_5n h_1_5f h_1_5 h_1_6)) := by kernel_rfl
theorem bs_ref13_Same_5 : loopsOf b_ref13_Same_5 ++ loopsInl [] = [] := by kernel_rfl
theorem ci_ref13_Same_5 (h_0_0n : Option Bool) (h_0_0f : Bool) (h_0_0 : List (Ty ET.step)) (h_0_1 : Int) (h_0_2 : Int) (h_0_3 : Int) (h_0_4 : Int) (h_0_5n : Option Bool) (h_0_5f : Bool) (h_0_5 : List (Ty ET.run)) (h_0_6 : Int) (h_1_0n : Option Bool) (h_1_0f : Bool) (h_1_0 : List (Ty ET.step)) (h_1_1 : Int) (h_1_2 : Int) (h_1_3 : Int) (h_1_4 : Int) (h_1_5n : Option Bool) (h_1_5f : Bool) (h_1_5 : List (Ty ET.run)) (h_1_6 : Int) : ∀ v j v2, Lp (S.ref13_Same_5_r h_0_5 h_1_5) v = some (j, v2) → Circles Try.prog cx_ref13_Same b_ref13_Same_5 (mk_ref13_Same_5 h_0_0n h_0_0f h_0_0 h_0_1 h_0_2 h_0_3 h_0_4 h_0_5n h_0_5f h_0_5 h_0_6 h_1_0n h_1_0f h_1_0 h_1_1 h_1_2 h_1_3 h_1_4 h_1_5n h_1_5f h_1_5 h_1_6 v) (ex_ref13_Same_5 h_0_0n h_0_0f h_0_0 h_0_1 h_0_2 h_0_3 h_0_4 h_0_5n h_0_5f h_0_5 h_0_6 h_1_0n h_1_0f h_1_0 h_1_1 h_1_2 h_1_3 h_1_4 h_1_5n h_1_5f h_1_5 h_1_6 j v2).1 (ex_ref13_Same_5 h_0_0n h_0_0f h_0_0 h_0_1 h_0_2 h_0_3 h_0_4 h_0_5n h_0_5f h_0_5 h_0_6 h_1_0n h_1_0f h_1_0 h_1_1 h_1_2 h_1_3 h_1_4 h_1_5n h_1_5f h_1_5 h_1_6 j v2).2 :=
  loop_ok2 (L := find []) (n := 0) (hints := [(59, 5, { keep := [2, 3, 6], acc := [] })]) (cx_ok rfl) rdy_ref13_Same bs_ref13_Same_5 nilB (fun v => (rnd_ref13_Same_5 h_0_0n h_0_0f h_0_0 h_0_1 h_0_2 h_0_3 h_0_4 h_0_5n h_0_5f h_0_5 h_0_6 h_1_0n h_1_0f h_1_0 h_1_1 h_1_2 h_1_3 h_1_4 h_1_5n h_1_5f h_1_5 h_1_6 v).trans (DT.go_run _ _)) (by intro j v; unfold ex_ref13_Same_5; split <;> rfl)
theorem mke_ref13_Same_5 (h_0_0n : Option Bool) (h_0_0f : Bool) (h_0_0 : List (Ty ET.step)) (h_0_1 : Int) (h_0_2 : Int) (h_0_3 : Int) (h_0_4 : Int) (h_0_5n : Option Bool) (h_0_5f : Bool) (h_0_5 : List (Ty ET.run)) (h_0_6 : Int) (h_1_0n : Option Bool) (h_1_0f : Bool) (h_1_0 : List (Ty ET.step)) (h_1_1 : Int) (h_1_2 : Int) (h_1_3 : Int) (h_1_4 : Int) (h_1_5n : Option Bool) (h_1_5f : Bool) (h_1_5 : List (Ty ET.run)) (h_1_6 : Int) (v : S.ref13_Same_5_V) : mk_ref13_Same_5 h_0_0n h_0_0f h_0_0 h_0_1 h_0_2 h_0_3 h_0_4 h_0_5n h_0_5f h_0_5 h_0_6 h_1_0n h_1_0f h_1_0 h_1_1 h_1_2 h_1_3 h_1_4 h_1_5n h_1_5f h_1_5 h_1_6 v = ⟨envOf 48 [(2, V.v false [C.ptr 0 0]), (3, V.v false [C.ptr 1 0]), (6, V.v false [C.d (D.sc (Sc.int IntKind.i64 v.t_6_0))])], heapOf 28 [(0, some
  (Blk.box 71
    [C.d (D.sl h_0_0n h_0_0f ET.step h_0_0), C.d (D.sc (Sc.int IntKind.i64 h_0_1)), C.d (D.sc (Sc.int IntKind.i64 h_0_2)), C.d (D.sc (Sc.int IntKind.i64 h_0_3)),
      C.d (D.sc (Sc.int IntKind.i64 h_0_4)), C.d (D.sl h_0_5n h_0_5f ET.run h_0_5), C.d (D.sc (Sc.int IntKind.i64 h_0_6))])), (1, some
  (Blk.box 71
    [C.d (D.sl h_1_0n h_1_0f ET.step h_1_0), C.d (D.sc (Sc.int IntKind.i64 h_1_1)), C.d (D.sc (Sc.int IntKind.i64 h_1_2)), C.d (D.sc (Sc.int IntKind.i64 h_1_3)),
      C.d (D.sc (Sc.int IntKind.i64 h_1_4)), C.d (D.sl h_1_5n h_1_5f ET.run h_1_5), C.d (D.sc (Sc.int IntKind.i64 h_1_6))]))], 0⟩ := by kernel_rfl
theorem lo1_ref13_Same_5 (e2 : V) (e3 : V) (e6 : V) (h0 : Option Blk) (h1 : Option Blk) e st2 (h : (T1_ref13_Same_5 e2 e3 e6 h0 h1).eval = some (e, st2)) : Circles Try.prog cx_ref13_Same b_ref13_Same_5 ⟨envOf 48 [(2, e2), (3, e3), (6, e6)], heapOf 28 [(0, h0), (1, h1)], 0⟩ e st2 := by
  unfold T1_ref13_Same_5 at h
  split at h
  · have := loop_tree (mk := mk_ref13_Same_5 _ _ _ _ _ _ _ _ _ _ _ _ _ _ _ _ _ _ _ _ _ _) (ci_ref13_Same_5 _ _ _ _ _ _ _ _ _ _ _ _ _ _ _ _ _ _ _ _ _ _) _ _ e st2 h
    rw [mke_ref13_Same_5] at this
    exact this
  · cases h
theorem lok_ref13_Same_5 : LoopOk Try.prog cx_ref13_Same b_ref13_Same_5 T_ref13_Same_5 := by
  intro st e st2 h
  unfold T_ref13_Same_5 at h
  cases hk : okSt 48 28 0 [0, 1] st with
  | false => rw [hk] at h; cases h
  | true =>
    rw [hk] at h
    exact circles_keep (ks := [2, 3, 6]) hk (lo1_ref13_Same_5 _ _ _ _ _ e st2 h)
structure S.ref13_Same_T where
  x0 : Bool
  deriving Inhabited
noncomputable def S.ref13_Same_R (a0_0 : List (Ty .step)) (a0_1 : Int) (a0_2 : Int) (a0_3 : Int) (a0_4 : Int) (a0_5 : List (Ty .run)) (a0_6 : Int) (a1_0 : List (Ty .step)) (a1_1 : Int) (a1_2 : Int) (a1_3 : Int) (a1_4 : Int) (a1_5 : List (Ty .run)) (a1_6 : Int) : DT S.ref13_Same_T :=
let y0 : S.ref13_Same_5_V := { t_6_0 := 0 : S.ref13_Same_5_V }
(.br (S.ref09_Same_is a0_0 a0_1 a0_2 a0_3 a0_4 a1_0 a1_1 a1_2 a1_3 a1_4)
(.br (xnot (S.ref09_Same_o a0_0 a0_1 a0_2 a0_3 a0_4 a1_0 a1_1 a1_2 a1_3 a1_4).x0)
(.leaf ⟨false⟩)
(.br (xneI a0_6 a1_6)
(.leaf ⟨false⟩)
(.br (xneI (↑a0_5.length : Int) (↑a1_5.length : Int))
(.leaf ⟨false⟩)
(.br (S.ref13_Same_5_j a0_5 a1_5 y0 0)
(.leaf ⟨false⟩)
(.br (S.ref13_Same_5_j a0_5 a1_5 y0 1)
(.leaf ⟨true⟩)
.fail)))))
.fail)
noncomputable def S.ref13_Same (a0_0 : List (Ty .step)) (a0_1 : Int) (a0_2 : Int) (a0_3 : Int) (a0_4 : Int) (a0_5 : List (Ty .run)) (a0_6 : Int) (a1_0 : List (Ty .step)) (a1_1 : Int) (a1_2 : Int) (a1_3 : Int) (a1_4 : Int) (a1_5 : List (Ty .run)) (a1_6 : Int) : Option S.ref13_Same_T := (S.ref13_Same_R a0_0 a0_1 a0_2 a0_3 a0_4 a0_5 a0_6 a1_0 a1_1 a1_2 a1_3 a1_4 a1_5 a1_6).run
noncomputable def S.ref13_Same_is (a0_0 : List (Ty .step)) (a0_1 : Int) (a0_2 : Int) (a0_3 : Int) (a0_4 : Int) (a0_5 : List (Ty .run)) (a0_6 : Int) (a1_0 : List (Ty .step)) (a1_1 : Int) (a1_2 : Int) (a1_3 : Int) (a1_4 : Int) (a1_5 : List (Ty .run)) (a1_6 : Int) : Bool := (S.ref13_Same a0_0 a0_1 a0_2 a0_3 a0_4 a0_5 a0_6 a1_0 a1_1 a1_2 a1_3 a1_4 a1_5 a1_6).isSome
noncomputable def S.ref13_Same_o (a0_0 : List (Ty .step)) (a0_1 : Int) (a0_2 : Int) (a0_3 : Int) (a0_4 : Int) (a0_5 : List (Ty .run)) (a0_6 : Int) (a1_0 : List (Ty .step)) (a1_1 : Int) (a1_2 : Int) (a1_3 : Int) (a1_4 : Int) (a1_5 : List (Ty .run)) (a1_6 : Int) : S.ref13_Same_T := (S.ref13_Same a0_0 a0_1 a0_2 a0_3 a0_4 a0_5 a0_6 a1_0 a1_1 a1_2 a1_3 a1_4 a1_5 a1_6).getD default
noncomputable def ret_ref13_Same (b : Bool) (r : S.ref13_Same_T) : Ret := ⟨b, none, [(false, [C.d (D.sc (Sc.bool r.x0))])]⟩
noncomputable def g_ref13_Same : Con
  | [(true, [.sl a0_0n a0_0f .step a0_0, .sc (.int .i64 a0_1), .sc (.int .i64 a0_2), .sc (.int .i64 a0_3), .sc (.int .i64 a0_4), .sl a0_5n a0_5f .run a0_5, .sc (.int .i64 a0_6)]), (true, [.sl a1_0n a1_0f .step a1_0, .sc (.int .i64 a1_1), .sc (.int .i64 a1_2), .sc (.int .i64 a1_3), .sc (.int .i64 a1_4), .sl a1_5n a1_5f .run a1_5, .sc (.int .i64 a1_6)])] => some (ret_ref13_Same (S.ref13_Same_is a0_0 a0_1 a0_2 a0_3 a0_4 a0_5 a0_6 a1_0 a1_1 a1_2 a1_3 a1_4 a1_5 a1_6) (S.ref13_Same_o a0_0 a0_1 a0_2 a0_3 a0_4 a0_5 a0_6 a1_0 a1_1 a1_2 a1_3 a1_4 a1_5 a1_6))
  | _ => none
theorem raw_ref13_Same (a0_0n : Option Bool) (a0_0f : Bool) (a0_0 : List (Ty .step)) (a0_1 : Int) (a0_2 : Int) (a0_3 : Int) (a0_4 : Int) (a0_5n : Option Bool) (a0_5f : Bool) (a0_5 : List (Ty .run)) (a0_6 : Int) (a1_0n : Option Bool) (a1_0f : Bool) (a1_0 : List (Ty .step)) (a1_1 : Int) (a1_2 : Int) (a1_3 : Int) (a1_4 : Int) (a1_5n : Option Bool) (a1_5f : Bool) (a1_5 : List (Ty .run)) (a1_6 : Int) : evR2 cx_ref13_Same (hdI cx_ref13_Same (find [(5, T_ref13_Same_5)]) [] none 0) none Try.f59 59 none [(true, [.sl a0_0n a0_0f .step a0_0, .sc (.int .i64 a0_1), .sc (.int .i64 a0_2), .sc (.int .i64 a0_3), .sc (.int .i64 a0_4), .sl a0_5n a0_5f .run a0_5, .sc (.int .i64 a0_6)]), (true, [.sl a1_0n a1_0f .step a1_0, .sc (.int .i64 a1_1), .sc (.int .i64 a1_2), .sc (.int .i64 a1_3), .sc (.int .i64 a1_4), .sl a1_5n a1_5f .run a1_5, .sc (.int .i64 a1_6)])] some = (S.ref13_Same_R a0_0 a0_1 a0_2 a0_3 a0_4 a0_5 a0_6 a1_0 a1_1 a1_2 a1_3 a1_4 a1_5 a1_6).go (ret_ref13_Same true) := by kernel_rfl
theorem bs_ref13_Same : loopsIn Try.f59 [] = [b_ref13_Same_5] := by kernel_rfl
theorem ref13_Same_ok : Stands Try.prog tyTab 59 g_ref13_Same := by
  refine stands3 (L := find [(5, T_ref13_Same_5)]) (n := 0) (hints := [(59, 5, { keep := [2, 3, 6], acc := [] })]) (cx_ok rfl) rdy_ref13_Same ⟨by kernel_rfl, by kernel_rfl, by kernel_rfl⟩ bs_ref13_Same (consB (fun T h => by have e : T_ref13_Same_5 = T := Option.some.inj (show some T_ref13_Same_5 = some T from h); exact e ▸ lok_ref13_Same_5) nilB) (fun das r hG hr => ?_)
  unfold g_ref13_Same at hG
  split at hG
  · rename_i a0_0n a0_0f a0_0 a0_1 a0_2 a0_3 a0_4 a0_5n a0_5f a0_5 a0_6 a1_0n a1_0f a1_0 a1_1 a1_2 a1_3 a1_4 a1_5n a1_5f a1_5 a1_6
    injection hG with hG; subst hG
    exact ⟨none, true, win default ((raw_ref13_Same a0_0n a0_0f a0_0 a0_1 a0_2 a0_3 a0_4 a0_5n a0_5f a0_5 a0_6 a1_0n a1_0f a1_0 a1_1 a1_2 a1_3 a1_4 a1_5n a1_5f a1_5 a1_6).trans (DT.go_run _ _)) hr⟩
  · cases hG
noncomputable abbrev cx_law13_Few : Cx := mkCx2 tyTab [(50, g_law09_Few)] [] [] []
theorem rdy_law13_Few : Ready Try.prog tyTab [(50, g_law09_Few)] [] [] := ⟨consG2 law09_Few_ok (noneG2), noneI2, noneF2⟩
structure S.law13_Few_T where
  x0 : Bool
  deriving Inhabited
noncomputable def S.law13_Few_R (a0_0 : List (Ty .step)) (a0_5 : List (Ty .run)) : DT S.law13_Few_T :=
(.br (S.law09_Few_is a0_0)
(.br ((S.law09_Few_o a0_0).x0)
(.leaf ⟨xdec ((↑a0_5.length : Int) ≤ 10)⟩)
(.leaf ⟨false⟩))
.fail)
noncomputable def S.law13_Few (a0_0 : List (Ty .step)) (a0_5 : List (Ty .run)) : Option S.law13_Few_T := (S.law13_Few_R a0_0 a0_5).run
noncomputable def S.law13_Few_is (a0_0 : List (Ty .step)) (a0_5 : List (Ty .run)) : Bool := (S.law13_Few a0_0 a0_5).isSome
noncomputable def S.law13_Few_o (a0_0 : List (Ty .step)) (a0_5 : List (Ty .run)) : S.law13_Few_T := (S.law13_Few a0_0 a0_5).getD default
noncomputable def ret_law13_Few (b : Bool) (r : S.law13_Few_T) : Ret := ⟨b, none, [(false, [C.d (D.sc (Sc.bool r.x0))])]⟩
noncomputable def g_law13_Few : Con
  | [(true, [.sl a0_0n a0_0f .step a0_0, .sc (.int .i64 a0_1), .sc (.int .i64 a0_2), .sc (.int .i64 a0_3), .sc (.int .i64 a0_4), .sl a0_5n a0_5f .run a0_5, .sc (.int .i64 a0_6)])] => some (ret_law13_Few (S.law13_Few_is a0_0 a0_5) (S.law13_Few_o a0_0 a0_5))
  | _ => none
theorem raw_law13_Few (a0_0n : Option Bool) (a0_0f : Bool) (a0_0 : List (Ty .step)) (a0_1 : Int) (a0_2 : Int) (a0_3 : Int) (a0_4 : Int) (a0_5n : Option Bool) (a0_5f : Bool) (a0_5 : List (Ty .run)) (a0_6 : Int) : evR2 cx_law13_Few (hdI cx_law13_Few (find []) [] none 0) none Try.f56 56 none [(true, [.sl a0_0n a0_0f .step a0_0, .sc (.int .i64 a0_1), .sc (.int .i64 a0_2), .sc (.int .i64 a0_3), .sc (.int .i64 a0_4), .sl a0_5n a0_5f .run a0_5, .sc (.int .i64 a0_6)])] some = (S.law13_Few_R a0_0 a0_5).go (ret_law13_Few true) := by kernel_rfl
theorem bs_law13_Few : loopsIn Try.f56 [] = [] := by kernel_rfl
theorem law13_Few_ok : Stands Try.prog tyTab 56 g_law13_Few := by
  refine stands3 (L := find []) (n := 0) (hints := []) (cx_ok rfl) rdy_law13_Few ⟨by kernel_rfl, by kernel_rfl, by kernel_rfl⟩ bs_law13_Few nilB (fun das r hG hr => ?_)
  unfold g_law13_Few at hG
  split at hG
  · rename_i a0_0n a0_0f a0_0 a0_1 a0_2 a0_3 a0_4 a0_5n a0_5f a0_5 a0_6
    injection hG with hG; subst hG
    exact ⟨none, true, win default ((raw_law13_Few a0_0n a0_0f a0_0 a0_1 a0_2 a0_3 a0_4 a0_5n a0_5f a0_5 a0_6).trans (DT.go_run _ _)) hr⟩
  · cases hG
noncomputable abbrev cx_law12_Log : Cx := mkCx2 tyTab [(36, g_law06_Few)] [] [(60, 4, { keep := [0, 5], acc := [] })] []
theorem rdy_law12_Log : Ready Try.prog tyTab [(36, g_law06_Few)] [] [] := ⟨consG2 law06_Few_ok (noneG2), noneI2, noneF2⟩
structure S.law12_Log_4_V where
  t_5_0 : Int
noncomputable def S.law12_Log_4_R (t_0_0 : List (Ty ET.evt)) (v : S.law12_Log_4_V) : DT (Option Nat × S.law12_Log_4_V) :=
let y0 : Bool := xdec (v.t_5_0 < (↑t_0_0.length : Int))
let y1 : Ty ET.evt := t_0_0.getD v.t_5_0.toNat (dflt ET.evt)
let y2 : ByteArray := y1.name
let y3 : List Val := y1.v
(.br (y0)
(.br (xdec (0 ≤ v.t_5_0) && y0)
(.br (S.law06_Few_is y2 y3)
(.br (xnot (S.law06_Few_o y2 y3).x0)
(.leaf (some 0, v))
(.leaf (none, ⟨xwrap IntKind.i64 (v.t_5_0 + 1)⟩)))
.fail)
.fail)
(.leaf (some 1, v)))
noncomputable def S.law12_Log_4_r (t_0_0 : List (Ty ET.evt)) (v : S.law12_Log_4_V) : Option (Option Nat × S.law12_Log_4_V) := (S.law12_Log_4_R t_0_0 v).run
noncomputable def S.law12_Log_4_j (t_0_0 : List (Ty ET.evt)) (v : S.law12_Log_4_V) (j : Nat) : Bool := Lp_j (S.law12_Log_4_r t_0_0) v j
noncomputable def S.law12_Log_4_v (t_0_0 : List (Ty ET.evt)) (v : S.law12_Log_4_V) : S.law12_Log_4_V := Lp_v (S.law12_Log_4_r t_0_0) v
noncomputable def mk_law12_Log_4 (t_0_0n : Option Bool) (t_0_0f : Bool) (t_0_0 : List (Ty ET.evt)) (v : S.law12_Log_4_V) : St := ⟨[V.v false [C.d (D.sl t_0_0n t_0_0f ET.evt t_0_0)], V.any, V.any, V.any, V.any, V.v false [C.d (D.sc (Sc.int IntKind.i64 v.t_5_0))], V.any, V.any, V.any, V.any, V.any, V.any,
  V.any, V.any, V.any, V.any, V.any, V.any, V.any, V.any, V.any, V.any, V.any, V.any], [none, none, none, none, none, none], 0⟩
noncomputable def ex_law12_Log_4 (t_0_0n : Option Bool) (t_0_0f : Bool) (t_0_0 : List (Ty ET.evt)) (j : Nat) (v : S.law12_Log_4_V) : Ex × St := match j with
  | 0 => (Ex.ret, ⟨[V.any, V.any, V.any, V.any, V.v false [C.d (D.sc (Sc.bool false))], V.any, V.any, V.any, V.any, V.any, V.any, V.any, V.any, V.any, V.any, V.any, V.any, V.any, V.any, V.any, V.any,
  V.any, V.any, V.any], [none, none, none, none, none, none, none, none, none, none, none, none, none, none, none, none, none, none, none], 0⟩)
  | 1 => (Ex.exit 0, ⟨[V.any, V.any, V.any, V.any, V.any, V.any, V.any, V.any, V.any, V.any, V.any, V.any, V.any, V.any, V.any, V.any, V.any, V.any, V.any, V.any, V.any, V.any, V.any, V.any], [none, none, none, none, none, none, none, none, none, none], 0⟩)
  | _ => (.ret, ⟨[], [], 0⟩)
noncomputable def T1_law12_Log_4 : V → V → Tree
  | V.v false [C.d (D.sl t_0_0n t_0_0f ET.evt t_0_0)], V.v false [C.d (D.sc (Sc.int IntKind.i64 t_5_0))] => exT (fun j => ex_law12_Log_4 t_0_0n t_0_0f t_0_0 j (S.law12_Log_4_v t_0_0 ⟨t_5_0⟩)) (S.law12_Log_4_j t_0_0 ⟨t_5_0⟩) [0, 1]
  | _, _ => .bad
noncomputable def T_law12_Log_4 (st : St) : Tree := bif okSt 24 6 0 [] st then T1_law12_Log_4 (st.env.getD 0 .any) (st.env.getD 5 .any) else .bad
noncomputable def b_law12_Log_4 : Code := loopBy Try.f60 4
theorem rnd_law12_Log_4 (t_0_0n : Option Bool) (t_0_0f : Bool) (t_0_0 : List (Ty ET.evt)) (v : S.law12_Log_4_V) : round2 cx_law12_Log (hdI cx_law12_Log (find []) [] none 0) 60 b_law12_Log_4 [] 6 [4] (mk_law12_Log_4 t_0_0n t_0_0f t_0_0 v) = (S.law12_Log_4_R t_0_0 v).go (roundOut (mk_law12_Log_4 t_0_0n t_0_0f t_0_0) (ex_law12_Log_4 t_0_0n t_0_0f t_0_0)) := by kernel_rfl
theorem bs_law12_Log_4 : loopsOf b_law12_Log_4 ++ loopsInl [] = [] := by kernel_rfl
theorem ci_law12_Log_4 (t_0_0n : Option Bool) (t_0_0f : Bool) (t_0_0 : List (Ty ET.evt)) : ∀ v j v2, Lp (S.law12_Log_4_r t_0_0) v = some (j, v2) → Circles Try.prog cx_law12_Log b_law12_Log_4 (mk_law12_Log_4 t_0_0n t_0_0f t_0_0 v) (ex_law12_Log_4 t_0_0n t_0_0f t_0_0 j v2).1 (ex_law12_Log_4 t_0_0n t_0_0f t_0_0 j v2).2 :=
  loop_ok2 (L := find []) (n := 0) (hints := [(60, 4, { keep := [0, 5], acc := [] })]) (cx_ok rfl) rdy_law12_Log bs_law12_Log_4 nilB (fun v => (rnd_law12_Log_4 t_0_0n t_0_0f t_0_0 v).trans (DT.go_run _ _)) (by intro j v; unfold ex_law12_Log_4; split <;> rfl)
theorem mke_law12_Log_4 (t_0_0n : Option Bool) (t_0_0f : Bool) (t_0_0 : List (Ty ET.evt)) (v : S.law12_Log_4_V) : mk_law12_Log_4 t_0_0n t_0_0f t_0_0 v = ⟨envOf 24 [(0, V.v false [C.d (D.sl t_0_0n t_0_0f ET.evt t_0_0)]), (5, V.v false [C.d (D.sc (Sc.int IntKind.i64 v.t_5_0))])], heapOf 6 [], 0⟩ := by kernel_rfl
theorem lo1_law12_Log_4 (e0 : V) (e5 : V)  e st2 (h : (T1_law12_Log_4 e0 e5).eval = some (e, st2)) : Circles Try.prog cx_law12_Log b_law12_Log_4 ⟨envOf 24 [(0, e0), (5, e5)], heapOf 6 [], 0⟩ e st2 := by
  unfold T1_law12_Log_4 at h
  split at h
  · have := loop_tree (mk := mk_law12_Log_4 _ _ _) (ci_law12_Log_4 _ _ _) _ _ e st2 h
    rw [mke_law12_Log_4] at this
    exact this
  · cases h
theorem lok_law12_Log_4 : LoopOk Try.prog cx_law12_Log b_law12_Log_4 T_law12_Log_4 := by
  intro st e st2 h
  unfold T_law12_Log_4 at h
  cases hk : okSt 24 6 0 [] st with
  | false => rw [hk] at h; cases h
  | true =>
    rw [hk] at h
    exact circles_keep (ks := [0, 5]) hk (lo1_law12_Log_4 _ _ e st2 h)
structure S.law12_Log_T where
  x0 : Bool
  deriving Inhabited
noncomputable def S.law12_Log_R (a0 : List (Ty .evt)) (a1 : Int) : DT S.law12_Log_T :=
let y0 : S.law12_Log_4_V := { t_5_0 := 0 : S.law12_Log_4_V }
(.br (xdec ((↑a0.length : Int) > a1))
(.leaf ⟨false⟩)
(.br (S.law12_Log_4_j a0 y0 0)
(.leaf ⟨false⟩)
(.br (S.law12_Log_4_j a0 y0 1)
(.leaf ⟨true⟩)
.fail)))
noncomputable def S.law12_Log (a0 : List (Ty .evt)) (a1 : Int) : Option S.law12_Log_T := (S.law12_Log_R a0 a1).run
noncomputable def S.law12_Log_is (a0 : List (Ty .evt)) (a1 : Int) : Bool := (S.law12_Log a0 a1).isSome
noncomputable def S.law12_Log_o (a0 : List (Ty .evt)) (a1 : Int) : S.law12_Log_T := (S.law12_Log a0 a1).getD default
noncomputable def ret_law12_Log (b : Bool) (r : S.law12_Log_T) : Ret := ⟨b, none, [(false, [C.d (D.sc (Sc.bool r.x0))])]⟩
noncomputable def g_law12_Log : Con
  | [(false, [.sl a0n a0f .evt a0]), (false, [.sc (.int .i64 a1)])] => some (ret_law12_Log (S.law12_Log_is a0 a1) (S.law12_Log_o a0 a1))
  | _ => none
theorem raw_law12_Log (a0n : Option Bool) (a0f : Bool) (a0 : List (Ty .evt)) (a1 : Int) : evR2 cx_law12_Log (hdI cx_law12_Log (find [(4, T_law12_Log_4)]) [] none 0) none Try.f60 60 none [(false, [.sl a0n a0f .evt a0]), (false, [.sc (.int .i64 a1)])] some = (S.law12_Log_R a0 a1).go (ret_law12_Log true) := by kernel_rfl
theorem bs_law12_Log : loopsIn Try.f60 [] = [b_law12_Log_4] := by kernel_rfl
theorem law12_Log_ok : Stands Try.prog tyTab 60 g_law12_Log := by
  refine stands3 (L := find [(4, T_law12_Log_4)]) (n := 0) (hints := [(60, 4, { keep := [0, 5], acc := [] })]) (cx_ok rfl) rdy_law12_Log ⟨by kernel_rfl, by kernel_rfl, by kernel_rfl⟩ bs_law12_Log (consB (fun T h => by have e : T_law12_Log_4 = T := Option.some.inj (show some T_law12_Log_4 = some T from h); exact e ▸ lok_law12_Log_4) nilB) (fun das r hG hr => ?_)
  unfold g_law12_Log at hG
  split at hG
  · rename_i a0n a0f a0 a1
    injection hG with hG; subst hG
    exact ⟨none, true, win default ((raw_law12_Log a0n a0f a0 a1).trans (DT.go_run _ _)) hr⟩
  · cases hG
end Go.Eng
