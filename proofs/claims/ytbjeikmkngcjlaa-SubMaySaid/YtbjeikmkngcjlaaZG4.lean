/- Contracts, laid by program. -/
import Derived.Test.YtbjeikmkngcjlaaZG3
set_option linter.unusedVariables false
set_option linter.unusedSimpArgs false
namespace Go.Eng
noncomputable section
open Go Go.Eng Go.Proofs Go.Eng.Tab
abbrev cx_expr_Holds : Cx := mkCx2 tyTab [(89, g_expr_Eval), (90, g_expr_truth_value)] [] [] []
theorem rdy_expr_Holds : Ready Try.prog tyTab [(89, g_expr_Eval), (90, g_expr_truth_value)] [] [] := ⟨consG2 expr_Eval_ok (consG2 expr_truth_value_ok (noneG2)), noneI2, noneF2⟩
structure S.expr_Holds_T where
  x0 : Bool
  deriving Inhabited
def S.expr_Holds_R (a0_0 : ByteArray) (a0_1 : Int) (a0_2 : List (Ty .val)) (a1 : List (Ty .op)) : DT S.expr_Holds_T :=
let y0 : S.expr_Eval_T := S.expr_Eval_o a0_0 a0_1 a0_2 a1
(.br (S.expr_Eval_is a0_0 a0_1 a0_2 a1)
(.br (xeqI (↑a1.length : Int) 0)
(.leaf ⟨true⟩)
(.br (xeqI y0.x3 0)
(.leaf ⟨xeqI y0.x0 (S.expr_truth_value_o true).x0 && (xeqI y0.x1 (S.expr_truth_value_o true).x1 && xdec (y0.x2 = (S.expr_truth_value_o true).x2))⟩)
(.leaf ⟨false⟩)))
.fail)
def S.expr_Holds (a0_0 : ByteArray) (a0_1 : Int) (a0_2 : List (Ty .val)) (a1 : List (Ty .op)) : Option S.expr_Holds_T := (S.expr_Holds_R a0_0 a0_1 a0_2 a1).run
def S.expr_Holds_is (a0_0 : ByteArray) (a0_1 : Int) (a0_2 : List (Ty .val)) (a1 : List (Ty .op)) : Bool := (S.expr_Holds a0_0 a0_1 a0_2 a1).isSome
def S.expr_Holds_o (a0_0 : ByteArray) (a0_1 : Int) (a0_2 : List (Ty .val)) (a1 : List (Ty .op)) : S.expr_Holds_T := (S.expr_Holds a0_0 a0_1 a0_2 a1).getD default
def ret_expr_Holds (b : Bool) (r : S.expr_Holds_T) : Ret := ⟨b, none, [(false, [C.d (.sc (.bool r.x0))])]⟩
def g_expr_Holds : Con
  | [(true, [.sc (.str a0_0), .sc (.int .i64 a0_1), .sl a0_2n a0_2f .val a0_2]), (false, [.sl a1n a1f .op a1])] => some (ret_expr_Holds (S.expr_Holds_is a0_0 a0_1 a0_2 a1) (S.expr_Holds_o a0_0 a0_1 a0_2 a1))
  | _ => none
theorem raw_expr_Holds (a0_0 : ByteArray) (a0_1 : Int) (a0_2n : Option Bool) (a0_2f : Bool) (a0_2 : List (Ty .val)) (a1n : Option Bool) (a1f : Bool) (a1 : List (Ty .op)) : evR2 cx_expr_Holds (hdI cx_expr_Holds (find []) [] none 0) none Try.f48 48 none [(true, [.sc (.str a0_0), .sc (.int .i64 a0_1), .sl a0_2n a0_2f .val a0_2]), (false, [.sl a1n a1f .op a1])] some = (S.expr_Holds_R a0_0 a0_1 a0_2 a1).go (ret_expr_Holds true) := by kernel_rfl
theorem bs_expr_Holds : loopsIn Try.f48 [] = [] := by kernel_rfl
theorem expr_Holds_ok : Stands Try.prog tyTab 48 g_expr_Holds := by
  refine stands3 (L := find []) (n := 0) (hints := []) (cx_ok rfl) rdy_expr_Holds ⟨by kernel_rfl, by kernel_rfl, by kernel_rfl⟩ bs_expr_Holds nilB (fun das r hG hr => ?_)
  unfold g_expr_Holds at hG
  split at hG
  · rename_i a0_0 a0_1 a0_2n a0_2f a0_2 a1n a1f a1
    injection hG with hG; subst hG
    exact ⟨none, true, win default ((raw_expr_Holds a0_0 a0_1 a0_2n a0_2f a0_2 a1n a1f a1).trans (DT.go_run _ _)) hr⟩
  · cases hG
abbrev cx_index_Holds : Cx := mkCx2 tyTab [(48, g_expr_Holds)] [] [] []
theorem rdy_index_Holds : Ready Try.prog tyTab [(48, g_expr_Holds)] [] [] := ⟨consG2 expr_Holds_ok (noneG2), noneI2, noneF2⟩
structure S.index_Holds_T where
  x0 : Bool
  deriving Inhabited
def S.index_Holds_R (a0_0 : ByteArray) (a0_1 : List (Ty .op)) (a1_0 : ByteArray) (a1_1 : Int) (a1_2 : List (Ty .val)) : DT S.index_Holds_T :=
(.br (xdec (a0_0 = a1_0))
(.br (S.expr_Holds_is a1_0 a1_1 a1_2 a0_1)
(.leaf ⟨(S.expr_Holds_o a1_0 a1_1 a1_2 a0_1).x0⟩)
.fail)
(.leaf ⟨false⟩))
def S.index_Holds (a0_0 : ByteArray) (a0_1 : List (Ty .op)) (a1_0 : ByteArray) (a1_1 : Int) (a1_2 : List (Ty .val)) : Option S.index_Holds_T := (S.index_Holds_R a0_0 a0_1 a1_0 a1_1 a1_2).run
def S.index_Holds_is (a0_0 : ByteArray) (a0_1 : List (Ty .op)) (a1_0 : ByteArray) (a1_1 : Int) (a1_2 : List (Ty .val)) : Bool := (S.index_Holds a0_0 a0_1 a1_0 a1_1 a1_2).isSome
def S.index_Holds_o (a0_0 : ByteArray) (a0_1 : List (Ty .op)) (a1_0 : ByteArray) (a1_1 : Int) (a1_2 : List (Ty .val)) : S.index_Holds_T := (S.index_Holds a0_0 a0_1 a1_0 a1_1 a1_2).getD default
def ret_index_Holds (b : Bool) (r : S.index_Holds_T) : Ret := ⟨b, none, [(false, [C.d (.sc (.bool r.x0))])]⟩
def g_index_Holds : Con
  | [(true, [.sc (.str a0_0), .sl a0_1n a0_1f .op a0_1]), (true, [.sc (.str a1_0), .sc (.int .i64 a1_1), .sl a1_2n a1_2f .val a1_2])] => some (ret_index_Holds (S.index_Holds_is a0_0 a0_1 a1_0 a1_1 a1_2) (S.index_Holds_o a0_0 a0_1 a1_0 a1_1 a1_2))
  | _ => none
theorem raw_index_Holds (a0_0 : ByteArray) (a0_1n : Option Bool) (a0_1f : Bool) (a0_1 : List (Ty .op)) (a1_0 : ByteArray) (a1_1 : Int) (a1_2n : Option Bool) (a1_2f : Bool) (a1_2 : List (Ty .val)) : evR2 cx_index_Holds (hdI cx_index_Holds (find []) [] none 0) none Try.f47 47 none [(true, [.sc (.str a0_0), .sl a0_1n a0_1f .op a0_1]), (true, [.sc (.str a1_0), .sc (.int .i64 a1_1), .sl a1_2n a1_2f .val a1_2])] some = (S.index_Holds_R a0_0 a0_1 a1_0 a1_1 a1_2).go (ret_index_Holds true) := by kernel_rfl
theorem bs_index_Holds : loopsIn Try.f47 [] = [] := by kernel_rfl
theorem index_Holds_ok : Stands Try.prog tyTab 47 g_index_Holds := by
  refine stands3 (L := find []) (n := 0) (hints := []) (cx_ok rfl) rdy_index_Holds ⟨by kernel_rfl, by kernel_rfl, by kernel_rfl⟩ bs_index_Holds nilB (fun das r hG hr => ?_)
  unfold g_index_Holds at hG
  split at hG
  · rename_i a0_0 a0_1n a0_1f a0_1 a1_0 a1_1 a1_2n a1_2f a1_2
    injection hG with hG; subst hG
    exact ⟨none, true, win default ((raw_index_Holds a0_0 a0_1n a0_1f a0_1 a1_0 a1_1 a1_2n a1_2f a1_2).trans (DT.go_run _ _)) hr⟩
  · cases hG
abbrev cx_law06_Few : Cx := mkCx2 tyTab [] [] [(36, 4, { keep := [1, 3], acc := [] })] []
theorem rdy_law06_Few : Ready Try.prog tyTab [] [] [] := ⟨noneG2, noneI2, noneF2⟩
structure S.law06_Few_4_V where
  t_3_0 : Int
def S.law06_Few_4_R (qA : List (Ty .val)) (v : S.law06_Few_4_V) : DT (Option Nat × S.law06_Few_4_V) :=
let y0 : Bool := xdec (v.t_3_0 < (↑qA.length : Int))
(.br (y0)
(.br (xdec (0 ≤ v.t_3_0) && y0)
(.br (xdec ((↑(qA.getD v.t_3_0.toNat (dflt ET.val)).s.size : Int) > 100))
(.leaf (some 0, v))
(.leaf (none, ⟨xwrap IntKind.i64 (v.t_3_0 + 1)⟩)))
.fail)
(.leaf (some 1, v)))
def S.law06_Few_4_r (qA : List (Ty .val)) (v : S.law06_Few_4_V) : Option (Option Nat × S.law06_Few_4_V) := (S.law06_Few_4_R qA v).run
def S.law06_Few_4_j (qA : List (Ty .val)) (v : S.law06_Few_4_V) (j : Nat) : Bool := Lp_j (S.law06_Few_4_r qA) v j
def S.law06_Few_4_v (qA : List (Ty .val)) (v : S.law06_Few_4_V) : S.law06_Few_4_V := Lp_v (S.law06_Few_4_r qA) v
def mk_law06_Few_4 (qB : ByteArray) (qC : Int) (qD : Option Bool) (qE : Bool) (qA : List (Ty .val)) (v : S.law06_Few_4_V) : St := ⟨[V.any, V.v false [C.ptr 0 0], V.any, V.v false [C.d (.sc (.int .i64 v.t_3_0))], V.any, V.any, V.any, V.any, V.any, V.any, V.any, V.any, V.any, V.any, V.any, V.any,
  V.any, V.any, V.any, V.any, V.any, V.any, V.any, V.any, V.any, V.any, V.any, V.any, V.any], [some (Blk.box 29 [C.d (.sc (.str qB)), C.d (.sc (.int .i64 qC)), C.d (.sl qD qE ET.val qA)]), none, none, none, none, none, none, none, none, none,
  none, none, none], 0⟩
def ex_law06_Few_4 (qB : ByteArray) (qC : Int) (qD : Option Bool) (qE : Bool) (qA : List (Ty .val)) (j : Nat) (v : S.law06_Few_4_V) : Ex × St := match j with
  | 0 => (Ex.ret, ⟨[V.any, V.any, V.v false [C.d (.sc (.bool false))], V.any, V.any, V.any, V.any, V.any, V.any, V.any, V.any, V.any, V.any, V.any, V.any, V.any, V.any, V.any, V.any, V.any, V.any,
  V.any, V.any, V.any, V.any, V.any, V.any, V.any, V.any], [some (Blk.box 29 [C.d (.sc (.str qB)), C.d (.sc (.int .i64 qC)), C.d (.sl qD qE ET.val qA)]), none, none, none, none, none, none, none, none, none,
  none, none, none, none, none, none, none, none, none, none, none, none, none, none, none, none, none], 0⟩)
  | 1 => (Ex.exit 0, ⟨[V.any, V.any, V.any, V.any, V.any, V.any, V.any, V.any, V.any, V.any, V.any, V.any, V.any, V.any, V.any, V.any, V.any, V.any, V.any, V.any, V.any, V.any, V.any, V.any, V.any,
  V.any, V.any, V.any, V.any], [some (Blk.box 29 [C.d (.sc (.str qB)), C.d (.sc (.int .i64 qC)), C.d (.sl qD qE ET.val qA)]), none, none, none, none, none, none, none, none, none,
  none, none, none, none, none, none, none, none], 0⟩)
  | _ => (.ret, ⟨[], [], 0⟩)
def T1_law06_Few_4 : V → V → Option Blk → Tree
  | V.v false [C.ptr 0 0], V.v false [C.d (.sc (.int .i64 t_3_0))], some (Blk.box 29 [C.d (.sc (.str qB)), C.d (.sc (.int .i64 qC)), C.d (.sl qD qE ET.val qA)]) => exT (fun j => ex_law06_Few_4 qB qC qD qE qA j (S.law06_Few_4_v qA ⟨t_3_0⟩)) (S.law06_Few_4_j qA ⟨t_3_0⟩) [0, 1]
  | _, _, _ => .bad
def T_law06_Few_4 (st : St) : Tree := bif okSt 29 13 0 [0] st then T1_law06_Few_4 (st.env.getD 1 .any) (st.env.getD 3 .any) (lk st.heap 0) else .bad
def b_law06_Few_4 : Code := loopBy Try.f36 4
theorem rnd_law06_Few_4 (qB : ByteArray) (qC : Int) (qD : Option Bool) (qE : Bool) (qA : List (Ty .val)) (v : S.law06_Few_4_V) : round2 cx_law06_Few (hdI cx_law06_Few (find []) [] none 0) 36 b_law06_Few_4 [] 13 [2] (mk_law06_Few_4 qB qC qD qE qA v) = (S.law06_Few_4_R qA v).go (roundOut (mk_law06_Few_4 qB qC qD qE qA) (ex_law06_Few_4 qB qC qD qE qA)) := by kernel_rfl
theorem bs_law06_Few_4 : loopsOf b_law06_Few_4 ++ loopsInl [] = [] := by kernel_rfl
theorem ci_law06_Few_4 (qB : ByteArray) (qC : Int) (qD : Option Bool) (qE : Bool) (qA : List (Ty .val)) : ∀ v j v2, Lp (S.law06_Few_4_r qA) v = some (j, v2) → Circles Try.prog cx_law06_Few b_law06_Few_4 (mk_law06_Few_4 qB qC qD qE qA v) (ex_law06_Few_4 qB qC qD qE qA j v2).1 (ex_law06_Few_4 qB qC qD qE qA j v2).2 :=
  loop_ok2 (L := find []) (n := 0) (hints := [(36, 4, { keep := [1, 3], acc := [] })]) (cx_ok rfl) rdy_law06_Few bs_law06_Few_4 nilB (fun v => (rnd_law06_Few_4 qB qC qD qE qA v).trans (DT.go_run _ _)) (by intro j v; unfold ex_law06_Few_4; split <;> rfl)
theorem mke_law06_Few_4 (qB : ByteArray) (qC : Int) (qD : Option Bool) (qE : Bool) (qA : List (Ty .val)) (v : S.law06_Few_4_V) : mk_law06_Few_4 qB qC qD qE qA v = ⟨envOf 29 [(1, V.v false [C.ptr 0 0]), (3, V.v false [C.d (.sc (.int .i64 v.t_3_0))])], heapOf 13 [(0, some (Blk.box 29 [C.d (.sc (.str qB)), C.d (.sc (.int .i64 qC)), C.d (.sl qD qE ET.val qA)]))], 0⟩ := by kernel_rfl
theorem lo1_law06_Few_4 (e1 : V) (e3 : V) (h0 : Option Blk) e st2 (h : (T1_law06_Few_4 e1 e3 h0).eval = some (e, st2)) : Circles Try.prog cx_law06_Few b_law06_Few_4 ⟨envOf 29 [(1, e1), (3, e3)], heapOf 13 [(0, h0)], 0⟩ e st2 := by
  unfold T1_law06_Few_4 at h
  split at h
  · have := loop_tree (mk := mk_law06_Few_4 _ _ _ _ _) (ci_law06_Few_4 _ _ _ _ _) _ _ e st2 h
    rw [mke_law06_Few_4] at this
    exact this
  · cases h
theorem lok_law06_Few_4 : LoopOk Try.prog cx_law06_Few b_law06_Few_4 T_law06_Few_4 := by
  intro st e st2 h
  unfold T_law06_Few_4 at h
  cases hk : okSt 29 13 0 [0] st with
  | false => rw [hk] at h; cases h
  | true =>
    rw [hk] at h
    exact circles_keep (ks := [1, 3]) hk (lo1_law06_Few_4 _ _ _ e st2 h)
structure S.law06_Few_T where
  x0 : Bool
  deriving Inhabited
def S.law06_Few_R (a0_0 : ByteArray) (a0_2 : List (Ty .val)) : DT S.law06_Few_T :=
let y0 : S.law06_Few_4_V := { t_3_0 := 0 : S.law06_Few_4_V }
(.br (xdec ((↑a0_0.size : Int) > 60))
(.leaf ⟨false⟩)
(.br (xdec ((↑a0_2.length : Int) > 10))
(.leaf ⟨false⟩)
(.br (S.law06_Few_4_j a0_2 y0 0)
(.leaf ⟨false⟩)
(.br (S.law06_Few_4_j a0_2 y0 1)
(.leaf ⟨true⟩)
.fail))))
def S.law06_Few (a0_0 : ByteArray) (a0_2 : List (Ty .val)) : Option S.law06_Few_T := (S.law06_Few_R a0_0 a0_2).run
def S.law06_Few_is (a0_0 : ByteArray) (a0_2 : List (Ty .val)) : Bool := (S.law06_Few a0_0 a0_2).isSome
def S.law06_Few_o (a0_0 : ByteArray) (a0_2 : List (Ty .val)) : S.law06_Few_T := (S.law06_Few a0_0 a0_2).getD default
def ret_law06_Few (b : Bool) (r : S.law06_Few_T) : Ret := ⟨b, none, [(false, [C.d (.sc (.bool r.x0))])]⟩
def g_law06_Few : Con
  | [(true, [.sc (.str a0_0), .sc (.int .i64 a0_1), .sl a0_2n a0_2f .val a0_2])] => some (ret_law06_Few (S.law06_Few_is a0_0 a0_2) (S.law06_Few_o a0_0 a0_2))
  | _ => none
theorem raw_law06_Few (a0_0 : ByteArray) (a0_1 : Int) (a0_2n : Option Bool) (a0_2f : Bool) (a0_2 : List (Ty .val)) : evR2 cx_law06_Few (hdI cx_law06_Few (find [(4, T_law06_Few_4)]) [] none 0) none Try.f36 36 none [(true, [.sc (.str a0_0), .sc (.int .i64 a0_1), .sl a0_2n a0_2f .val a0_2])] some = (S.law06_Few_R a0_0 a0_2).go (ret_law06_Few true) := by kernel_rfl
theorem bs_law06_Few : loopsIn Try.f36 [] = [b_law06_Few_4] := by kernel_rfl
theorem law06_Few_ok : Stands Try.prog tyTab 36 g_law06_Few := by
  refine stands3 (L := find [(4, T_law06_Few_4)]) (n := 0) (hints := [(36, 4, { keep := [1, 3], acc := [] })]) (cx_ok rfl) rdy_law06_Few ⟨by kernel_rfl, by kernel_rfl, by kernel_rfl⟩ bs_law06_Few (consB (fun T h => by have e : T_law06_Few_4 = T := Option.some.inj (show some T_law06_Few_4 = some T from h); exact e ▸ lok_law06_Few_4) nilB) (fun das r hG hr => ?_)
  unfold g_law06_Few at hG
  split at hG
  · rename_i a0_0 a0_1 a0_2n a0_2f a0_2
    injection hG with hG; subst hG
    exact ⟨none, true, win default ((raw_law06_Few a0_0 a0_1 a0_2n a0_2f a0_2).trans (DT.go_run _ _)) hr⟩
  · cases hG
abbrev cx_law08_Few : Cx := mkCx2 tyTab [] [] [(37, 4, { keep := [0, 3], acc := [] })] []
theorem rdy_law08_Few : Ready Try.prog tyTab [] [] [] := ⟨noneG2, noneI2, noneF2⟩
structure S.law08_Few_4_V where
  t_3_0 : Int
def S.law08_Few_4_R (qF : List (Ty .op)) (v : S.law08_Few_4_V) : DT (Option Nat × S.law08_Few_4_V) :=
let y0 : Bool := xdec (v.t_3_0 < (↑qF.length : Int))
(.br (y0)
(.br (xdec (0 ≤ v.t_3_0) && y0)
(.br (xdec ((↑(qF.getD v.t_3_0.toNat (dflt ET.op)).v.s.size : Int) > 100))
(.leaf (some 0, v))
(.leaf (none, ⟨xwrap IntKind.i64 (v.t_3_0 + 1)⟩)))
.fail)
(.leaf (some 1, v)))
def S.law08_Few_4_r (qF : List (Ty .op)) (v : S.law08_Few_4_V) : Option (Option Nat × S.law08_Few_4_V) := (S.law08_Few_4_R qF v).run
def S.law08_Few_4_j (qF : List (Ty .op)) (v : S.law08_Few_4_V) (j : Nat) : Bool := Lp_j (S.law08_Few_4_r qF) v j
def S.law08_Few_4_v (qF : List (Ty .op)) (v : S.law08_Few_4_V) : S.law08_Few_4_V := Lp_v (S.law08_Few_4_r qF) v
def mk_law08_Few_4 (qG : Option Bool) (qH : Bool) (qF : List (Ty .op)) (v : S.law08_Few_4_V) : St := ⟨[V.v false [C.d (.sl qG qH ET.op qF)], V.any, V.any, V.v false [C.d (.sc (.int .i64 v.t_3_0))], V.any, V.any, V.any, V.any, V.any, V.any, V.any, V.any, V.any,
  V.any, V.any, V.any, V.any, V.any, V.any, V.any, V.any], [none, none, none, none, none], 0⟩
def ex_law08_Few_4 (qG : Option Bool) (qH : Bool) (qF : List (Ty .op)) (j : Nat) (v : S.law08_Few_4_V) : Ex × St := match j with
  | 0 => (Ex.ret, ⟨[V.any, V.any, V.v false [C.d (.sc (.bool false))], V.any, V.any, V.any, V.any, V.any, V.any, V.any, V.any, V.any, V.any, V.any, V.any, V.any, V.any, V.any, V.any, V.any, V.any], [none, none, none, none, none, none, none, none, none, none, none, none, none, none, none, none, none, none], 0⟩)
  | 1 => (Ex.exit 0, ⟨[V.any, V.any, V.any, V.any, V.any, V.any, V.any, V.any, V.any, V.any, V.any, V.any, V.any, V.any, V.any, V.any, V.any, V.any, V.any, V.any, V.any], [none, none, none, none, none, none, none, none, none], 0⟩)
  | _ => (.ret, ⟨[], [], 0⟩)
def T1_law08_Few_4 : V → V → Tree
  | V.v false [C.d (.sl qG qH ET.op qF)], V.v false [C.d (.sc (.int .i64 t_3_0))] => exT (fun j => ex_law08_Few_4 qG qH qF j (S.law08_Few_4_v qF ⟨t_3_0⟩)) (S.law08_Few_4_j qF ⟨t_3_0⟩) [0, 1]
  | _, _ => .bad
def T_law08_Few_4 (st : St) : Tree := bif okSt 21 5 0 [] st then T1_law08_Few_4 (st.env.getD 0 .any) (st.env.getD 3 .any) else .bad
def b_law08_Few_4 : Code := loopBy Try.f37 4
theorem rnd_law08_Few_4 (qG : Option Bool) (qH : Bool) (qF : List (Ty .op)) (v : S.law08_Few_4_V) : round2 cx_law08_Few (hdI cx_law08_Few (find []) [] none 0) 37 b_law08_Few_4 [] 5 [2] (mk_law08_Few_4 qG qH qF v) = (S.law08_Few_4_R qF v).go (roundOut (mk_law08_Few_4 qG qH qF) (ex_law08_Few_4 qG qH qF)) := by kernel_rfl
theorem bs_law08_Few_4 : loopsOf b_law08_Few_4 ++ loopsInl [] = [] := by kernel_rfl
theorem ci_law08_Few_4 (qG : Option Bool) (qH : Bool) (qF : List (Ty .op)) : ∀ v j v2, Lp (S.law08_Few_4_r qF) v = some (j, v2) → Circles Try.prog cx_law08_Few b_law08_Few_4 (mk_law08_Few_4 qG qH qF v) (ex_law08_Few_4 qG qH qF j v2).1 (ex_law08_Few_4 qG qH qF j v2).2 :=
  loop_ok2 (L := find []) (n := 0) (hints := [(37, 4, { keep := [0, 3], acc := [] })]) (cx_ok rfl) rdy_law08_Few bs_law08_Few_4 nilB (fun v => (rnd_law08_Few_4 qG qH qF v).trans (DT.go_run _ _)) (by intro j v; unfold ex_law08_Few_4; split <;> rfl)
theorem mke_law08_Few_4 (qG : Option Bool) (qH : Bool) (qF : List (Ty .op)) (v : S.law08_Few_4_V) : mk_law08_Few_4 qG qH qF v = ⟨envOf 21 [(0, V.v false [C.d (.sl qG qH ET.op qF)]), (3, V.v false [C.d (.sc (.int .i64 v.t_3_0))])], heapOf 5 [], 0⟩ := by kernel_rfl
theorem lo1_law08_Few_4 (e0 : V) (e3 : V)  e st2 (h : (T1_law08_Few_4 e0 e3).eval = some (e, st2)) : Circles Try.prog cx_law08_Few b_law08_Few_4 ⟨envOf 21 [(0, e0), (3, e3)], heapOf 5 [], 0⟩ e st2 := by
  unfold T1_law08_Few_4 at h
  split at h
  · have := loop_tree (mk := mk_law08_Few_4 _ _ _) (ci_law08_Few_4 _ _ _) _ _ e st2 h
    rw [mke_law08_Few_4] at this
    exact this
  · cases h
theorem lok_law08_Few_4 : LoopOk Try.prog cx_law08_Few b_law08_Few_4 T_law08_Few_4 := by
  intro st e st2 h
  unfold T_law08_Few_4 at h
  cases hk : okSt 21 5 0 [] st with
  | false => rw [hk] at h; cases h
  | true =>
    rw [hk] at h
    exact circles_keep (ks := [0, 3]) hk (lo1_law08_Few_4 _ _ e st2 h)
structure S.law08_Few_T where
  x0 : Bool
  deriving Inhabited
def S.law08_Few_R (a0 : List (Ty .op)) : DT S.law08_Few_T :=
let y0 : S.law08_Few_4_V := { t_3_0 := 0 : S.law08_Few_4_V }
(.br (xdec ((↑a0.length : Int) > 20))
(.leaf ⟨false⟩)
(.br (S.law08_Few_4_j a0 y0 0)
(.leaf ⟨false⟩)
(.br (S.law08_Few_4_j a0 y0 1)
(.leaf ⟨true⟩)
.fail)))
def S.law08_Few (a0 : List (Ty .op)) : Option S.law08_Few_T := (S.law08_Few_R a0).run
def S.law08_Few_is (a0 : List (Ty .op)) : Bool := (S.law08_Few a0).isSome
def S.law08_Few_o (a0 : List (Ty .op)) : S.law08_Few_T := (S.law08_Few a0).getD default
def ret_law08_Few (b : Bool) (r : S.law08_Few_T) : Ret := ⟨b, none, [(false, [C.d (.sc (.bool r.x0))])]⟩
def g_law08_Few : Con
  | [(false, [.sl a0n a0f .op a0])] => some (ret_law08_Few (S.law08_Few_is a0) (S.law08_Few_o a0))
  | _ => none
theorem raw_law08_Few (a0n : Option Bool) (a0f : Bool) (a0 : List (Ty .op)) : evR2 cx_law08_Few (hdI cx_law08_Few (find [(4, T_law08_Few_4)]) [] none 0) none Try.f37 37 none [(false, [.sl a0n a0f .op a0])] some = (S.law08_Few_R a0).go (ret_law08_Few true) := by kernel_rfl
theorem bs_law08_Few : loopsIn Try.f37 [] = [b_law08_Few_4] := by kernel_rfl
theorem law08_Few_ok : Stands Try.prog tyTab 37 g_law08_Few := by
  refine stands3 (L := find [(4, T_law08_Few_4)]) (n := 0) (hints := [(37, 4, { keep := [0, 3], acc := [] })]) (cx_ok rfl) rdy_law08_Few ⟨by kernel_rfl, by kernel_rfl, by kernel_rfl⟩ bs_law08_Few (consB (fun T h => by have e : T_law08_Few_4 = T := Option.some.inj (show some T_law08_Few_4 = some T from h); exact e ▸ lok_law08_Few_4) nilB) (fun das r hG hr => ?_)
  unfold g_law08_Few at hG
  split at hG
  · rename_i a0n a0f a0
    injection hG with hG; subst hG
    exact ⟨none, true, win default ((raw_law08_Few a0n a0f a0).trans (DT.go_run _ _)) hr⟩
  · cases hG
abbrev cx_law09_Few : Cx := mkCx2 tyTab [(37, g_law08_Few)] [] [(50, 4, { keep := [1, 3], acc := [] })] []
theorem rdy_law09_Few : Ready Try.prog tyTab [(37, g_law08_Few)] [] [] := ⟨consG2 law08_Few_ok (noneG2), noneI2, noneF2⟩
structure S.law09_Few_4_V where
  t_3_0 : Int
def S.law09_Few_4_R (qB : List (Ty .step)) (v : S.law09_Few_4_V) : DT (Option Nat × S.law09_Few_4_V) :=
let y0 : Bool := xdec (v.t_3_0 < (↑qB.length : Int))
let y1 : Ty ET.step := qB.getD v.t_3_0.toNat (dflt ET.step)
let y2 : List Opn := y1.ifs
let y3 : List Opn := y1.notIf
(.br (y0)
(.br (xdec (0 ≤ v.t_3_0) && y0)
(.br (S.law08_Few_is y2)
(.br (S.law08_Few_is y3)
(.br (xnot (S.law08_Few_o y2).x0)
(.leaf (some 0, v))
(.br (xnot (S.law08_Few_o y3).x0)
(.leaf (some 0, v))
(.br (xdec ((↑y1.name.size : Int) > 60))
(.leaf (some 0, v))
(.br (xdec ((↑y1.notName.size : Int) > 60))
(.leaf (some 0, v))
(.leaf (none, ⟨xwrap IntKind.i64 (v.t_3_0 + 1)⟩))))))
.fail)
.fail)
.fail)
(.leaf (some 1, v)))
def S.law09_Few_4_r (qB : List (Ty .step)) (v : S.law09_Few_4_V) : Option (Option Nat × S.law09_Few_4_V) := (S.law09_Few_4_R qB v).run
def S.law09_Few_4_j (qB : List (Ty .step)) (v : S.law09_Few_4_V) (j : Nat) : Bool := Lp_j (S.law09_Few_4_r qB) v j
def S.law09_Few_4_v (qB : List (Ty .step)) (v : S.law09_Few_4_V) : S.law09_Few_4_V := Lp_v (S.law09_Few_4_r qB) v
def mk_law09_Few_4 (qI : Option Bool) (qJ : Bool) (qB : List (Ty .step)) (qC : Int) (qA : Int) (qK : Int) (qL : Int) (v : S.law09_Few_4_V) : St := ⟨[V.any, V.v false [C.ptr 0 0], V.any, V.v false [C.d (.sc (.int .i64 v.t_3_0))], V.any, V.any, V.any, V.any, V.any, V.any, V.any, V.any, V.any, V.any, V.any, V.any,
  V.any, V.any, V.any, V.any, V.any, V.any, V.any, V.any, V.any, V.any, V.any, V.any, V.any, V.any, V.any, V.any, V.any, V.any, V.any, V.any, V.any, V.any, V.any, V.any, V.any,
  V.any, V.any, V.any, V.any, V.any, V.any], [some
    (Blk.box 45
      [C.d (.sl qI qJ ET.step qB), C.d (.sc (.int .i64 qC)), C.d (.sc (.int .i64 qA)), C.d (.sc (.int .i64 qK)),
        C.d (.sc (.int .i64 qL))]),
  none, none, none, none, none, none], 0⟩
def ex_law09_Few_4 (qI : Option Bool) (qJ : Bool) (qB : List (Ty .step)) (qC : Int) (qA : Int) (qK : Int) (qL : Int) (j : Nat) (v : S.law09_Few_4_V) : Ex × St := match j with
  | 0 => (Ex.ret, ⟨[V.any, V.any, V.v false [C.d (.sc (.bool false))], V.any, V.any, V.any, V.any, V.any, V.any, V.any, V.any, V.any, V.any, V.any, V.any, V.any, V.any, V.any, V.any, V.any, V.any,
  V.any, V.any, V.any, V.any, V.any, V.any, V.any, V.any, V.any, V.any, V.any, V.any, V.any, V.any, V.any, V.any, V.any, V.any, V.any, V.any, V.any, V.any, V.any, V.any, V.any,
  V.any], [some
    (Blk.box 45
      [C.d (.sl qI qJ ET.step qB), C.d (.sc (.int .i64 qC)), C.d (.sc (.int .i64 qA)), C.d (.sc (.int .i64 qK)),
        C.d (.sc (.int .i64 qL))]),
  none, none, none, none, none, none, none, none, none, none, none, none, none, none, none, none,
  some
    (Blk.box 47
      [C.d (.sc (.str (qB.getD v.t_3_0.toNat (dflt ET.step)).name)), C.d (.sl none false ET.op (qB.getD v.t_3_0.toNat (dflt ET.step)).ifs),
        C.d (.sc (.int .i64 (qB.getD v.t_3_0.toNat (dflt ET.step)).min)), C.d (.sc (.int .i64 (qB.getD v.t_3_0.toNat (dflt ET.step)).max)),
        C.d (.sc (.bool (qB.getD v.t_3_0.toNat (dflt ET.step)).guard)), C.d (.sc (.str (qB.getD v.t_3_0.toNat (dflt ET.step)).notName)),
        C.d (.sl none false ET.op (qB.getD v.t_3_0.toNat (dflt ET.step)).notIf)]),
  none, none, none, none, none, none, none, none, none, none, none, none, none, none, none, none, none, none, none, none, none, none, none, none, none, none, none, none], 0⟩)
  | 1 => (Ex.exit 0, ⟨[V.any, V.any, V.any, V.any, V.any, V.any, V.any, V.any, V.any, V.any, V.any, V.any, V.any, V.any, V.any, V.any, V.any, V.any, V.any, V.any, V.any, V.any, V.any, V.any, V.any,
  V.any, V.any, V.any, V.any, V.any, V.any, V.any, V.any, V.any, V.any, V.any, V.any, V.any, V.any, V.any, V.any, V.any, V.any, V.any, V.any, V.any, V.any], [some
    (Blk.box 45
      [C.d (.sl qI qJ ET.step qB), C.d (.sc (.int .i64 qC)), C.d (.sc (.int .i64 qA)), C.d (.sc (.int .i64 qK)),
        C.d (.sc (.int .i64 qL))]),
  none, none, none, none, none, none, none, none, none, none, none], 0⟩)
  | _ => (.ret, ⟨[], [], 0⟩)
def T1_law09_Few_4 : V → V → Option Blk → Tree
  | V.v false [C.ptr 0 0], V.v false [C.d (.sc (.int .i64 t_3_0))], some (Blk.box 45 [C.d (.sl qI qJ ET.step qB), C.d (.sc (.int .i64 qC)), C.d (.sc (.int .i64 qA)), C.d (.sc (.int .i64 qK)), C.d (.sc (.int .i64 qL))]) => exT (fun j => ex_law09_Few_4 qI qJ qB qC qA qK qL j (S.law09_Few_4_v qB ⟨t_3_0⟩)) (S.law09_Few_4_j qB ⟨t_3_0⟩) [0, 1]
  | _, _, _ => .bad
def T_law09_Few_4 (st : St) : Tree := bif okSt 47 7 0 [0] st then T1_law09_Few_4 (st.env.getD 1 .any) (st.env.getD 3 .any) (lk st.heap 0) else .bad
def b_law09_Few_4 : Code := loopBy Try.f50 4
theorem rnd_law09_Few_4 (qI : Option Bool) (qJ : Bool) (qB : List (Ty .step)) (qC : Int) (qA : Int) (qK : Int) (qL : Int) (v : S.law09_Few_4_V) : round2 cx_law09_Few (hdI cx_law09_Few (find []) [] none 0) 50 b_law09_Few_4 [] 7 [2] (mk_law09_Few_4 qI qJ qB qC qA qK qL v) = (S.law09_Few_4_R qB v).go (roundOut (mk_law09_Few_4 qI qJ qB qC qA qK qL) (ex_law09_Few_4 qI qJ qB qC qA qK qL)) := by kernel_rfl
theorem bs_law09_Few_4 : loopsOf b_law09_Few_4 ++ loopsInl [] = [] := by kernel_rfl
theorem ci_law09_Few_4 (qI : Option Bool) (qJ : Bool) (qB : List (Ty .step)) (qC : Int) (qA : Int) (qK : Int) (qL : Int) : ∀ v j v2, Lp (S.law09_Few_4_r qB) v = some (j, v2) → Circles Try.prog cx_law09_Few b_law09_Few_4 (mk_law09_Few_4 qI qJ qB qC qA qK qL v) (ex_law09_Few_4 qI qJ qB qC qA qK qL j v2).1 (ex_law09_Few_4 qI qJ qB qC qA qK qL j v2).2 :=
  loop_ok2 (L := find []) (n := 0) (hints := [(50, 4, { keep := [1, 3], acc := [] })]) (cx_ok rfl) rdy_law09_Few bs_law09_Few_4 nilB (fun v => (rnd_law09_Few_4 qI qJ qB qC qA qK qL v).trans (DT.go_run _ _)) (by intro j v; unfold ex_law09_Few_4; split <;> rfl)
theorem mke_law09_Few_4 (qI : Option Bool) (qJ : Bool) (qB : List (Ty .step)) (qC : Int) (qA : Int) (qK : Int) (qL : Int) (v : S.law09_Few_4_V) : mk_law09_Few_4 qI qJ qB qC qA qK qL v = ⟨envOf 47 [(1, V.v false [C.ptr 0 0]), (3, V.v false [C.d (.sc (.int .i64 v.t_3_0))])], heapOf 7 [(0, some
  (Blk.box 45
    [C.d (.sl qI qJ ET.step qB), C.d (.sc (.int .i64 qC)), C.d (.sc (.int .i64 qA)), C.d (.sc (.int .i64 qK)),
      C.d (.sc (.int .i64 qL))]))], 0⟩ := by kernel_rfl
theorem lo1_law09_Few_4 (e1 : V) (e3 : V) (h0 : Option Blk) e st2 (h : (T1_law09_Few_4 e1 e3 h0).eval = some (e, st2)) : Circles Try.prog cx_law09_Few b_law09_Few_4 ⟨envOf 47 [(1, e1), (3, e3)], heapOf 7 [(0, h0)], 0⟩ e st2 := by
  unfold T1_law09_Few_4 at h
  split at h
  · have := loop_tree (mk := mk_law09_Few_4 _ _ _ _ _ _ _) (ci_law09_Few_4 _ _ _ _ _ _ _) _ _ e st2 h
    rw [mke_law09_Few_4] at this
    exact this
  · cases h
theorem lok_law09_Few_4 : LoopOk Try.prog cx_law09_Few b_law09_Few_4 T_law09_Few_4 := by
  intro st e st2 h
  unfold T_law09_Few_4 at h
  cases hk : okSt 47 7 0 [0] st with
  | false => rw [hk] at h; cases h
  | true =>
    rw [hk] at h
    exact circles_keep (ks := [1, 3]) hk (lo1_law09_Few_4 _ _ _ e st2 h)
structure S.law09_Few_T where
  x0 : Bool
  deriving Inhabited
def S.law09_Few_R (a0_0 : List (Ty .step)) : DT S.law09_Few_T :=
let y0 : S.law09_Few_4_V := { t_3_0 := 0 : S.law09_Few_4_V }
(.br (xdec ((↑a0_0.length : Int) > 8))
(.leaf ⟨false⟩)
(.br (S.law09_Few_4_j a0_0 y0 0)
(.leaf ⟨false⟩)
(.br (S.law09_Few_4_j a0_0 y0 1)
(.leaf ⟨true⟩)
.fail)))
def S.law09_Few (a0_0 : List (Ty .step)) : Option S.law09_Few_T := (S.law09_Few_R a0_0).run
def S.law09_Few_is (a0_0 : List (Ty .step)) : Bool := (S.law09_Few a0_0).isSome
def S.law09_Few_o (a0_0 : List (Ty .step)) : S.law09_Few_T := (S.law09_Few a0_0).getD default
def ret_law09_Few (b : Bool) (r : S.law09_Few_T) : Ret := ⟨b, none, [(false, [C.d (.sc (.bool r.x0))])]⟩
def g_law09_Few : Con
  | [(true, [.sl a0_0n a0_0f .step a0_0, .sc (.int .i64 a0_1), .sc (.int .i64 a0_2), .sc (.int .i64 a0_3), .sc (.int .i64 a0_4)])] => some (ret_law09_Few (S.law09_Few_is a0_0) (S.law09_Few_o a0_0))
  | _ => none
theorem raw_law09_Few (a0_0n : Option Bool) (a0_0f : Bool) (a0_0 : List (Ty .step)) (a0_1 : Int) (a0_2 : Int) (a0_3 : Int) (a0_4 : Int) : evR2 cx_law09_Few (hdI cx_law09_Few (find [(4, T_law09_Few_4)]) [] none 0) none Try.f50 50 none [(true, [.sl a0_0n a0_0f .step a0_0, .sc (.int .i64 a0_1), .sc (.int .i64 a0_2), .sc (.int .i64 a0_3), .sc (.int .i64 a0_4)])] some = (S.law09_Few_R a0_0).go (ret_law09_Few true) := by kernel_rfl
theorem bs_law09_Few : loopsIn Try.f50 [] = [b_law09_Few_4] := by kernel_rfl
theorem law09_Few_ok : Stands Try.prog tyTab 50 g_law09_Few := by
  refine stands3 (L := find [(4, T_law09_Few_4)]) (n := 0) (hints := [(50, 4, { keep := [1, 3], acc := [] })]) (cx_ok rfl) rdy_law09_Few ⟨by kernel_rfl, by kernel_rfl, by kernel_rfl⟩ bs_law09_Few (consB (fun T h => by have e : T_law09_Few_4 = T := Option.some.inj (show some T_law09_Few_4 = some T from h); exact e ▸ lok_law09_Few_4) nilB) (fun das r hG hr => ?_)
  unfold g_law09_Few at hG
  split at hG
  · rename_i a0_0n a0_0f a0_0 a0_1 a0_2 a0_3 a0_4
    injection hG with hG; subst hG
    exact ⟨none, true, win default ((raw_law09_Few a0_0n a0_0f a0_0 a0_1 a0_2 a0_3 a0_4).trans (DT.go_run _ _)) hr⟩
  · cases hG
abbrev cx_run_takes : Cx := mkCx2 tyTab [(47, g_index_Holds)] [] [] []
theorem rdy_run_takes : Ready Try.prog tyTab [(47, g_index_Holds)] [] [] := ⟨consG2 index_Holds_ok (noneG2), noneI2, noneF2⟩
structure S.run_takes_T where
  x0 : Bool
  deriving Inhabited
def S.run_takes_R (a0_0 : ByteArray) (a0_1 : List (Ty .op)) (a1_0 : ByteArray) (a1_1 : Int) (a1_2 : List (Ty .val)) : DT S.run_takes_T :=
(.br (S.index_Holds_is a0_0 a0_1 a1_0 a1_1 a1_2)
(.leaf ⟨(S.index_Holds_o a0_0 a0_1 a1_0 a1_1 a1_2).x0⟩)
.fail)
def S.run_takes (a0_0 : ByteArray) (a0_1 : List (Ty .op)) (a1_0 : ByteArray) (a1_1 : Int) (a1_2 : List (Ty .val)) : Option S.run_takes_T := (S.run_takes_R a0_0 a0_1 a1_0 a1_1 a1_2).run
def S.run_takes_is (a0_0 : ByteArray) (a0_1 : List (Ty .op)) (a1_0 : ByteArray) (a1_1 : Int) (a1_2 : List (Ty .val)) : Bool := (S.run_takes a0_0 a0_1 a1_0 a1_1 a1_2).isSome
def S.run_takes_o (a0_0 : ByteArray) (a0_1 : List (Ty .op)) (a1_0 : ByteArray) (a1_1 : Int) (a1_2 : List (Ty .val)) : S.run_takes_T := (S.run_takes a0_0 a0_1 a1_0 a1_1 a1_2).getD default
def ret_run_takes (b : Bool) (r : S.run_takes_T) : Ret := ⟨b, none, [(false, [C.d (.sc (.bool r.x0))])]⟩
def g_run_takes : Con
  | [(true, [.sc (.str a0_0), .sl a0_1n a0_1f .op a0_1, .sc (.int .i64 a0_2), .sc (.int .i64 a0_3), .sc (.bool a0_4), .sc (.str a0_5), .sl a0_6n a0_6f .op a0_6]), (true, [.sc (.str a1_0), .sc (.int .i64 a1_1), .sl a1_2n a1_2f .val a1_2])] => some (ret_run_takes (S.run_takes_is a0_0 a0_1 a1_0 a1_1 a1_2) (S.run_takes_o a0_0 a0_1 a1_0 a1_1 a1_2))
  | _ => none
theorem raw_run_takes (a0_0 : ByteArray) (a0_1n : Option Bool) (a0_1f : Bool) (a0_1 : List (Ty .op)) (a0_2 : Int) (a0_3 : Int) (a0_4 : Bool) (a0_5 : ByteArray) (a0_6n : Option Bool) (a0_6f : Bool) (a0_6 : List (Ty .op)) (a1_0 : ByteArray) (a1_1 : Int) (a1_2n : Option Bool) (a1_2f : Bool) (a1_2 : List (Ty .val)) : evR2 cx_run_takes (hdI cx_run_takes (find []) [] none 0) none Try.f93 93 none [(true, [.sc (.str a0_0), .sl a0_1n a0_1f .op a0_1, .sc (.int .i64 a0_2), .sc (.int .i64 a0_3), .sc (.bool a0_4), .sc (.str a0_5), .sl a0_6n a0_6f .op a0_6]), (true, [.sc (.str a1_0), .sc (.int .i64 a1_1), .sl a1_2n a1_2f .val a1_2])] some = (S.run_takes_R a0_0 a0_1 a1_0 a1_1 a1_2).go (ret_run_takes true) := by kernel_rfl
theorem bs_run_takes : loopsIn Try.f93 [] = [] := by kernel_rfl
theorem run_takes_ok : Stands Try.prog tyTab 93 g_run_takes := by
  refine stands3 (L := find []) (n := 0) (hints := []) (cx_ok rfl) rdy_run_takes ⟨by kernel_rfl, by kernel_rfl, by kernel_rfl⟩ bs_run_takes nilB (fun das r hG hr => ?_)
  unfold g_run_takes at hG
  split at hG
  · rename_i a0_0 a0_1n a0_1f a0_1 a0_2 a0_3 a0_4 a0_5 a0_6n a0_6f a0_6 a1_0 a1_1 a1_2n a1_2f a1_2
    injection hG with hG; subst hG
    exact ⟨none, true, win default ((raw_run_takes a0_0 a0_1n a0_1f a0_1 a0_2 a0_3 a0_4 a0_5 a0_6n a0_6f a0_6 a1_0 a1_1 a1_2n a1_2f a1_2).trans (DT.go_run _ _)) hr⟩
  · cases hG
abbrev cx_run_forbids : Cx := mkCx2 tyTab [(47, g_index_Holds)] [] [] []
theorem rdy_run_forbids : Ready Try.prog tyTab [(47, g_index_Holds)] [] [] := ⟨consG2 index_Holds_ok (noneG2), noneI2, noneF2⟩
structure S.run_forbids_T where
  x0 : Bool
  deriving Inhabited
def S.run_forbids_R (a0_4 : Bool) (a0_5 : ByteArray) (a0_6 : List (Ty .op)) (a1_0 : ByteArray) (a1_1 : Int) (a1_2 : List (Ty .val)) : DT S.run_forbids_T :=
(.br (a0_4)
(.br (S.index_Holds_is a0_5 a0_6 a1_0 a1_1 a1_2)
(.leaf ⟨(S.index_Holds_o a0_5 a0_6 a1_0 a1_1 a1_2).x0⟩)
.fail)
(.leaf ⟨false⟩))
def S.run_forbids (a0_4 : Bool) (a0_5 : ByteArray) (a0_6 : List (Ty .op)) (a1_0 : ByteArray) (a1_1 : Int) (a1_2 : List (Ty .val)) : Option S.run_forbids_T := (S.run_forbids_R a0_4 a0_5 a0_6 a1_0 a1_1 a1_2).run
def S.run_forbids_is (a0_4 : Bool) (a0_5 : ByteArray) (a0_6 : List (Ty .op)) (a1_0 : ByteArray) (a1_1 : Int) (a1_2 : List (Ty .val)) : Bool := (S.run_forbids a0_4 a0_5 a0_6 a1_0 a1_1 a1_2).isSome
def S.run_forbids_o (a0_4 : Bool) (a0_5 : ByteArray) (a0_6 : List (Ty .op)) (a1_0 : ByteArray) (a1_1 : Int) (a1_2 : List (Ty .val)) : S.run_forbids_T := (S.run_forbids a0_4 a0_5 a0_6 a1_0 a1_1 a1_2).getD default
def ret_run_forbids (b : Bool) (r : S.run_forbids_T) : Ret := ⟨b, none, [(false, [C.d (.sc (.bool r.x0))])]⟩
def g_run_forbids : Con
  | [(true, [.sc (.str a0_0), .sl a0_1n a0_1f .op a0_1, .sc (.int .i64 a0_2), .sc (.int .i64 a0_3), .sc (.bool a0_4), .sc (.str a0_5), .sl a0_6n a0_6f .op a0_6]), (true, [.sc (.str a1_0), .sc (.int .i64 a1_1), .sl a1_2n a1_2f .val a1_2])] => some (ret_run_forbids (S.run_forbids_is a0_4 a0_5 a0_6 a1_0 a1_1 a1_2) (S.run_forbids_o a0_4 a0_5 a0_6 a1_0 a1_1 a1_2))
  | _ => none
theorem raw_run_forbids (a0_0 : ByteArray) (a0_1n : Option Bool) (a0_1f : Bool) (a0_1 : List (Ty .op)) (a0_2 : Int) (a0_3 : Int) (a0_4 : Bool) (a0_5 : ByteArray) (a0_6n : Option Bool) (a0_6f : Bool) (a0_6 : List (Ty .op)) (a1_0 : ByteArray) (a1_1 : Int) (a1_2n : Option Bool) (a1_2f : Bool) (a1_2 : List (Ty .val)) : evR2 cx_run_forbids (hdI cx_run_forbids (find []) [] none 0) none Try.f97 97 none [(true, [.sc (.str a0_0), .sl a0_1n a0_1f .op a0_1, .sc (.int .i64 a0_2), .sc (.int .i64 a0_3), .sc (.bool a0_4), .sc (.str a0_5), .sl a0_6n a0_6f .op a0_6]), (true, [.sc (.str a1_0), .sc (.int .i64 a1_1), .sl a1_2n a1_2f .val a1_2])] some = (S.run_forbids_R a0_4 a0_5 a0_6 a1_0 a1_1 a1_2).go (ret_run_forbids true) := by kernel_rfl
theorem bs_run_forbids : loopsIn Try.f97 [] = [] := by kernel_rfl
theorem run_forbids_ok : Stands Try.prog tyTab 97 g_run_forbids := by
  refine stands3 (L := find []) (n := 0) (hints := []) (cx_ok rfl) rdy_run_forbids ⟨by kernel_rfl, by kernel_rfl, by kernel_rfl⟩ bs_run_forbids nilB (fun das r hG hr => ?_)
  unfold g_run_forbids at hG
  split at hG
  · rename_i a0_0 a0_1n a0_1f a0_1 a0_2 a0_3 a0_4 a0_5 a0_6n a0_6f a0_6 a1_0 a1_1 a1_2n a1_2f a1_2
    injection hG with hG; subst hG
    exact ⟨none, true, win default ((raw_run_forbids a0_0 a0_1n a0_1f a0_1 a0_2 a0_3 a0_4 a0_5 a0_6n a0_6f a0_6 a1_0 a1_1 a1_2n a1_2f a1_2).trans (DT.go_run _ _)) hr⟩
  · cases hG
abbrev cx_run_late : Cx := mkCx2 tyTab [] [] [] []
theorem rdy_run_late : Ready Try.prog tyTab [] [] [] := ⟨noneG2, noneI2, noneF2⟩
structure S.run_late_T where
  x0 : Bool
  deriving Inhabited
def S.run_late_R (a0_1 : Int) (a1_1 : Int) (a2_1 : Int) : DT S.run_late_T :=
(.br (xdec (a0_1 < 0))
(.leaf ⟨true⟩)
(.leaf ⟨xdec (xwrap IntKind.u64 (IntKind.u64.wrap a2_1 - IntKind.u64.wrap a1_1) > IntKind.u64.wrap a0_1)⟩))
def S.run_late (a0_1 : Int) (a1_1 : Int) (a2_1 : Int) : Option S.run_late_T := (S.run_late_R a0_1 a1_1 a2_1).run
def S.run_late_is (a0_1 : Int) (a1_1 : Int) (a2_1 : Int) : Bool := (S.run_late a0_1 a1_1 a2_1).isSome
def S.run_late_o (a0_1 : Int) (a1_1 : Int) (a2_1 : Int) : S.run_late_T := (S.run_late a0_1 a1_1 a2_1).getD default
def ret_run_late (b : Bool) (r : S.run_late_T) : Ret := ⟨b, none, [(false, [C.d (.sc (.bool r.x0))])]⟩
def g_run_late : Con
  | [(true, [.sl a0_0n a0_0f .step a0_0, .sc (.int .i64 a0_1), .sc (.int .i64 a0_2), .sc (.int .i64 a0_3), .sc (.int .i64 a0_4)]), (true, [.sc (.int .i64 a1_0), .sc (.int .i64 a1_1), .sc (.int .i64 a1_2), .sc (.int .i64 a1_3), .sc (.int .i64 a1_4), .sc (.int .i64 a1_5), .sc (.bool a1_6)]), (true, [.sc (.str a2_0), .sc (.int .i64 a2_1), .sl a2_2n a2_2f .val a2_2])] => some (ret_run_late (S.run_late_is a0_1 a1_1 a2_1) (S.run_late_o a0_1 a1_1 a2_1))
  | _ => none
theorem raw_run_late (a0_0n : Option Bool) (a0_0f : Bool) (a0_0 : List (Ty .step)) (a0_1 : Int) (a0_2 : Int) (a0_3 : Int) (a0_4 : Int) (a1_0 : Int) (a1_1 : Int) (a1_2 : Int) (a1_3 : Int) (a1_4 : Int) (a1_5 : Int) (a1_6 : Bool) (a2_0 : ByteArray) (a2_1 : Int) (a2_2n : Option Bool) (a2_2f : Bool) (a2_2 : List (Ty .val)) : evR2 cx_run_late (hdI cx_run_late (find []) [] none 0) none Try.f96 96 none [(true, [.sl a0_0n a0_0f .step a0_0, .sc (.int .i64 a0_1), .sc (.int .i64 a0_2), .sc (.int .i64 a0_3), .sc (.int .i64 a0_4)]), (true, [.sc (.int .i64 a1_0), .sc (.int .i64 a1_1), .sc (.int .i64 a1_2), .sc (.int .i64 a1_3), .sc (.int .i64 a1_4), .sc (.int .i64 a1_5), .sc (.bool a1_6)]), (true, [.sc (.str a2_0), .sc (.int .i64 a2_1), .sl a2_2n a2_2f .val a2_2])] some = (S.run_late_R a0_1 a1_1 a2_1).go (ret_run_late true) := by kernel_rfl
theorem bs_run_late : loopsIn Try.f96 [] = [] := by kernel_rfl
theorem run_late_ok : Stands Try.prog tyTab 96 g_run_late := by
  refine stands3 (L := find []) (n := 0) (hints := []) (cx_ok rfl) rdy_run_late ⟨by kernel_rfl, by kernel_rfl, by kernel_rfl⟩ bs_run_late nilB (fun das r hG hr => ?_)
  unfold g_run_late at hG
  split at hG
  · rename_i a0_0n a0_0f a0_0 a0_1 a0_2 a0_3 a0_4 a1_0 a1_1 a1_2 a1_3 a1_4 a1_5 a1_6 a2_0 a2_1 a2_2n a2_2f a2_2
    injection hG with hG; subst hG
    exact ⟨none, true, win default ((raw_run_late a0_0n a0_0f a0_0 a0_1 a0_2 a0_3 a0_4 a1_0 a1_1 a1_2 a1_3 a1_4 a1_5 a1_6 a2_0 a2_1 a2_2n a2_2f a2_2).trans (DT.go_run _ _)) hr⟩
  · cases hG
abbrev cx_run_fate : Cx := mkCx2 tyTab [] [] [] []
theorem rdy_run_fate : Ready Try.prog tyTab [] [] [] := ⟨noneG2, noneI2, noneF2⟩
structure S.run_fate_T where
  x0 : Int
  deriving Inhabited
def S.run_fate_R (a0_0 : List (Ty .step)) (a1_2 : Int) (a1_3 : Int) : DT S.run_fate_T :=
let y0 : Int := (↑a0_0.length : Int)
(.br (xeqI a1_2 (xwrap IntKind.i64 (y0 - 1)))
(.br (xdec (0 ≤ a1_2) && xdec (a1_2 < y0))
(.br (xdec (a1_3 ≥ (a0_0.getD a1_2.toNat (dflt ET.step)).min))
(.leaf ⟨2⟩)
(.leaf ⟨0⟩))
.fail)
(.leaf ⟨0⟩))
def S.run_fate (a0_0 : List (Ty .step)) (a1_2 : Int) (a1_3 : Int) : Option S.run_fate_T := (S.run_fate_R a0_0 a1_2 a1_3).run
def S.run_fate_is (a0_0 : List (Ty .step)) (a1_2 : Int) (a1_3 : Int) : Bool := (S.run_fate a0_0 a1_2 a1_3).isSome
def S.run_fate_o (a0_0 : List (Ty .step)) (a1_2 : Int) (a1_3 : Int) : S.run_fate_T := (S.run_fate a0_0 a1_2 a1_3).getD default
def ret_run_fate (b : Bool) (r : S.run_fate_T) : Ret := ⟨b, none, [(false, [C.d (.sc (.int .i64 r.x0))])]⟩
def g_run_fate : Con
  | [(true, [.sl a0_0n a0_0f .step a0_0, .sc (.int .i64 a0_1), .sc (.int .i64 a0_2), .sc (.int .i64 a0_3), .sc (.int .i64 a0_4)]), (true, [.sc (.int .i64 a1_0), .sc (.int .i64 a1_1), .sc (.int .i64 a1_2), .sc (.int .i64 a1_3), .sc (.int .i64 a1_4), .sc (.int .i64 a1_5), .sc (.bool a1_6)])] => some (ret_run_fate (S.run_fate_is a0_0 a1_2 a1_3) (S.run_fate_o a0_0 a1_2 a1_3))
  | _ => none
theorem raw_run_fate (a0_0n : Option Bool) (a0_0f : Bool) (a0_0 : List (Ty .step)) (a0_1 : Int) (a0_2 : Int) (a0_3 : Int) (a0_4 : Int) (a1_0 : Int) (a1_1 : Int) (a1_2 : Int) (a1_3 : Int) (a1_4 : Int) (a1_5 : Int) (a1_6 : Bool) : evR2 cx_run_fate (hdI cx_run_fate (find []) [] none 0) none Try.f95 95 none [(true, [.sl a0_0n a0_0f .step a0_0, .sc (.int .i64 a0_1), .sc (.int .i64 a0_2), .sc (.int .i64 a0_3), .sc (.int .i64 a0_4)]), (true, [.sc (.int .i64 a1_0), .sc (.int .i64 a1_1), .sc (.int .i64 a1_2), .sc (.int .i64 a1_3), .sc (.int .i64 a1_4), .sc (.int .i64 a1_5), .sc (.bool a1_6)])] some = (S.run_fate_R a0_0 a1_2 a1_3).go (ret_run_fate true) := by kernel_rfl
theorem bs_run_fate : loopsIn Try.f95 [] = [] := by kernel_rfl
theorem run_fate_ok : Stands Try.prog tyTab 95 g_run_fate := by
  refine stands3 (L := find []) (n := 0) (hints := []) (cx_ok rfl) rdy_run_fate ⟨by kernel_rfl, by kernel_rfl, by kernel_rfl⟩ bs_run_fate nilB (fun das r hG hr => ?_)
  unfold g_run_fate at hG
  split at hG
  · rename_i a0_0n a0_0f a0_0 a0_1 a0_2 a0_3 a0_4 a1_0 a1_1 a1_2 a1_3 a1_4 a1_5 a1_6
    injection hG with hG; subst hG
    exact ⟨none, true, win default ((raw_run_fate a0_0n a0_0f a0_0 a0_1 a0_2 a0_3 a0_4 a1_0 a1_1 a1_2 a1_3 a1_4 a1_5 a1_6).trans (DT.go_run _ _)) hr⟩
  · cases hG
abbrev cx_run_sum : Cx := mkCx2 tyTab [] [] [] []
theorem rdy_run_sum : Ready Try.prog tyTab [] [] [] := ⟨noneG2, noneI2, noneF2⟩
structure S.run_sum_T where
  x0 : Int
  x1 : Bool
  deriving Inhabited
def S.run_sum_R (a0 : Int) (a1 : Int) : DT S.run_sum_T :=
let y0 : Int := xwrap IntKind.i64 (a0 + a1)
(.br (bif xdec (y0 > a0) == xdec (a1 > 0) then false else true)
(.leaf ⟨a0, false⟩)
(.leaf ⟨y0, true⟩))
def S.run_sum (a0 : Int) (a1 : Int) : Option S.run_sum_T := (S.run_sum_R a0 a1).run
def S.run_sum_is (a0 : Int) (a1 : Int) : Bool := (S.run_sum a0 a1).isSome
def S.run_sum_o (a0 : Int) (a1 : Int) : S.run_sum_T := (S.run_sum a0 a1).getD default
def ret_run_sum (b : Bool) (r : S.run_sum_T) : Ret := ⟨b, none, [(false, [C.d (.sc (.int .i64 r.x0))]), (false, [C.d (.sc (.bool r.x1))])]⟩
def g_run_sum : Con
  | [(false, [.sc (.int .i64 a0)]), (false, [.sc (.int .i64 a1)])] => some (ret_run_sum (S.run_sum_is a0 a1) (S.run_sum_o a0 a1))
  | _ => none
theorem raw_run_sum (a0 : Int) (a1 : Int) : evR2 cx_run_sum (hdI cx_run_sum (find []) [] none 0) none Try.f154 154 none [(false, [.sc (.int .i64 a0)]), (false, [.sc (.int .i64 a1)])] some = (S.run_sum_R a0 a1).go (ret_run_sum true) := by kernel_rfl
theorem bs_run_sum : loopsIn Try.f154 [] = [] := by kernel_rfl
theorem run_sum_ok : Stands Try.prog tyTab 154 g_run_sum := by
  refine stands3 (L := find []) (n := 0) (hints := []) (cx_ok rfl) rdy_run_sum ⟨by kernel_rfl, by kernel_rfl, by kernel_rfl⟩ bs_run_sum nilB (fun das r hG hr => ?_)
  unfold g_run_sum at hG
  split at hG
  · rename_i a0 a1
    injection hG with hG; subst hG
    exact ⟨none, true, win default ((raw_run_sum a0 a1).trans (DT.go_run _ _)) hr⟩
  · cases hG
abbrev cx_run_least : Cx := mkCx2 tyTab [] [] [] []
theorem rdy_run_least : Ready Try.prog tyTab [] [] [] := ⟨noneG2, noneI2, noneF2⟩
structure S.run_least_T where
  x0 : Int
  x1 : Bool
  deriving Inhabited
def S.run_least_R (a0 : Int) (a1 : Int) : DT S.run_least_T :=
(.leaf ⟨if a1 < a0 then a1 else a0, true⟩)
def S.run_least (a0 : Int) (a1 : Int) : Option S.run_least_T := (S.run_least_R a0 a1).run
def S.run_least_is (a0 : Int) (a1 : Int) : Bool := (S.run_least a0 a1).isSome
def S.run_least_o (a0 : Int) (a1 : Int) : S.run_least_T := (S.run_least a0 a1).getD default
def ret_run_least (b : Bool) (r : S.run_least_T) : Ret := ⟨b, none, [(false, [C.d (.sc (.int .i64 r.x0))]), (false, [C.d (.sc (.bool r.x1))])]⟩
def g_run_least : Con
  | [(false, [.sc (.int .i64 a0)]), (false, [.sc (.int .i64 a1)])] => some (ret_run_least (S.run_least_is a0 a1) (S.run_least_o a0 a1))
  | _ => none
theorem raw_run_least (a0 : Int) (a1 : Int) : evR2 cx_run_least (hdI cx_run_least (find []) [] none 0) none Try.f155 155 none [(false, [.sc (.int .i64 a0)]), (false, [.sc (.int .i64 a1)])] some = (S.run_least_R a0 a1).go (ret_run_least true) := by kernel_rfl
theorem bs_run_least : loopsIn Try.f155 [] = [] := by kernel_rfl
theorem run_least_ok : Stands Try.prog tyTab 155 g_run_least := by
  refine stands3 (L := find []) (n := 0) (hints := []) (cx_ok rfl) rdy_run_least ⟨by kernel_rfl, by kernel_rfl, by kernel_rfl⟩ bs_run_least nilB (fun das r hG hr => ?_)
  unfold g_run_least at hG
  split at hG
  · rename_i a0 a1
    injection hG with hG; subst hG
    exact ⟨none, true, win default ((raw_run_least a0 a1).trans (DT.go_run _ _)) hr⟩
  · cases hG
abbrev cx_run_most : Cx := mkCx2 tyTab [] [] [] []
theorem rdy_run_most : Ready Try.prog tyTab [] [] [] := ⟨noneG2, noneI2, noneF2⟩
structure S.run_most_T where
  x0 : Int
  x1 : Bool
  deriving Inhabited
def S.run_most_R (a0 : Int) (a1 : Int) : DT S.run_most_T :=
(.leaf ⟨if a1 > a0 then a1 else a0, true⟩)
def S.run_most (a0 : Int) (a1 : Int) : Option S.run_most_T := (S.run_most_R a0 a1).run
def S.run_most_is (a0 : Int) (a1 : Int) : Bool := (S.run_most a0 a1).isSome
def S.run_most_o (a0 : Int) (a1 : Int) : S.run_most_T := (S.run_most a0 a1).getD default
def ret_run_most (b : Bool) (r : S.run_most_T) : Ret := ⟨b, none, [(false, [C.d (.sc (.int .i64 r.x0))]), (false, [C.d (.sc (.bool r.x1))])]⟩
def g_run_most : Con
  | [(false, [.sc (.int .i64 a0)]), (false, [.sc (.int .i64 a1)])] => some (ret_run_most (S.run_most_is a0 a1) (S.run_most_o a0 a1))
  | _ => none
theorem raw_run_most (a0 : Int) (a1 : Int) : evR2 cx_run_most (hdI cx_run_most (find []) [] none 0) none Try.f156 156 none [(false, [.sc (.int .i64 a0)]), (false, [.sc (.int .i64 a1)])] some = (S.run_most_R a0 a1).go (ret_run_most true) := by kernel_rfl
theorem bs_run_most : loopsIn Try.f156 [] = [] := by kernel_rfl
theorem run_most_ok : Stands Try.prog tyTab 156 g_run_most := by
  refine stands3 (L := find []) (n := 0) (hints := []) (cx_ok rfl) rdy_run_most ⟨by kernel_rfl, by kernel_rfl, by kernel_rfl⟩ bs_run_most nilB (fun das r hG hr => ?_)
  unfold g_run_most at hG
  split at hG
  · rename_i a0 a1
    injection hG with hG; subst hG
    exact ⟨none, true, win default ((raw_run_most a0 a1).trans (DT.go_run _ _)) hr⟩
  · cases hG
abbrev cx_law11_Two : Cx := mkCx2 tyTab [] [] [] []
theorem rdy_law11_Two : Ready Try.prog tyTab [] [] [] := ⟨noneG2, noneI2, noneF2⟩
structure S.law11_Two_T where
  x0 : List (Ty .step)
  x1 : Int
  x2 : Int
  x3 : Int
  x4 : Int
  deriving Inhabited
def S.law11_Two_R (a0 : Int) : DT S.law11_Two_T :=
let y0 : Nat := 0 + 2
let y1 : Step := { name := { data := { toList := [97] : Array UInt8 } : ByteArray }, ifs := [], min := 1, max := 1, guard := false, notName := ByteArray.empty, notIf := [] : Step }
let y2 : Step := { name := { data := { toList := [98] : Array UInt8 } : ByteArray }, ifs := [], min := 1, max := 1, guard := false, notName := ByteArray.empty, notIf := [] : Step }
(.br (xdec (y0 ≤ (((List.replicate 2 (dflt ET.step)).set 0 y1).set 1 y2).length) && true && true && true)
(.leaf ⟨sub [y1, y2] 0 y0, a0, 0, 0, 0⟩)
.fail)
def S.law11_Two (a0 : Int) : Option S.law11_Two_T := (S.law11_Two_R a0).run
def S.law11_Two_is (a0 : Int) : Bool := (S.law11_Two a0).isSome
def S.law11_Two_o (a0 : Int) : S.law11_Two_T := (S.law11_Two a0).getD default
def ret_law11_Two (b : Bool) (r : S.law11_Two_T) : Ret := ⟨b, none, [(true,
    [C.d (.sl none false ET.step r.x0), C.d (.sc (.int .i64 r.x1)), C.d (.sc (.int .i64 r.x2)), C.d (.sc (.int .i64 r.x3)),
      C.d (.sc (.int .i64 r.x4))])]⟩
def g_law11_Two : Con
  | [(false, [.sc (.int .i64 a0)])] => some (ret_law11_Two (S.law11_Two_is a0) (S.law11_Two_o a0))
  | _ => none
theorem raw_law11_Two (a0 : Int) : evR2 cx_law11_Two (hdI cx_law11_Two (find []) [] none 0) none Try.f91 91 none [(false, [.sc (.int .i64 a0)])] some = (S.law11_Two_R a0).go (ret_law11_Two true) := by kernel_rfl
theorem bs_law11_Two : loopsIn Try.f91 [] = [] := by kernel_rfl
theorem law11_Two_ok : Stands Try.prog tyTab 91 g_law11_Two := by
  refine stands3 (L := find []) (n := 0) (hints := []) (cx_ok rfl) rdy_law11_Two ⟨by kernel_rfl, by kernel_rfl, by kernel_rfl⟩ bs_law11_Two nilB (fun das r hG hr => ?_)
  unfold g_law11_Two at hG
  split at hG
  · rename_i a0
    injection hG with hG; subst hG
    exact ⟨none, true, win default ((raw_law11_Two a0).trans (DT.go_run _ _)) hr⟩
  · cases hG
abbrev cx_law09_One : Cx := mkCx2 tyTab [] [] [] []
theorem rdy_law09_One : Ready Try.prog tyTab [] [] [] := ⟨noneG2, noneI2, noneF2⟩
structure S.law09_One_T where
  x0 : List (Ty .step)
  x1 : Int
  x2 : Int
  x3 : Int
  x4 : Int
  deriving Inhabited
def S.law09_One_R  : DT S.law09_One_T :=
let y0 : Nat := 0 + 1
let y1 : Step := { name := { data := { toList := [97] : Array UInt8 } : ByteArray }, ifs := [], min := 1, max := 1, guard := false, notName := ByteArray.empty, notIf := [] : Step }
(.br (xdec (y0 ≤ ((List.replicate 1 (dflt ET.step)).set 0 y1).length) && true && true && true)
(.leaf ⟨sub [y1] 0 y0, 0, 0, 0, 0⟩)
.fail)
def S.law09_One  : Option S.law09_One_T := (S.law09_One_R ).run
def S.law09_One_is  : Bool := (S.law09_One ).isSome
def S.law09_One_o  : S.law09_One_T := (S.law09_One ).getD default
def ret_law09_One (b : Bool) (r : S.law09_One_T) : Ret := ⟨b, none, [(true,
    [C.d (.sl none false ET.step r.x0), C.d (.sc (.int .i64 r.x1)), C.d (.sc (.int .i64 r.x2)), C.d (.sc (.int .i64 r.x3)),
      C.d (.sc (.int .i64 r.x4))])]⟩
def g_law09_One : Con
  | [] => some (ret_law09_One (S.law09_One_is ) (S.law09_One_o ))
  | _ => none
theorem raw_law09_One  : evR2 cx_law09_One (hdI cx_law09_One (find []) [] none 0) none Try.f80 80 none [] some = (S.law09_One_R ).go (ret_law09_One true) := by kernel_rfl
theorem bs_law09_One : loopsIn Try.f80 [] = [] := by kernel_rfl
theorem law09_One_ok : Stands Try.prog tyTab 80 g_law09_One := by
  refine stands3 (L := find []) (n := 0) (hints := []) (cx_ok rfl) rdy_law09_One ⟨by kernel_rfl, by kernel_rfl, by kernel_rfl⟩ bs_law09_One nilB (fun das r hG hr => ?_)
  unfold g_law09_One at hG
  split at hG
  · injection hG with hG; subst hG
    exact ⟨none, true, win default ((raw_law09_One ).trans (DT.go_run _ _)) hr⟩
  · cases hG
abbrev cx_told0 : Cx := mkCx2 tyTab [(154, g_run_sum), (155, g_run_least), (156, g_run_most)] [] [] []
theorem rdy_told0 : Ready Try.prog tyTab [(154, g_run_sum), (155, g_run_least), (156, g_run_most)] [] [] := ⟨consG2 run_sum_ok (consG2 run_least_ok (consG2 run_most_ok (noneG2))), noneI2, noneF2⟩
structure S.told0_T where
  x0 : Int
  x1 : Int
  x2 : Int
  x3 : Int
  x4 : Int
  x5 : Int
  x6 : Bool
  deriving Inhabited
def S.told0_R (a0_3 : Int) (a0_4 : Int) (a1_0 : Int) (a1_1 : Int) (a1_2 : Int) (a1_3 : Int) (a1_4 : Int) (a1_5 : Int) (a1_6 : Bool) (a2_2 : List (Ty .val)) : DT S.told0_T :=
let y0 : Int := xwrap IntKind.i64 (a1_4 + 1)
let y1 : Int := (↑a2_2.length : Int)
let y2 : Bool := xdec (0 ≤ a0_4) && xdec (a0_4 < y1)
let y3 : Ty ET.val := a2_2.getD a0_4.toNat (dflt ET.val)
let y4 : Int := (↑4 : Int)
let y5 : Bool := xdec (0 ≤ 0) && xdec (0 < y4)
let y6 : Bool := xeqI y0 1
let y7 : Bool := xneI 0 1
let y8 : Int := y3.n
let y9 : S.run_most_T := S.run_most_o y8 y8
let y10 : Int := y9.x0
let y11 : S.run_most_T := S.run_most_o a1_5 y8
let y12 : Int := y11.x0
let y13 : Bool := xnot y11.x1
(.br (xneI a1_2 a0_3)
(.leaf ⟨a1_0, a1_1, a1_2, a1_3, a1_4, a1_5, a1_6⟩)
(.br (xeqI 0 0)
(.leaf ⟨a1_0, a1_1, a1_2, a1_3, y0, y0, a1_6⟩)
(.br (xdec (a0_4 < 0))
(.leaf ⟨a1_0, a1_1, a1_2, a1_3, y0, a1_5, true⟩)
(.br (xdec (a0_4 ≥ y1))
(.leaf ⟨a1_0, a1_1, a1_2, a1_3, y0, a1_5, true⟩)
(.br (y2)
(.br (xneI y3.kind 0)
(.leaf ⟨a1_0, a1_1, a1_2, a1_3, y0, a1_5, true⟩)
(.br (y2)
(.br (xdec (0 ≤ 3) && xdec (3 < y4))
(.br (xeqI 0 1)
(.br (y5)
(.br (y6)
(.br (y7)
.fail
.fail)
.fail)
.fail)
(.br (xeqI 0 2)
(.br (y5)
(.br (y6)
(.br (y7)
.fail
.fail)
.fail)
.fail)
(.br (y6)
(.br (y7)
(.br (a1_6)
(.leaf ⟨a1_0, a1_1, a1_2, a1_3, y0, y10, true⟩)
(.leaf ⟨a1_0, a1_1, a1_2, a1_3, y0, y10, xnot y9.x1⟩))
(.br (a1_6)
(.leaf ⟨a1_0, a1_1, a1_2, a1_3, y0, y12, true⟩)
(.leaf ⟨a1_0, a1_1, a1_2, a1_3, y0, y12, y13⟩)))
(.br (a1_6)
(.leaf ⟨a1_0, a1_1, a1_2, a1_3, y0, y12, true⟩)
(.leaf ⟨a1_0, a1_1, a1_2, a1_3, y0, y12, y13⟩)))))
.fail)
.fail))
.fail)))))
def S.told0 (a0_3 : Int) (a0_4 : Int) (a1_0 : Int) (a1_1 : Int) (a1_2 : Int) (a1_3 : Int) (a1_4 : Int) (a1_5 : Int) (a1_6 : Bool) (a2_2 : List (Ty .val)) : Option S.told0_T := (S.told0_R a0_3 a0_4 a1_0 a1_1 a1_2 a1_3 a1_4 a1_5 a1_6 a2_2).run
def S.told0_is (a0_3 : Int) (a0_4 : Int) (a1_0 : Int) (a1_1 : Int) (a1_2 : Int) (a1_3 : Int) (a1_4 : Int) (a1_5 : Int) (a1_6 : Bool) (a2_2 : List (Ty .val)) : Bool := (S.told0 a0_3 a0_4 a1_0 a1_1 a1_2 a1_3 a1_4 a1_5 a1_6 a2_2).isSome
def S.told0_o (a0_3 : Int) (a0_4 : Int) (a1_0 : Int) (a1_1 : Int) (a1_2 : Int) (a1_3 : Int) (a1_4 : Int) (a1_5 : Int) (a1_6 : Bool) (a2_2 : List (Ty .val)) : S.told0_T := (S.told0 a0_3 a0_4 a1_0 a1_1 a1_2 a1_3 a1_4 a1_5 a1_6 a2_2).getD default
def ret_told0 (b : Bool) (r : S.told0_T) : Ret := ⟨b, none, [(true,
    [C.d (.sc (.int .i64 r.x0)), C.d (.sc (.int .i64 r.x1)), C.d (.sc (.int .i64 r.x2)), C.d (.sc (.int .i64 r.x3)),
      C.d (.sc (.int .i64 r.x4)), C.d (.sc (.int .i64 r.x5)), C.d (.sc (.bool r.x6))])]⟩
def g_told0 : Con
  | [(true, [.sl a0_0n a0_0f .step a0_0, .sc (.int .i64 a0_1), .sc (.int .i64 0), .sc (.int .i64 a0_3), .sc (.int .i64 a0_4)]), (true, [.sc (.int .i64 a1_0), .sc (.int .i64 a1_1), .sc (.int .i64 a1_2), .sc (.int .i64 a1_3), .sc (.int .i64 a1_4), .sc (.int .i64 a1_5), .sc (.bool a1_6)]), (true, [.sc (.str a2_0), .sc (.int .i64 a2_1), .sl a2_2n a2_2f .val a2_2])] => some (ret_told0 (S.told0_is a0_3 a0_4 a1_0 a1_1 a1_2 a1_3 a1_4 a1_5 a1_6 a2_2) (S.told0_o a0_3 a0_4 a1_0 a1_1 a1_2 a1_3 a1_4 a1_5 a1_6 a2_2))
  | _ => none
theorem raw_told0 (a0_0n : Option Bool) (a0_0f : Bool) (a0_0 : List (Ty .step)) (a0_1 : Int) (a0_3 : Int) (a0_4 : Int) (a1_0 : Int) (a1_1 : Int) (a1_2 : Int) (a1_3 : Int) (a1_4 : Int) (a1_5 : Int) (a1_6 : Bool) (a2_0 : ByteArray) (a2_1 : Int) (a2_2n : Option Bool) (a2_2f : Bool) (a2_2 : List (Ty .val)) : evR2 cx_told0 (hdI cx_told0 (find []) [] none 0) none Try.f130 130 none [(true, [.sl a0_0n a0_0f .step a0_0, .sc (.int .i64 a0_1), .sc (.int .i64 0), .sc (.int .i64 a0_3), .sc (.int .i64 a0_4)]), (true, [.sc (.int .i64 a1_0), .sc (.int .i64 a1_1), .sc (.int .i64 a1_2), .sc (.int .i64 a1_3), .sc (.int .i64 a1_4), .sc (.int .i64 a1_5), .sc (.bool a1_6)]), (true, [.sc (.str a2_0), .sc (.int .i64 a2_1), .sl a2_2n a2_2f .val a2_2])] some = (S.told0_R a0_3 a0_4 a1_0 a1_1 a1_2 a1_3 a1_4 a1_5 a1_6 a2_2).go (ret_told0 true) := by kernel_rfl
theorem bs_told0 : loopsIn Try.f130 [] = [] := by kernel_rfl
theorem told0_ok : Stands Try.prog tyTab 130 g_told0 := by
  refine stands3 (L := find []) (n := 0) (hints := []) (cx_ok rfl) rdy_told0 ⟨by kernel_rfl, by kernel_rfl, by kernel_rfl⟩ bs_told0 nilB (fun das r hG hr => ?_)
  unfold g_told0 at hG
  split at hG
  · rename_i a0_0n a0_0f a0_0 a0_1 a0_3 a0_4 a1_0 a1_1 a1_2 a1_3 a1_4 a1_5 a1_6 a2_0 a2_1 a2_2n a2_2f a2_2
    injection hG with hG; subst hG
    exact ⟨none, true, win default ((raw_told0 a0_0n a0_0f a0_0 a0_1 a0_3 a0_4 a1_0 a1_1 a1_2 a1_3 a1_4 a1_5 a1_6 a2_0 a2_1 a2_2n a2_2f a2_2).trans (DT.go_run _ _)) hr⟩
  · cases hG
abbrev cx_toldp : Cx := mkCx2 tyTab [(154, g_run_sum), (155, g_run_least), (156, g_run_most)] [] [] []
theorem rdy_toldp : Ready Try.prog tyTab [(154, g_run_sum), (155, g_run_least), (156, g_run_most)] [] [] := ⟨consG2 run_sum_ok (consG2 run_least_ok (consG2 run_most_ok (noneG2))), noneI2, noneF2⟩
structure S.toldp_T where
  x0 : Int
  x1 : Int
  x2 : Int
  x3 : Int
  x4 : Int
  x5 : Int
  x6 : Bool
  deriving Inhabited
def S.toldp_R (a0_3 : Int) (a0_4 : Int) (a1_0 : Int) (a1_1 : Int) (a1_2 : Int) (a1_3 : Int) (a1_4 : Int) (a1_5 : Int) (a1_6 : Bool) (a2_2 : List (Ty .val)) : DT S.toldp_T :=
let y0 : Int := xwrap IntKind.i64 (a1_4 + 1)
let y1 : Int := (↑a2_2.length : Int)
let y2 : Bool := xdec (0 ≤ a0_4) && xdec (a0_4 < y1)
let y3 : Ty ET.val := a2_2.getD a0_4.toNat (dflt ET.val)
let y4 : Int := y3.n
let y5 : S.run_most_T := S.run_most_o y4 y4
let y6 : Int := y5.x0
let y7 : S.run_most_T := S.run_most_o a1_5 y4
let y8 : Int := y7.x0
(.br (xneI a1_2 a0_3)
(.leaf ⟨a1_0, a1_1, a1_2, a1_3, a1_4, a1_5, a1_6⟩)
(.br (xdec (a0_4 < 0))
(.leaf ⟨a1_0, a1_1, a1_2, a1_3, y0, a1_5, true⟩)
(.br (xdec (a0_4 ≥ y1))
(.leaf ⟨a1_0, a1_1, a1_2, a1_3, y0, a1_5, true⟩)
(.br (y2)
(.br (xneI y3.kind 0)
(.leaf ⟨a1_0, a1_1, a1_2, a1_3, y0, a1_5, true⟩)
(.br (y2)
(.br (xdec (0 ≤ 3) && xdec (3 < (↑4 : Int)))
(.br (xeqI y0 1)
(.br (a1_6)
(.leaf ⟨a1_0, a1_1, a1_2, a1_3, y0, y6, true⟩)
(.leaf ⟨a1_0, a1_1, a1_2, a1_3, y0, y6, xnot y5.x1⟩))
(.br (a1_6)
(.leaf ⟨a1_0, a1_1, a1_2, a1_3, y0, y8, true⟩)
(.leaf ⟨a1_0, a1_1, a1_2, a1_3, y0, y8, xnot y7.x1⟩)))
.fail)
.fail))
.fail))))
def S.toldp (a0_3 : Int) (a0_4 : Int) (a1_0 : Int) (a1_1 : Int) (a1_2 : Int) (a1_3 : Int) (a1_4 : Int) (a1_5 : Int) (a1_6 : Bool) (a2_2 : List (Ty .val)) : Option S.toldp_T := (S.toldp_R a0_3 a0_4 a1_0 a1_1 a1_2 a1_3 a1_4 a1_5 a1_6 a2_2).run
def S.toldp_is (a0_3 : Int) (a0_4 : Int) (a1_0 : Int) (a1_1 : Int) (a1_2 : Int) (a1_3 : Int) (a1_4 : Int) (a1_5 : Int) (a1_6 : Bool) (a2_2 : List (Ty .val)) : Bool := (S.toldp a0_3 a0_4 a1_0 a1_1 a1_2 a1_3 a1_4 a1_5 a1_6 a2_2).isSome
def S.toldp_o (a0_3 : Int) (a0_4 : Int) (a1_0 : Int) (a1_1 : Int) (a1_2 : Int) (a1_3 : Int) (a1_4 : Int) (a1_5 : Int) (a1_6 : Bool) (a2_2 : List (Ty .val)) : S.toldp_T := (S.toldp a0_3 a0_4 a1_0 a1_1 a1_2 a1_3 a1_4 a1_5 a1_6 a2_2).getD default
def ret_toldp (b : Bool) (r : S.toldp_T) : Ret := ⟨b, none, [(true,
    [C.d (.sc (.int .i64 r.x0)), C.d (.sc (.int .i64 r.x1)), C.d (.sc (.int .i64 r.x2)), C.d (.sc (.int .i64 r.x3)),
      C.d (.sc (.int .i64 r.x4)), C.d (.sc (.int .i64 r.x5)), C.d (.sc (.bool r.x6))])]⟩
def g_toldp : Con
  | [(true, [.sl a0_0n a0_0f .step a0_0, .sc (.int .i64 a0_1), .sc (.int .i64 (Int.ofNat (a0_2 + 3))), .sc (.int .i64 a0_3), .sc (.int .i64 a0_4)]), (true, [.sc (.int .i64 a1_0), .sc (.int .i64 a1_1), .sc (.int .i64 a1_2), .sc (.int .i64 a1_3), .sc (.int .i64 a1_4), .sc (.int .i64 a1_5), .sc (.bool a1_6)]), (true, [.sc (.str a2_0), .sc (.int .i64 a2_1), .sl a2_2n a2_2f .val a2_2])] => some (ret_toldp (S.toldp_is a0_3 a0_4 a1_0 a1_1 a1_2 a1_3 a1_4 a1_5 a1_6 a2_2) (S.toldp_o a0_3 a0_4 a1_0 a1_1 a1_2 a1_3 a1_4 a1_5 a1_6 a2_2))
  | _ => none
theorem raw_toldp (a0_0n : Option Bool) (a0_0f : Bool) (a0_0 : List (Ty .step)) (a0_1 : Int) (a0_2 : Nat) (a0_3 : Int) (a0_4 : Int) (a1_0 : Int) (a1_1 : Int) (a1_2 : Int) (a1_3 : Int) (a1_4 : Int) (a1_5 : Int) (a1_6 : Bool) (a2_0 : ByteArray) (a2_1 : Int) (a2_2n : Option Bool) (a2_2f : Bool) (a2_2 : List (Ty .val)) : evR2 cx_toldp (hdI cx_toldp (find []) [] none 0) none Try.f130 130 none [(true, [.sl a0_0n a0_0f .step a0_0, .sc (.int .i64 a0_1), .sc (.int .i64 (Int.ofNat (a0_2 + 3))), .sc (.int .i64 a0_3), .sc (.int .i64 a0_4)]), (true, [.sc (.int .i64 a1_0), .sc (.int .i64 a1_1), .sc (.int .i64 a1_2), .sc (.int .i64 a1_3), .sc (.int .i64 a1_4), .sc (.int .i64 a1_5), .sc (.bool a1_6)]), (true, [.sc (.str a2_0), .sc (.int .i64 a2_1), .sl a2_2n a2_2f .val a2_2])] some = (S.toldp_R a0_3 a0_4 a1_0 a1_1 a1_2 a1_3 a1_4 a1_5 a1_6 a2_2).go (ret_toldp true) := by kernel_rfl
theorem bs_toldp : loopsIn Try.f130 [] = [] := by kernel_rfl
theorem toldp_ok : Stands Try.prog tyTab 130 g_toldp := by
  refine stands3 (L := find []) (n := 0) (hints := []) (cx_ok rfl) rdy_toldp ⟨by kernel_rfl, by kernel_rfl, by kernel_rfl⟩ bs_toldp nilB (fun das r hG hr => ?_)
  unfold g_toldp at hG
  split at hG
  · rename_i a0_0n a0_0f a0_0 a0_1 a0_2 a0_3 a0_4 a1_0 a1_1 a1_2 a1_3 a1_4 a1_5 a1_6 a2_0 a2_1 a2_2n a2_2f a2_2
    injection hG with hG; subst hG
    exact ⟨none, true, win default ((raw_toldp a0_0n a0_0f a0_0 a0_1 a0_2 a0_3 a0_4 a1_0 a1_1 a1_2 a1_3 a1_4 a1_5 a1_6 a2_0 a2_1 a2_2n a2_2f a2_2).trans (DT.go_run _ _)) hr⟩
  · cases hG
abbrev cx_toldn : Cx := mkCx2 tyTab [(154, g_run_sum), (155, g_run_least), (156, g_run_most)] [] [] []
theorem rdy_toldn : Ready Try.prog tyTab [(154, g_run_sum), (155, g_run_least), (156, g_run_most)] [] [] := ⟨consG2 run_sum_ok (consG2 run_least_ok (consG2 run_most_ok (noneG2))), noneI2, noneF2⟩
structure S.toldn_T where
  x0 : Int
  x1 : Int
  x2 : Int
  x3 : Int
  x4 : Int
  x5 : Int
  x6 : Bool
  deriving Inhabited
def S.toldn_R (a0_3 : Int) (a0_4 : Int) (a1_0 : Int) (a1_1 : Int) (a1_2 : Int) (a1_3 : Int) (a1_4 : Int) (a1_5 : Int) (a1_6 : Bool) (a2_2 : List (Ty .val)) : DT S.toldn_T :=
let y0 : Int := xwrap IntKind.i64 (a1_4 + 1)
let y1 : Int := (↑a2_2.length : Int)
let y2 : Bool := xdec (0 ≤ a0_4) && xdec (a0_4 < y1)
let y3 : Ty ET.val := a2_2.getD a0_4.toNat (dflt ET.val)
let y4 : Int := y3.n
let y5 : S.run_most_T := S.run_most_o y4 y4
let y6 : Int := y5.x0
let y7 : S.run_most_T := S.run_most_o a1_5 y4
let y8 : Int := y7.x0
(.br (xneI a1_2 a0_3)
(.leaf ⟨a1_0, a1_1, a1_2, a1_3, a1_4, a1_5, a1_6⟩)
(.br (xdec (a0_4 < 0))
(.leaf ⟨a1_0, a1_1, a1_2, a1_3, y0, a1_5, true⟩)
(.br (xdec (a0_4 ≥ y1))
(.leaf ⟨a1_0, a1_1, a1_2, a1_3, y0, a1_5, true⟩)
(.br (y2)
(.br (xneI y3.kind 0)
(.leaf ⟨a1_0, a1_1, a1_2, a1_3, y0, a1_5, true⟩)
(.br (y2)
(.br (xdec (0 ≤ 3) && xdec (3 < (↑4 : Int)))
(.br (xeqI y0 1)
(.br (a1_6)
(.leaf ⟨a1_0, a1_1, a1_2, a1_3, y0, y6, true⟩)
(.leaf ⟨a1_0, a1_1, a1_2, a1_3, y0, y6, xnot y5.x1⟩))
(.br (a1_6)
(.leaf ⟨a1_0, a1_1, a1_2, a1_3, y0, y8, true⟩)
(.leaf ⟨a1_0, a1_1, a1_2, a1_3, y0, y8, xnot y7.x1⟩)))
.fail)
.fail))
.fail))))
def S.toldn (a0_3 : Int) (a0_4 : Int) (a1_0 : Int) (a1_1 : Int) (a1_2 : Int) (a1_3 : Int) (a1_4 : Int) (a1_5 : Int) (a1_6 : Bool) (a2_2 : List (Ty .val)) : Option S.toldn_T := (S.toldn_R a0_3 a0_4 a1_0 a1_1 a1_2 a1_3 a1_4 a1_5 a1_6 a2_2).run
def S.toldn_is (a0_3 : Int) (a0_4 : Int) (a1_0 : Int) (a1_1 : Int) (a1_2 : Int) (a1_3 : Int) (a1_4 : Int) (a1_5 : Int) (a1_6 : Bool) (a2_2 : List (Ty .val)) : Bool := (S.toldn a0_3 a0_4 a1_0 a1_1 a1_2 a1_3 a1_4 a1_5 a1_6 a2_2).isSome
def S.toldn_o (a0_3 : Int) (a0_4 : Int) (a1_0 : Int) (a1_1 : Int) (a1_2 : Int) (a1_3 : Int) (a1_4 : Int) (a1_5 : Int) (a1_6 : Bool) (a2_2 : List (Ty .val)) : S.toldn_T := (S.toldn a0_3 a0_4 a1_0 a1_1 a1_2 a1_3 a1_4 a1_5 a1_6 a2_2).getD default
def ret_toldn (b : Bool) (r : S.toldn_T) : Ret := ⟨b, none, [(true,
    [C.d (.sc (.int .i64 r.x0)), C.d (.sc (.int .i64 r.x1)), C.d (.sc (.int .i64 r.x2)), C.d (.sc (.int .i64 r.x3)),
      C.d (.sc (.int .i64 r.x4)), C.d (.sc (.int .i64 r.x5)), C.d (.sc (.bool r.x6))])]⟩
def g_toldn : Con
  | [(true, [.sl a0_0n a0_0f .step a0_0, .sc (.int .i64 a0_1), .sc (.int .i64 (Int.negSucc a0_2)), .sc (.int .i64 a0_3), .sc (.int .i64 a0_4)]), (true, [.sc (.int .i64 a1_0), .sc (.int .i64 a1_1), .sc (.int .i64 a1_2), .sc (.int .i64 a1_3), .sc (.int .i64 a1_4), .sc (.int .i64 a1_5), .sc (.bool a1_6)]), (true, [.sc (.str a2_0), .sc (.int .i64 a2_1), .sl a2_2n a2_2f .val a2_2])] => some (ret_toldn (S.toldn_is a0_3 a0_4 a1_0 a1_1 a1_2 a1_3 a1_4 a1_5 a1_6 a2_2) (S.toldn_o a0_3 a0_4 a1_0 a1_1 a1_2 a1_3 a1_4 a1_5 a1_6 a2_2))
  | _ => none
theorem raw_toldn (a0_0n : Option Bool) (a0_0f : Bool) (a0_0 : List (Ty .step)) (a0_1 : Int) (a0_2 : Nat) (a0_3 : Int) (a0_4 : Int) (a1_0 : Int) (a1_1 : Int) (a1_2 : Int) (a1_3 : Int) (a1_4 : Int) (a1_5 : Int) (a1_6 : Bool) (a2_0 : ByteArray) (a2_1 : Int) (a2_2n : Option Bool) (a2_2f : Bool) (a2_2 : List (Ty .val)) : evR2 cx_toldn (hdI cx_toldn (find []) [] none 0) none Try.f130 130 none [(true, [.sl a0_0n a0_0f .step a0_0, .sc (.int .i64 a0_1), .sc (.int .i64 (Int.negSucc a0_2)), .sc (.int .i64 a0_3), .sc (.int .i64 a0_4)]), (true, [.sc (.int .i64 a1_0), .sc (.int .i64 a1_1), .sc (.int .i64 a1_2), .sc (.int .i64 a1_3), .sc (.int .i64 a1_4), .sc (.int .i64 a1_5), .sc (.bool a1_6)]), (true, [.sc (.str a2_0), .sc (.int .i64 a2_1), .sl a2_2n a2_2f .val a2_2])] some = (S.toldn_R a0_3 a0_4 a1_0 a1_1 a1_2 a1_3 a1_4 a1_5 a1_6 a2_2).go (ret_toldn true) := by kernel_rfl
theorem bs_toldn : loopsIn Try.f130 [] = [] := by kernel_rfl
theorem toldn_ok : Stands Try.prog tyTab 130 g_toldn := by
  refine stands3 (L := find []) (n := 0) (hints := []) (cx_ok rfl) rdy_toldn ⟨by kernel_rfl, by kernel_rfl, by kernel_rfl⟩ bs_toldn nilB (fun das r hG hr => ?_)
  unfold g_toldn at hG
  split at hG
  · rename_i a0_0n a0_0f a0_0 a0_1 a0_2 a0_3 a0_4 a1_0 a1_1 a1_2 a1_3 a1_4 a1_5 a1_6 a2_0 a2_1 a2_2n a2_2f a2_2
    injection hG with hG; subst hG
    exact ⟨none, true, win default ((raw_toldn a0_0n a0_0f a0_0 a0_1 a0_2 a0_3 a0_4 a1_0 a1_1 a1_2 a1_3 a1_4 a1_5 a1_6 a2_0 a2_1 a2_2n a2_2f a2_2).trans (DT.go_run _ _)) hr⟩
  · cases hG
abbrev cx_told1 : Cx := mkCx2 tyTab [(154, g_run_sum), (155, g_run_least), (156, g_run_most)] [] [] []
theorem rdy_told1 : Ready Try.prog tyTab [(154, g_run_sum), (155, g_run_least), (156, g_run_most)] [] [] := ⟨consG2 run_sum_ok (consG2 run_least_ok (consG2 run_most_ok (noneG2))), noneI2, noneF2⟩
structure S.told1_T where
  x0 : Int
  x1 : Int
  x2 : Int
  x3 : Int
  x4 : Int
  x5 : Int
  x6 : Bool
  deriving Inhabited
def S.told1_R (a0_3 : Int) (a0_4 : Int) (a1_0 : Int) (a1_1 : Int) (a1_2 : Int) (a1_3 : Int) (a1_4 : Int) (a1_5 : Int) (a1_6 : Bool) (a2_2 : List (Ty .val)) : DT S.told1_T :=
let y0 : Int := xwrap IntKind.i64 (a1_4 + 1)
let y1 : Int := (↑a2_2.length : Int)
let y2 : Bool := xdec (0 ≤ a0_4) && xdec (a0_4 < y1)
let y3 : Ty ET.val := a2_2.getD a0_4.toNat (dflt ET.val)
let y4 : Int := (↑4 : Int)
let y5 : Bool := xdec (0 ≤ 1) && xdec (1 < y4)
let y6 : Bool := xeqI y0 1
let y7 : Bool := xneI 1 1
let y8 : Int := y3.n
let y9 : Bool := S.run_sum_is y8 y8
let y10 : S.run_sum_T := S.run_sum_o y8 y8
let y11 : Int := y10.x0
let y12 : Bool := xnot y10.x1
let y13 : Bool := S.run_sum_is a1_5 y8
let y14 : S.run_sum_T := S.run_sum_o a1_5 y8
let y15 : Int := y14.x0
let y16 : Bool := xnot y14.x1
let y17 : S.run_most_T := S.run_most_o y8 y8
let y18 : Int := y17.x0
let y19 : S.run_most_T := S.run_most_o a1_5 y8
let y20 : Int := y19.x0
let y21 : Bool := xnot y19.x1
(.br (xneI a1_2 a0_3)
(.leaf ⟨a1_0, a1_1, a1_2, a1_3, a1_4, a1_5, a1_6⟩)
(.br (xeqI 1 0)
(.leaf ⟨a1_0, a1_1, a1_2, a1_3, y0, y0, a1_6⟩)
(.br (xdec (a0_4 < 0))
(.leaf ⟨a1_0, a1_1, a1_2, a1_3, y0, a1_5, true⟩)
(.br (xdec (a0_4 ≥ y1))
(.leaf ⟨a1_0, a1_1, a1_2, a1_3, y0, a1_5, true⟩)
(.br (y2)
(.br (xneI y3.kind 0)
(.leaf ⟨a1_0, a1_1, a1_2, a1_3, y0, a1_5, true⟩)
(.br (y2)
(.br (xdec (0 ≤ 3) && xdec (3 < y4))
(.br (xeqI 1 1)
(.br (y5)
(.br (y6)
(.br (y7)
(.br (y9)
(.br (a1_6)
(.leaf ⟨a1_0, a1_1, a1_2, a1_3, y0, y11, true⟩)
(.leaf ⟨a1_0, a1_1, a1_2, a1_3, y0, y11, y12⟩))
.fail)
(.br (y13)
(.br (a1_6)
(.leaf ⟨a1_0, a1_1, a1_2, a1_3, y0, y15, true⟩)
(.leaf ⟨a1_0, a1_1, a1_2, a1_3, y0, y15, y16⟩))
.fail))
(.br (y13)
(.br (a1_6)
(.leaf ⟨a1_0, a1_1, a1_2, a1_3, y0, y15, true⟩)
(.leaf ⟨a1_0, a1_1, a1_2, a1_3, y0, y15, y16⟩))
.fail))
.fail)
(.br (xeqI 1 2)
(.br (y5)
(.br (y6)
(.br (y7)
(.br (y9)
(.br (a1_6)
(.leaf ⟨a1_0, a1_1, a1_2, a1_3, y0, y11, true⟩)
(.leaf ⟨a1_0, a1_1, a1_2, a1_3, y0, y11, y12⟩))
.fail)
(.br (y13)
(.br (a1_6)
(.leaf ⟨a1_0, a1_1, a1_2, a1_3, y0, y15, true⟩)
(.leaf ⟨a1_0, a1_1, a1_2, a1_3, y0, y15, y16⟩))
.fail))
(.br (y13)
(.br (a1_6)
(.leaf ⟨a1_0, a1_1, a1_2, a1_3, y0, y15, true⟩)
(.leaf ⟨a1_0, a1_1, a1_2, a1_3, y0, y15, y16⟩))
.fail))
.fail)
(.br (y6)
(.br (y7)
(.br (a1_6)
(.leaf ⟨a1_0, a1_1, a1_2, a1_3, y0, y18, true⟩)
(.leaf ⟨a1_0, a1_1, a1_2, a1_3, y0, y18, xnot y17.x1⟩))
(.br (a1_6)
(.leaf ⟨a1_0, a1_1, a1_2, a1_3, y0, y20, true⟩)
(.leaf ⟨a1_0, a1_1, a1_2, a1_3, y0, y20, y21⟩)))
(.br (a1_6)
(.leaf ⟨a1_0, a1_1, a1_2, a1_3, y0, y20, true⟩)
(.leaf ⟨a1_0, a1_1, a1_2, a1_3, y0, y20, y21⟩)))))
.fail)
.fail))
.fail)))))
def S.told1 (a0_3 : Int) (a0_4 : Int) (a1_0 : Int) (a1_1 : Int) (a1_2 : Int) (a1_3 : Int) (a1_4 : Int) (a1_5 : Int) (a1_6 : Bool) (a2_2 : List (Ty .val)) : Option S.told1_T := (S.told1_R a0_3 a0_4 a1_0 a1_1 a1_2 a1_3 a1_4 a1_5 a1_6 a2_2).run
def S.told1_is (a0_3 : Int) (a0_4 : Int) (a1_0 : Int) (a1_1 : Int) (a1_2 : Int) (a1_3 : Int) (a1_4 : Int) (a1_5 : Int) (a1_6 : Bool) (a2_2 : List (Ty .val)) : Bool := (S.told1 a0_3 a0_4 a1_0 a1_1 a1_2 a1_3 a1_4 a1_5 a1_6 a2_2).isSome
def S.told1_o (a0_3 : Int) (a0_4 : Int) (a1_0 : Int) (a1_1 : Int) (a1_2 : Int) (a1_3 : Int) (a1_4 : Int) (a1_5 : Int) (a1_6 : Bool) (a2_2 : List (Ty .val)) : S.told1_T := (S.told1 a0_3 a0_4 a1_0 a1_1 a1_2 a1_3 a1_4 a1_5 a1_6 a2_2).getD default
def ret_told1 (b : Bool) (r : S.told1_T) : Ret := ⟨b, none, [(true,
    [C.d (.sc (.int .i64 r.x0)), C.d (.sc (.int .i64 r.x1)), C.d (.sc (.int .i64 r.x2)), C.d (.sc (.int .i64 r.x3)),
      C.d (.sc (.int .i64 r.x4)), C.d (.sc (.int .i64 r.x5)), C.d (.sc (.bool r.x6))])]⟩
def g_told1 : Con
  | [(true, [.sl a0_0n a0_0f .step a0_0, .sc (.int .i64 a0_1), .sc (.int .i64 1), .sc (.int .i64 a0_3), .sc (.int .i64 a0_4)]), (true, [.sc (.int .i64 a1_0), .sc (.int .i64 a1_1), .sc (.int .i64 a1_2), .sc (.int .i64 a1_3), .sc (.int .i64 a1_4), .sc (.int .i64 a1_5), .sc (.bool a1_6)]), (true, [.sc (.str a2_0), .sc (.int .i64 a2_1), .sl a2_2n a2_2f .val a2_2])] => some (ret_told1 (S.told1_is a0_3 a0_4 a1_0 a1_1 a1_2 a1_3 a1_4 a1_5 a1_6 a2_2) (S.told1_o a0_3 a0_4 a1_0 a1_1 a1_2 a1_3 a1_4 a1_5 a1_6 a2_2))
  | _ => none
theorem raw_told1 (a0_0n : Option Bool) (a0_0f : Bool) (a0_0 : List (Ty .step)) (a0_1 : Int) (a0_3 : Int) (a0_4 : Int) (a1_0 : Int) (a1_1 : Int) (a1_2 : Int) (a1_3 : Int) (a1_4 : Int) (a1_5 : Int) (a1_6 : Bool) (a2_0 : ByteArray) (a2_1 : Int) (a2_2n : Option Bool) (a2_2f : Bool) (a2_2 : List (Ty .val)) : evR2 cx_told1 (hdI cx_told1 (find []) [] none 0) none Try.f130 130 none [(true, [.sl a0_0n a0_0f .step a0_0, .sc (.int .i64 a0_1), .sc (.int .i64 1), .sc (.int .i64 a0_3), .sc (.int .i64 a0_4)]), (true, [.sc (.int .i64 a1_0), .sc (.int .i64 a1_1), .sc (.int .i64 a1_2), .sc (.int .i64 a1_3), .sc (.int .i64 a1_4), .sc (.int .i64 a1_5), .sc (.bool a1_6)]), (true, [.sc (.str a2_0), .sc (.int .i64 a2_1), .sl a2_2n a2_2f .val a2_2])] some = (S.told1_R a0_3 a0_4 a1_0 a1_1 a1_2 a1_3 a1_4 a1_5 a1_6 a2_2).go (ret_told1 true) := by kernel_rfl
theorem bs_told1 : loopsIn Try.f130 [] = [] := by kernel_rfl
theorem told1_ok : Stands Try.prog tyTab 130 g_told1 := by
  refine stands3 (L := find []) (n := 0) (hints := []) (cx_ok rfl) rdy_told1 ⟨by kernel_rfl, by kernel_rfl, by kernel_rfl⟩ bs_told1 nilB (fun das r hG hr => ?_)
  unfold g_told1 at hG
  split at hG
  · rename_i a0_0n a0_0f a0_0 a0_1 a0_3 a0_4 a1_0 a1_1 a1_2 a1_3 a1_4 a1_5 a1_6 a2_0 a2_1 a2_2n a2_2f a2_2
    injection hG with hG; subst hG
    exact ⟨none, true, win default ((raw_told1 a0_0n a0_0f a0_0 a0_1 a0_3 a0_4 a1_0 a1_1 a1_2 a1_3 a1_4 a1_5 a1_6 a2_0 a2_1 a2_2n a2_2f a2_2).trans (DT.go_run _ _)) hr⟩
  · cases hG
abbrev cx_told2 : Cx := mkCx2 tyTab [(154, g_run_sum), (155, g_run_least), (156, g_run_most)] [] [] []
theorem rdy_told2 : Ready Try.prog tyTab [(154, g_run_sum), (155, g_run_least), (156, g_run_most)] [] [] := ⟨consG2 run_sum_ok (consG2 run_least_ok (consG2 run_most_ok (noneG2))), noneI2, noneF2⟩
structure S.told2_T where
  x0 : Int
  x1 : Int
  x2 : Int
  x3 : Int
  x4 : Int
  x5 : Int
  x6 : Bool
  deriving Inhabited
def S.told2_R (a0_3 : Int) (a0_4 : Int) (a1_0 : Int) (a1_1 : Int) (a1_2 : Int) (a1_3 : Int) (a1_4 : Int) (a1_5 : Int) (a1_6 : Bool) (a2_2 : List (Ty .val)) : DT S.told2_T :=
let y0 : Int := xwrap IntKind.i64 (a1_4 + 1)
let y1 : Int := (↑a2_2.length : Int)
let y2 : Bool := xdec (0 ≤ a0_4) && xdec (a0_4 < y1)
let y3 : Ty ET.val := a2_2.getD a0_4.toNat (dflt ET.val)
let y4 : Int := (↑4 : Int)
let y5 : Bool := xdec (0 ≤ 2) && xdec (2 < y4)
let y6 : Bool := xeqI y0 1
let y7 : Bool := xneI 2 1
let y8 : Int := y3.n
let y9 : S.run_least_T := S.run_least_o y8 y8
let y10 : Int := y9.x0
let y11 : Bool := xnot y9.x1
let y12 : S.run_least_T := S.run_least_o a1_5 y8
let y13 : Int := y12.x0
let y14 : Bool := xnot y12.x1
let y15 : S.run_most_T := S.run_most_o y8 y8
let y16 : Int := y15.x0
let y17 : S.run_most_T := S.run_most_o a1_5 y8
let y18 : Int := y17.x0
let y19 : Bool := xnot y17.x1
(.br (xneI a1_2 a0_3)
(.leaf ⟨a1_0, a1_1, a1_2, a1_3, a1_4, a1_5, a1_6⟩)
(.br (xeqI 2 0)
(.leaf ⟨a1_0, a1_1, a1_2, a1_3, y0, y0, a1_6⟩)
(.br (xdec (a0_4 < 0))
(.leaf ⟨a1_0, a1_1, a1_2, a1_3, y0, a1_5, true⟩)
(.br (xdec (a0_4 ≥ y1))
(.leaf ⟨a1_0, a1_1, a1_2, a1_3, y0, a1_5, true⟩)
(.br (y2)
(.br (xneI y3.kind 0)
(.leaf ⟨a1_0, a1_1, a1_2, a1_3, y0, a1_5, true⟩)
(.br (y2)
(.br (xdec (0 ≤ 3) && xdec (3 < y4))
(.br (xeqI 2 1)
(.br (y5)
(.br (y6)
(.br (y7)
(.br (a1_6)
(.leaf ⟨a1_0, a1_1, a1_2, a1_3, y0, y10, true⟩)
(.leaf ⟨a1_0, a1_1, a1_2, a1_3, y0, y10, y11⟩))
(.br (a1_6)
(.leaf ⟨a1_0, a1_1, a1_2, a1_3, y0, y13, true⟩)
(.leaf ⟨a1_0, a1_1, a1_2, a1_3, y0, y13, y14⟩)))
(.br (a1_6)
(.leaf ⟨a1_0, a1_1, a1_2, a1_3, y0, y13, true⟩)
(.leaf ⟨a1_0, a1_1, a1_2, a1_3, y0, y13, y14⟩)))
.fail)
(.br (xeqI 2 2)
(.br (y5)
(.br (y6)
(.br (y7)
(.br (a1_6)
(.leaf ⟨a1_0, a1_1, a1_2, a1_3, y0, y10, true⟩)
(.leaf ⟨a1_0, a1_1, a1_2, a1_3, y0, y10, y11⟩))
(.br (a1_6)
(.leaf ⟨a1_0, a1_1, a1_2, a1_3, y0, y13, true⟩)
(.leaf ⟨a1_0, a1_1, a1_2, a1_3, y0, y13, y14⟩)))
(.br (a1_6)
(.leaf ⟨a1_0, a1_1, a1_2, a1_3, y0, y13, true⟩)
(.leaf ⟨a1_0, a1_1, a1_2, a1_3, y0, y13, y14⟩)))
.fail)
(.br (y6)
(.br (y7)
(.br (a1_6)
(.leaf ⟨a1_0, a1_1, a1_2, a1_3, y0, y16, true⟩)
(.leaf ⟨a1_0, a1_1, a1_2, a1_3, y0, y16, xnot y15.x1⟩))
(.br (a1_6)
(.leaf ⟨a1_0, a1_1, a1_2, a1_3, y0, y18, true⟩)
(.leaf ⟨a1_0, a1_1, a1_2, a1_3, y0, y18, y19⟩)))
(.br (a1_6)
(.leaf ⟨a1_0, a1_1, a1_2, a1_3, y0, y18, true⟩)
(.leaf ⟨a1_0, a1_1, a1_2, a1_3, y0, y18, y19⟩)))))
.fail)
.fail))
.fail)))))
def S.told2 (a0_3 : Int) (a0_4 : Int) (a1_0 : Int) (a1_1 : Int) (a1_2 : Int) (a1_3 : Int) (a1_4 : Int) (a1_5 : Int) (a1_6 : Bool) (a2_2 : List (Ty .val)) : Option S.told2_T := (S.told2_R a0_3 a0_4 a1_0 a1_1 a1_2 a1_3 a1_4 a1_5 a1_6 a2_2).run
def S.told2_is (a0_3 : Int) (a0_4 : Int) (a1_0 : Int) (a1_1 : Int) (a1_2 : Int) (a1_3 : Int) (a1_4 : Int) (a1_5 : Int) (a1_6 : Bool) (a2_2 : List (Ty .val)) : Bool := (S.told2 a0_3 a0_4 a1_0 a1_1 a1_2 a1_3 a1_4 a1_5 a1_6 a2_2).isSome
def S.told2_o (a0_3 : Int) (a0_4 : Int) (a1_0 : Int) (a1_1 : Int) (a1_2 : Int) (a1_3 : Int) (a1_4 : Int) (a1_5 : Int) (a1_6 : Bool) (a2_2 : List (Ty .val)) : S.told2_T := (S.told2 a0_3 a0_4 a1_0 a1_1 a1_2 a1_3 a1_4 a1_5 a1_6 a2_2).getD default
def ret_told2 (b : Bool) (r : S.told2_T) : Ret := ⟨b, none, [(true,
    [C.d (.sc (.int .i64 r.x0)), C.d (.sc (.int .i64 r.x1)), C.d (.sc (.int .i64 r.x2)), C.d (.sc (.int .i64 r.x3)),
      C.d (.sc (.int .i64 r.x4)), C.d (.sc (.int .i64 r.x5)), C.d (.sc (.bool r.x6))])]⟩
def g_told2 : Con
  | [(true, [.sl a0_0n a0_0f .step a0_0, .sc (.int .i64 a0_1), .sc (.int .i64 2), .sc (.int .i64 a0_3), .sc (.int .i64 a0_4)]), (true, [.sc (.int .i64 a1_0), .sc (.int .i64 a1_1), .sc (.int .i64 a1_2), .sc (.int .i64 a1_3), .sc (.int .i64 a1_4), .sc (.int .i64 a1_5), .sc (.bool a1_6)]), (true, [.sc (.str a2_0), .sc (.int .i64 a2_1), .sl a2_2n a2_2f .val a2_2])] => some (ret_told2 (S.told2_is a0_3 a0_4 a1_0 a1_1 a1_2 a1_3 a1_4 a1_5 a1_6 a2_2) (S.told2_o a0_3 a0_4 a1_0 a1_1 a1_2 a1_3 a1_4 a1_5 a1_6 a2_2))
  | _ => none
theorem raw_told2 (a0_0n : Option Bool) (a0_0f : Bool) (a0_0 : List (Ty .step)) (a0_1 : Int) (a0_3 : Int) (a0_4 : Int) (a1_0 : Int) (a1_1 : Int) (a1_2 : Int) (a1_3 : Int) (a1_4 : Int) (a1_5 : Int) (a1_6 : Bool) (a2_0 : ByteArray) (a2_1 : Int) (a2_2n : Option Bool) (a2_2f : Bool) (a2_2 : List (Ty .val)) : evR2 cx_told2 (hdI cx_told2 (find []) [] none 0) none Try.f130 130 none [(true, [.sl a0_0n a0_0f .step a0_0, .sc (.int .i64 a0_1), .sc (.int .i64 2), .sc (.int .i64 a0_3), .sc (.int .i64 a0_4)]), (true, [.sc (.int .i64 a1_0), .sc (.int .i64 a1_1), .sc (.int .i64 a1_2), .sc (.int .i64 a1_3), .sc (.int .i64 a1_4), .sc (.int .i64 a1_5), .sc (.bool a1_6)]), (true, [.sc (.str a2_0), .sc (.int .i64 a2_1), .sl a2_2n a2_2f .val a2_2])] some = (S.told2_R a0_3 a0_4 a1_0 a1_1 a1_2 a1_3 a1_4 a1_5 a1_6 a2_2).go (ret_told2 true) := by kernel_rfl
theorem bs_told2 : loopsIn Try.f130 [] = [] := by kernel_rfl
theorem told2_ok : Stands Try.prog tyTab 130 g_told2 := by
  refine stands3 (L := find []) (n := 0) (hints := []) (cx_ok rfl) rdy_told2 ⟨by kernel_rfl, by kernel_rfl, by kernel_rfl⟩ bs_told2 nilB (fun das r hG hr => ?_)
  unfold g_told2 at hG
  split at hG
  · rename_i a0_0n a0_0f a0_0 a0_1 a0_3 a0_4 a1_0 a1_1 a1_2 a1_3 a1_4 a1_5 a1_6 a2_0 a2_1 a2_2n a2_2f a2_2
    injection hG with hG; subst hG
    exact ⟨none, true, win default ((raw_told2 a0_0n a0_0f a0_0 a0_1 a0_3 a0_4 a1_0 a1_1 a1_2 a1_3 a1_4 a1_5 a1_6 a2_0 a2_1 a2_2n a2_2f a2_2).trans (DT.go_run _ _)) hr⟩
  · cases hG
end
end Go.Eng
