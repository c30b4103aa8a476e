/- Contracts, laid by program. -/
import Derived.Test.YtbjeikmkngcjlaaZG12
set_option linter.unusedVariables false
set_option linter.unusedSimpArgs false
namespace Go.Eng
noncomputable section
open Go Go.Eng Go.Proofs Go.Eng.Tab
abbrev cx_law12_ModelEach : Cx := mkCx2 tyTab [(50, g_law09_Few), (51, g_ref09_May), (60, g_law12_Log), (72, g_law12_awake), (76, g_model_One), (77, g_model_Live)] [] [(27, 13, { keep := [1, 2, 3, 11, 13], acc := [] })] []
theorem rdy_law12_ModelEach : Ready Try.prog tyTab [(50, g_law09_Few), (51, g_ref09_May), (60, g_law12_Log), (72, g_law12_awake), (76, g_model_One), (77, g_model_Live)] [] [] := ⟨consG2 law09_Few_ok (consG2 ref09_May_ok (consG2 law12_Log_ok (consG2 law12_awake_ok (consG2 model_One_ok (consG2 model_Live_ok (noneG2)))))), noneI2, noneF2⟩
structure S.law12_ModelEach_13_V where
  t_13_0 : Int
def S.law12_ModelEach_13_R (qA : List (Ty .evt)) (qB : Int) (qC : List (Ty .step)) (qD : Int) (qE : Int) (qF : Int) (qG : Int) (qH : Int) (v : S.law12_ModelEach_13_V) : DT (Option Nat × S.law12_ModelEach_13_V) :=
(.br (xdec (v.t_13_0 < qH))
(.br (S.model_Live_is qC qD qE qF qG qA qB v.t_13_0)
(.br (xnot (S.model_Live_o qC qD qE qF qG qA qB v.t_13_0).x0)
(.leaf (some 0, v))
(.leaf (none, ⟨xwrap IntKind.i64 (v.t_13_0 + 1)⟩)))
.fail)
(.leaf (some 1, v)))
def S.law12_ModelEach_13_r (qA : List (Ty .evt)) (qB : Int) (qC : List (Ty .step)) (qD : Int) (qE : Int) (qF : Int) (qG : Int) (qH : Int) (v : S.law12_ModelEach_13_V) : Option (Option Nat × S.law12_ModelEach_13_V) := (S.law12_ModelEach_13_R qA qB qC qD qE qF qG qH v).run
def S.law12_ModelEach_13_j (qA : List (Ty .evt)) (qB : Int) (qC : List (Ty .step)) (qD : Int) (qE : Int) (qF : Int) (qG : Int) (qH : Int) (v : S.law12_ModelEach_13_V) (j : Nat) : Bool := Lp_j (S.law12_ModelEach_13_r qA qB qC qD qE qF qG qH) v j
def S.law12_ModelEach_13_v (qA : List (Ty .evt)) (qB : Int) (qC : List (Ty .step)) (qD : Int) (qE : Int) (qF : Int) (qG : Int) (qH : Int) (v : S.law12_ModelEach_13_V) : S.law12_ModelEach_13_V := Lp_v (S.law12_ModelEach_13_r qA qB qC qD qE qF qG qH) v
def mk_law12_ModelEach_13 (qI : Option Bool) (qJ : Bool) (qA : List (Ty .evt)) (qB : Int) (qK : Option Bool) (qL : Bool) (qC : List (Ty .step)) (qD : Int) (qE : Int) (qF : Int) (qG : Int) (qM : Int) (qH : Int) (qN : Int) (qO : Bool) (v : S.law12_ModelEach_13_V) : St := ⟨[V.any, V.v false [C.d (.sl qI qJ ET.evt qA)], V.v false [C.d (.sc (.int .i64 qB))], V.v false [C.ptr 0 0], V.any, V.any, V.any, V.any, V.any, V.any,
  V.any, V.v false [C.ptr 44 0], V.any, V.v false [C.d (.sc (.int .i64 v.t_13_0))], V.any, V.any, V.any, V.any, V.any, V.any, V.any, V.any, V.any, V.any, V.any, V.any,
  V.any, V.any, V.any, V.any, V.any, V.any, V.any, V.any, V.any, V.any, V.any, V.any, V.any, V.any, V.any, V.any, V.any, V.any, V.any, V.any, V.any, V.any, V.any, V.any, V.any,
  V.any, V.any, V.any, V.any, V.any, V.any, V.any, V.any, V.any, V.any, V.any, V.any, V.any, V.any, V.any, V.any, V.any, V.any, V.any, V.any, V.any, V.any, V.any, V.any, V.any,
  V.any, V.any, V.any, V.any, V.any, V.any, V.any, V.any, V.any, V.any, V.any, V.any, V.any, V.any, V.any, V.any, V.any, V.any, V.any, V.any, V.any, V.any, V.any, V.any, V.any,
  V.any, V.any, V.any, V.any], [some
    (Blk.box 45
      [C.d (.sl qK qL ET.step qC), C.d (.sc (.int .i64 qD)), C.d (.sc (.int .i64 qE)), C.d (.sc (.int .i64 qF)),
        C.d (.sc (.int .i64 qG))]),
  none, none, none, none, none, none, none, none, none, none, none, none, none, none, none, none, none, none, none, none, none, none, none, none, none, none, none, none, none,
  none, none, none, none, none, none, none, none, none, none, none, none, none, none,
  some (Blk.box 81 [C.d (.sc (.int .i64 qM)), C.d (.sc (.int .i64 qH)), C.d (.sc (.int .i64 qN)), C.d (.sc (.bool qO))]), none,
  none, none, none, none, none, none, none, none, none, none, none, none, none, none, none, none, none, none, none, none, none, none, none, none, none, none, none, none, none,
  none, none, none, none, none, none, none, none, none, none], 0⟩
def ex_law12_ModelEach_13 (qI : Option Bool) (qJ : Bool) (qA : List (Ty .evt)) (qB : Int) (qK : Option Bool) (qL : Bool) (qC : List (Ty .step)) (qD : Int) (qE : Int) (qF : Int) (qG : Int) (qM : Int) (qH : Int) (qN : Int) (qO : Bool) (j : Nat) (v : S.law12_ModelEach_13_V) : Ex × St := match j with
  | 0 => (Ex.ret, ⟨[V.any, V.any, V.any, V.any, V.any, V.any, V.v false [C.d (.sc (.bool false))], V.any, V.any, V.any, V.any, V.any, V.any, V.any, V.any, V.any, V.any, V.any, V.any, V.any, V.any,
  V.any, V.any, V.any, V.any, V.any, V.any, V.any, V.any, V.any, V.any, V.any, V.any, V.any, V.any, V.any, V.any, V.any, V.any, V.any, V.any, V.any, V.any, V.any, V.any, V.any,
  V.any, V.any, V.any, V.any, V.any, V.any, V.any, V.any, V.any, V.any, V.any, V.any, V.any, V.any, V.any, V.any, V.any, V.any, V.any, V.any, V.any, V.any, V.any, V.any, V.any,
  V.any, V.any, V.any, V.any, V.any, V.any, V.any, V.any, V.any, V.any, V.any, V.any, V.any, V.any, V.any, V.any, V.any, V.any, V.any, V.any, V.any, V.any, V.any, V.any, V.any,
  V.any, V.any, V.any, V.any, V.any, V.any, V.any, V.any, V.any], [some
    (Blk.box 45
      [C.d (.sl qK qL ET.step qC), C.d (.sc (.int .i64 qD)), C.d (.sc (.int .i64 qE)), C.d (.sc (.int .i64 qF)),
        C.d (.sc (.int .i64 qG))]),
  none, none, none, none, none, none, none, none, none, none, none, none, none, none, none, none, none, none, none, none, none, none, none, none, none, none, none, none, none,
  none, none, none, none, none, none, none, none, none, none, none, none, none, none,
  some (Blk.box 81 [C.d (.sc (.int .i64 qM)), C.d (.sc (.int .i64 qH)), C.d (.sc (.int .i64 qN)), C.d (.sc (.bool qO))]), none,
  none, none, none, none, none, none, none, none, none, none, none, none, none, none, none, none, none, none, none, none, none, none, none, none, none, none, none, none, none,
  none, none, none, none, none, none, none, none, none, none, none, none, none, none, none, none, none, none, none, none, none], 0⟩)
  | 1 => (Ex.exit 0, ⟨[V.any, V.any, V.any, V.any, V.any, V.any, V.any, V.any, V.any, V.any, V.any, V.any, V.any, V.any, V.any, V.any, V.any, V.any, V.any, V.any, V.any, V.any, V.any, V.any, V.any,
  V.any, V.any, V.any, V.any, V.any, V.any, V.any, V.any, V.any, V.any, V.any, V.any, V.any, V.any, V.any, V.any, V.any, V.any, V.any, V.any, V.any, V.any, V.any, V.any, V.any,
  V.any, V.any, V.any, V.any, V.any, V.any, V.any, V.any, V.any, V.any, V.any, V.any, V.any, V.any, V.any, V.any, V.any, V.any, V.any, V.any, V.any, V.any, V.any, V.any, V.any,
  V.any, V.any, V.any, V.any, V.any, V.any, V.any, V.any, V.any, V.any, V.any, V.any, V.any, V.any, V.any, V.any, V.any, V.any, V.any, V.any, V.any, V.any, V.any, V.any, V.any,
  V.any, V.any, V.any, V.any, V.any], [some
    (Blk.box 45
      [C.d (.sl qK qL ET.step qC), C.d (.sc (.int .i64 qD)), C.d (.sc (.int .i64 qE)), C.d (.sc (.int .i64 qF)),
        C.d (.sc (.int .i64 qG))]),
  none, none, none, none, none, none, none, none, none, none, none, none, none, none, none, none, none, none, none, none, none, none, none, none, none, none, none, none, none,
  none, none, none, none, none, none, none, none, none, none, none, none, none, none,
  some (Blk.box 81 [C.d (.sc (.int .i64 qM)), C.d (.sc (.int .i64 qH)), C.d (.sc (.int .i64 qN)), C.d (.sc (.bool qO))]), none,
  none, none, none, none, none, none, none, none, none, none, none, none, none, none, none, none, none, none, none, none, none, none, none, none, none, none, none, none, none,
  none, none, none, none, none, none, none, none, none, none, none, none, none, none], 0⟩)
  | _ => (.ret, ⟨[], [], 0⟩)
def T1_law12_ModelEach_13 : V → V → V → V → V → Option Blk → Option Blk → Tree
  | V.v false [C.d (.sl qI qJ ET.evt qA)], V.v false [C.d (.sc (.int .i64 qB))], V.v false [C.ptr 0 0], V.v false [C.ptr 44 0], V.v false [C.d (.sc (.int .i64 t_13_0))], some (Blk.box 45 [C.d (.sl qK qL ET.step qC), C.d (.sc (.int .i64 qD)), C.d (.sc (.int .i64 qE)), C.d (.sc (.int .i64 qF)), C.d (.sc (.int .i64 qG))]), some (Blk.box 81 [C.d (.sc (.int .i64 qM)), C.d (.sc (.int .i64 qH)), C.d (.sc (.int .i64 qN)), C.d (.sc (.bool qO))]) => exT (fun j => ex_law12_ModelEach_13 qI qJ qA qB qK qL qC qD qE qF qG qM qH qN qO j (S.law12_ModelEach_13_v qA qB qC qD qE qF qG qH ⟨t_13_0⟩)) (S.law12_ModelEach_13_j qA qB qC qD qE qF qG qH ⟨t_13_0⟩) [0, 1]
  | _, _, _, _, _, _, _ => .bad
def T_law12_ModelEach_13 (st : St) : Tree := bif okSt 105 85 0 [0, 44] st then T1_law12_ModelEach_13 (st.env.getD 1 .any) (st.env.getD 2 .any) (st.env.getD 3 .any) (st.env.getD 11 .any) (st.env.getD 13 .any) (lk st.heap 0) (lk st.heap 44) else .bad
def b_law12_ModelEach_13 : Code := loopBy Try.f27 13
theorem rnd_law12_ModelEach_13 (qI : Option Bool) (qJ : Bool) (qA : List (Ty .evt)) (qB : Int) (qK : Option Bool) (qL : Bool) (qC : List (Ty .step)) (qD : Int) (qE : Int) (qF : Int) (qG : Int) (qM : Int) (qH : Int) (qN : Int) (qO : Bool) (v : S.law12_ModelEach_13_V) : round2 cx_law12_ModelEach (hdI cx_law12_ModelEach (find []) [] none 0) 27 b_law12_ModelEach_13 [] 85 [6] (mk_law12_ModelEach_13 qI qJ qA qB qK qL qC qD qE qF qG qM qH qN qO v) = (S.law12_ModelEach_13_R qA qB qC qD qE qF qG qH v).go (roundOut (mk_law12_ModelEach_13 qI qJ qA qB qK qL qC qD qE qF qG qM qH qN qO) (ex_law12_ModelEach_13 qI qJ qA qB qK qL qC qD qE qF qG qM qH qN qO)) := by kernel_rfl
theorem bs_law12_ModelEach_13 : loopsOf b_law12_ModelEach_13 ++ loopsInl [] = [] := by kernel_rfl
theorem ci_law12_ModelEach_13 (qI : Option Bool) (qJ : Bool) (qA : List (Ty .evt)) (qB : Int) (qK : Option Bool) (qL : Bool) (qC : List (Ty .step)) (qD : Int) (qE : Int) (qF : Int) (qG : Int) (qM : Int) (qH : Int) (qN : Int) (qO : Bool) : ∀ v j v2, Lp (S.law12_ModelEach_13_r qA qB qC qD qE qF qG qH) v = some (j, v2) → Circles Try.prog cx_law12_ModelEach b_law12_ModelEach_13 (mk_law12_ModelEach_13 qI qJ qA qB qK qL qC qD qE qF qG qM qH qN qO v) (ex_law12_ModelEach_13 qI qJ qA qB qK qL qC qD qE qF qG qM qH qN qO j v2).1 (ex_law12_ModelEach_13 qI qJ qA qB qK qL qC qD qE qF qG qM qH qN qO j v2).2 :=
  loop_ok2 (L := find []) (n := 0) (hints := [(27, 13, { keep := [1, 2, 3, 11, 13], acc := [] })]) (cx_ok rfl) rdy_law12_ModelEach bs_law12_ModelEach_13 nilB (fun v => (rnd_law12_ModelEach_13 qI qJ qA qB qK qL qC qD qE qF qG qM qH qN qO v).trans (DT.go_run _ _)) (by intro j v; unfold ex_law12_ModelEach_13; split <;> rfl)
theorem mke_law12_ModelEach_13 (qI : Option Bool) (qJ : Bool) (qA : List (Ty .evt)) (qB : Int) (qK : Option Bool) (qL : Bool) (qC : List (Ty .step)) (qD : Int) (qE : Int) (qF : Int) (qG : Int) (qM : Int) (qH : Int) (qN : Int) (qO : Bool) (v : S.law12_ModelEach_13_V) : mk_law12_ModelEach_13 qI qJ qA qB qK qL qC qD qE qF qG qM qH qN qO v = ⟨envOf 105 [(1, V.v false [C.d (.sl qI qJ ET.evt qA)]), (2, V.v false [C.d (.sc (.int .i64 qB))]), (3, V.v false [C.ptr 0 0]), (11, V.v false [C.ptr 44 0]), (13, V.v false [C.d (.sc (.int .i64 v.t_13_0))])], heapOf 85 [(0, some
  (Blk.box 45
    [C.d (.sl qK qL ET.step qC), C.d (.sc (.int .i64 qD)), C.d (.sc (.int .i64 qE)), C.d (.sc (.int .i64 qF)),
      C.d (.sc (.int .i64 qG))])), (44, some (Blk.box 81 [C.d (.sc (.int .i64 qM)), C.d (.sc (.int .i64 qH)), C.d (.sc (.int .i64 qN)), C.d (.sc (.bool qO))]))], 0⟩ := by kernel_rfl
theorem lo1_law12_ModelEach_13 (e1 : V) (e2 : V) (e3 : V) (e11 : V) (e13 : V) (h0 : Option Blk) (h44 : Option Blk) e st2 (h : (T1_law12_ModelEach_13 e1 e2 e3 e11 e13 h0 h44).eval = some (e, st2)) : Circles Try.prog cx_law12_ModelEach b_law12_ModelEach_13 ⟨envOf 105 [(1, e1), (2, e2), (3, e3), (11, e11), (13, e13)], heapOf 85 [(0, h0), (44, h44)], 0⟩ e st2 := by
  unfold T1_law12_ModelEach_13 at h
  split at h
  · have := loop_tree (mk := mk_law12_ModelEach_13 _ _ _ _ _ _ _ _ _ _ _ _ _ _ _) (ci_law12_ModelEach_13 _ _ _ _ _ _ _ _ _ _ _ _ _ _ _) _ _ e st2 h
    rw [mke_law12_ModelEach_13] at this
    exact this
  · cases h
theorem lok_law12_ModelEach_13 : LoopOk Try.prog cx_law12_ModelEach b_law12_ModelEach_13 T_law12_ModelEach_13 := by
  intro st e st2 h
  unfold T_law12_ModelEach_13 at h
  cases hk : okSt 105 85 0 [0, 44] st with
  | false => rw [hk] at h; cases h
  | true =>
    rw [hk] at h
    exact circles_keep (ks := [1, 2, 3, 11, 13]) hk (lo1_law12_ModelEach_13 _ _ _ _ _ _ _ e st2 h)
structure S.law12_ModelEach_T where
  x0 : Bool
  deriving Inhabited
def S.law12_ModelEach_R (a0_0 : List (Ty .step)) (a0_1 : Int) (a0_2 : Int) (a0_3 : Int) (a0_4 : Int) (a1 : List (Ty .evt)) (a2 : Int) : DT S.law12_ModelEach_T :=
let y0 : Int := (↑a1.length : Int)
let y1 : S.model_One_T := S.model_One_o a0_0 a0_1 a0_2 a0_3 a0_4 a1 a2
let y2 : Int := y1.x0
let y3 : Int := y1.x1
let y4 : Int := xwrap IntKind.i64 (y0 - 1)
(.br (S.law12_awake_is)
(.br (S.law09_Few_is a0_0)
(.br (S.law12_Log_is a1 25)
(.br (S.ref09_May_is a0_0 a0_1 a0_2 a0_3 a0_4)
(.br (xnot S.law12_awake_o.x0)
(.leaf ⟨S.law12_awake_o.x0⟩)
(.br (xnot (S.law09_Few_o a0_0).x0)
(.leaf ⟨S.law12_awake_o.x0⟩)
(.br (xnot (S.law12_Log_o a1 25).x0)
(.leaf ⟨S.law12_awake_o.x0⟩)
(.br (xnot (S.ref09_May_o a0_0 a0_1 a0_2 a0_3 a0_4).x0)
(.leaf ⟨S.law12_awake_o.x0⟩)
(.br (xdec (a2 < 0))
(.leaf ⟨S.law12_awake_o.x0⟩)
(.br (xdec (a2 ≥ y0))
(.leaf ⟨S.law12_awake_o.x0⟩)
(.br (S.model_One_is a0_0 a0_1 a0_2 a0_3 a0_4 a1 a2)
(.br (xnot y1.x4)
(.leaf ⟨xeqI y2 0 && (xeqI y3 0 && (xeqI y1.x2 0 && xeqB y1.x3 false))⟩)
(.br (xneI y2 a2)
(.leaf ⟨false⟩)
(.br (xdec (y3 < a2))
(.leaf ⟨false⟩)
(.br (xdec (y3 ≥ y0))
(.leaf ⟨false⟩)
(.br (S.model_Live_is a0_0 a0_1 a0_2 a0_3 a0_4 a1 a2 y3)
(.br ((S.model_Live_o a0_0 a0_1 a0_2 a0_3 a0_4 a1 a2 y3).x0)
(.leaf ⟨false⟩)
(.br (S.model_Live_is a0_0 a0_1 a0_2 a0_3 a0_4 a1 a2 y4)
(.br ((S.model_Live_o a0_0 a0_1 a0_2 a0_3 a0_4 a1 a2 y4).x0)
(.leaf ⟨false⟩)
(.br (S.law12_ModelEach_13_j a1 a2 a0_0 a0_1 a0_2 a0_3 a0_4 y3 { t_13_0 := a2 : S.law12_ModelEach_13_V } 0)
(.leaf ⟨false⟩)
(.br (S.law12_ModelEach_13_j a1 a2 a0_0 a0_1 a0_2 a0_3 a0_4 y3 { t_13_0 := a2 : S.law12_ModelEach_13_V } 1)
(.leaf ⟨true⟩)
.fail)))
.fail))
.fail)))))
.fail)))))))
.fail)
.fail)
.fail)
.fail)
def S.law12_ModelEach (a0_0 : List (Ty .step)) (a0_1 : Int) (a0_2 : Int) (a0_3 : Int) (a0_4 : Int) (a1 : List (Ty .evt)) (a2 : Int) : Option S.law12_ModelEach_T := (S.law12_ModelEach_R a0_0 a0_1 a0_2 a0_3 a0_4 a1 a2).run
def S.law12_ModelEach_is (a0_0 : List (Ty .step)) (a0_1 : Int) (a0_2 : Int) (a0_3 : Int) (a0_4 : Int) (a1 : List (Ty .evt)) (a2 : Int) : Bool := (S.law12_ModelEach a0_0 a0_1 a0_2 a0_3 a0_4 a1 a2).isSome
def S.law12_ModelEach_o (a0_0 : List (Ty .step)) (a0_1 : Int) (a0_2 : Int) (a0_3 : Int) (a0_4 : Int) (a1 : List (Ty .evt)) (a2 : Int) : S.law12_ModelEach_T := (S.law12_ModelEach a0_0 a0_1 a0_2 a0_3 a0_4 a1 a2).getD default
def ret_law12_ModelEach (b : Bool) (r : S.law12_ModelEach_T) : Ret := ⟨b, none, [(false, [C.d (.sc (.bool r.x0))])]⟩
def g_law12_ModelEach : Con
  | [(true, [.sl a0_0n a0_0f .step a0_0, .sc (.int .i64 a0_1), .sc (.int .i64 a0_2), .sc (.int .i64 a0_3), .sc (.int .i64 a0_4)]), (false, [.sl a1n a1f .evt a1]), (false, [.sc (.int .i64 a2)])] => some (ret_law12_ModelEach (S.law12_ModelEach_is a0_0 a0_1 a0_2 a0_3 a0_4 a1 a2) (S.law12_ModelEach_o a0_0 a0_1 a0_2 a0_3 a0_4 a1 a2))
  | _ => none
theorem raw_law12_ModelEach (a0_0n : Option Bool) (a0_0f : Bool) (a0_0 : List (Ty .step)) (a0_1 : Int) (a0_2 : Int) (a0_3 : Int) (a0_4 : Int) (a1n : Option Bool) (a1f : Bool) (a1 : List (Ty .evt)) (a2 : Int) : evR2 cx_law12_ModelEach (hdI cx_law12_ModelEach (find [(13, T_law12_ModelEach_13)]) [] none 0) none Try.f27 27 none [(true, [.sl a0_0n a0_0f .step a0_0, .sc (.int .i64 a0_1), .sc (.int .i64 a0_2), .sc (.int .i64 a0_3), .sc (.int .i64 a0_4)]), (false, [.sl a1n a1f .evt a1]), (false, [.sc (.int .i64 a2)])] some = (S.law12_ModelEach_R a0_0 a0_1 a0_2 a0_3 a0_4 a1 a2).go (ret_law12_ModelEach true) := by kernel_rfl
theorem bs_law12_ModelEach : loopsIn Try.f27 [] = [b_law12_ModelEach_13] := by kernel_rfl
theorem law12_ModelEach_ok : Stands Try.prog tyTab 27 g_law12_ModelEach := by
  refine stands3 (L := find [(13, T_law12_ModelEach_13)]) (n := 0) (hints := [(27, 13, { keep := [1, 2, 3, 11, 13], acc := [] })]) (cx_ok rfl) rdy_law12_ModelEach ⟨by kernel_rfl, by kernel_rfl, by kernel_rfl⟩ bs_law12_ModelEach (consB (fun T h => by have e : T_law12_ModelEach_13 = T := Option.some.inj (show some T_law12_ModelEach_13 = some T from h); exact e ▸ lok_law12_ModelEach_13) nilB) (fun das r hG hr => ?_)
  unfold g_law12_ModelEach at hG
  split at hG
  · rename_i a0_0n a0_0f a0_0 a0_1 a0_2 a0_3 a0_4 a1n a1f a1 a2
    injection hG with hG; subst hG
    exact ⟨none, true, win default ((raw_law12_ModelEach a0_0n a0_0f a0_0 a0_1 a0_2 a0_3 a0_4 a1n a1f a1 a2).trans (DT.go_run _ _)) hr⟩
  · cases hG
end
end Go.Eng
