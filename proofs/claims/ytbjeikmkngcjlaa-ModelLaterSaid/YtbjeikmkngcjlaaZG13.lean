/- Contracts, laid by program. -/
import Derived.Test.YtbjeikmkngcjlaaZG12
import Derived.Test.YtbjeikmkngcjlaaZE3
set_option maxHeartbeats 2000000
set_option maxRecDepth 10000
set_option linter.unusedVariables false
set_option linter.unusedSimpArgs false
namespace Go.Eng
noncomputable section
open Go Go.Eng Go.Proofs Go.Eng.Tab
abbrev cx_zqab : Cx := mkCx3 tyTab [(114, g_zqck)] [] [(179, 1, { keep := [0, 1, 2, 3, 10], acc := [] })] [] [] []
theorem rdy_zqab : Ready Try.prog tyTab [(114, g_zqck)] [] [] := ⟨consG2 zqck_ok (noneG2), noneI2, noneF2⟩
theorem prs_zqab : PrsOk Try.prog tyTab [] := noneP
structure S.zqab_1_V where
  t_10_0 : Int
  h_0 : List (Ty .mat)
def S.zqab_1_R (t_0_0l : Nat) (qA : Int) (qB : Int) (qC : Int) (v : S.zqab_1_V) : DT (Option Nat × S.zqab_1_V) :=
let y0 : Int := xwrap IntKind.i64 (qB + v.t_10_0)
let y1 : Int := (↑t_0_0l : Int)
let y2 : Bool := xdec (0 ≤ y0) && xdec (y0 < y1)
let y3 : Nat := 0 + y0.toNat
let y4 : Nat := v.h_0.length
let y5 : Int := xwrap IntKind.i64 (qA + v.t_10_0)
let y6 : Bool := xdec (0 ≤ y5) && xdec (y5 < y1)
let y7 : Nat := 0 + y5.toNat
let y8 : Bool := xdec (y7 < y4)
let y9 : Ty ET.mat := v.h_0.getD y3 (dflt ET.mat)
let y10 : List (Ty .mat) := v.h_0.set y7 { start := y9.start, fin := y9.fin, agg := y9.agg, bad := y9.bad : Mat }
let y11 : Ty ET.mat := v.h_0.getD y7 (dflt ET.mat)
(.br (xdec (v.t_10_0 < qC))
(.br (y2)
(.br (xdec (y3 < y4))
(.br (y6)
(.br (y8)
(.br (y6)
(.br (y8)
(.br (y2)
(.br (xdec (y3 < y10.length))
(.leaf (none, ⟨xwrap IntKind.i64 (v.t_10_0 + 1), y10.set y3 { start := y11.start, fin := y11.fin, agg := y11.agg, bad := y11.bad : Mat }⟩))
.fail)
.fail)
.fail)
.fail)
.fail)
.fail)
.fail)
.fail)
(.leaf (some 0, v)))
def S.zqab_1_r (t_0_0l : Nat) (qA : Int) (qB : Int) (qC : Int) (v : S.zqab_1_V) : Option (Option Nat × S.zqab_1_V) := (S.zqab_1_R t_0_0l qA qB qC v).run
def S.zqab_1_j (t_0_0l : Nat) (qA : Int) (qB : Int) (qC : Int) (v : S.zqab_1_V) (j : Nat) : Bool := Lp_j (S.zqab_1_r t_0_0l qA qB qC) v j
def S.zqab_1_v (t_0_0l : Nat) (qA : Int) (qB : Int) (qC : Int) (v : S.zqab_1_V) : S.zqab_1_V := Lp_v (S.zqab_1_r t_0_0l qA qB qC) v
def mk_zqab_1 (qD : Bool) (t_0_0l : Nat) (qA : Int) (qB : Int) (qC : Int) (v : S.zqab_1_V) : St := ⟨[V.v false [C.own 0 ET.mat qD 0 t_0_0l], V.v false [C.d (.sc (.int .i64 qA))], V.v false [C.d (.sc (.int .i64 qB))],
  V.v false [C.d (.sc (.int .i64 qC))], V.any, V.any, V.any, V.any, V.any, V.any, V.v false [C.d (.sc (.int .i64 v.t_10_0))], V.any, V.any, V.any, V.any,
  V.any, V.any, V.any, V.any, V.any, V.any, V.any, V.any, V.any, V.any, V.any, V.any, V.any, V.any, V.any, V.any, V.any, V.any, V.any, V.any, V.any, V.any, V.any], [some (Blk.arr 81 ET.mat v.h_0), none], 1⟩
def ex_zqab_1 (qD : Bool) (t_0_0l : Nat) (qA : Int) (qB : Int) (qC : Int) (j : Nat) (v : S.zqab_1_V) : Ex × St := match j with
  | 0 => (Ex.exit 0, ⟨[V.any, V.any, V.any, V.any, V.any, V.any, V.any, V.any, V.any, V.any, V.any, V.any, V.any, V.any, V.any, V.any, V.any, V.any, V.any, V.any, V.any, V.any, V.any, V.any, V.any,
  V.any, V.any, V.any, V.any, V.any, V.any, V.any, V.any, V.any, V.any, V.any, V.any, V.any], [some (Blk.arr 81 ET.mat v.h_0), none, none, none, none], 1⟩)
  | _ => (.ret, ⟨[], [], 0⟩)
def T1_zqab_1 : V → V → V → V → V → Option Blk → Tree
  | V.v false [C.own 0 ET.mat qD 0 t_0_0l], V.v false [C.d (.sc (.int .i64 qA))], V.v false [C.d (.sc (.int .i64 qB))], V.v false [C.d (.sc (.int .i64 qC))], V.v false [C.d (.sc (.int .i64 t_10_0))], some (Blk.arr 81 ET.mat h_0) => exT (fun j => ex_zqab_1 qD t_0_0l qA qB qC j (S.zqab_1_v t_0_0l qA qB qC ⟨t_10_0, h_0⟩)) (S.zqab_1_j t_0_0l qA qB qC ⟨t_10_0, h_0⟩) [0]
  | _, _, _, _, _, _ => .bad
def T_zqab_1 (st : St) : Tree := bif okSt 38 2 1 [0] st then T1_zqab_1 (st.env.getD 0 .any) (st.env.getD 1 .any) (st.env.getD 2 .any) (st.env.getD 3 .any) (st.env.getD 10 .any) (lk st.heap 0) else .bad
def b_zqab_1 : Code := loopBy Try.f179 1
theorem rnd_zqab_1 (qD : Bool) (t_0_0l : Nat) (qA : Int) (qB : Int) (qC : Int) (v : S.zqab_1_V) : round2 cx_zqab (hdI cx_zqab (find []) [] none 0) 179 b_zqab_1 [] 2 [] (mk_zqab_1 qD t_0_0l qA qB qC v) = (S.zqab_1_R t_0_0l qA qB qC v).go (roundOut (mk_zqab_1 qD t_0_0l qA qB qC) (ex_zqab_1 qD t_0_0l qA qB qC)) := by kernel_rfl
theorem bs_zqab_1 : loopsOf b_zqab_1 ++ loopsInl [] ++ loopsRf [] = [] := by kernel_rfl
theorem ci_zqab_1 (qD : Bool) (t_0_0l : Nat) (qA : Int) (qB : Int) (qC : Int) : ∀ v j v2, Lp (S.zqab_1_r t_0_0l qA qB qC) v = some (j, v2) → Circles Try.prog cx_zqab b_zqab_1 (mk_zqab_1 qD t_0_0l qA qB qC v) (ex_zqab_1 qD t_0_0l qA qB qC j v2).1 (ex_zqab_1 qD t_0_0l qA qB qC j v2).2 :=
  loop_ok3 (L := find []) (n := 0) (hints := [(179, 1, { keep := [0, 1, 2, 3, 10], acc := [] })]) (cx_ok rfl) rdy_zqab prs_zqab bs_zqab_1 nilB (fun v => (rnd_zqab_1 qD t_0_0l qA qB qC v).trans (DT.go_run _ _)) (by intro j v; unfold ex_zqab_1; split <;> rfl)
theorem mke_zqab_1 (qD : Bool) (t_0_0l : Nat) (qA : Int) (qB : Int) (qC : Int) (v : S.zqab_1_V) : mk_zqab_1 qD t_0_0l qA qB qC v = ⟨envOf 38 [(0, V.v false [C.own 0 ET.mat qD 0 t_0_0l]), (1, V.v false [C.d (.sc (.int .i64 qA))]), (2, V.v false [C.d (.sc (.int .i64 qB))]), (3, V.v false [C.d (.sc (.int .i64 qC))]), (10, V.v false [C.d (.sc (.int .i64 v.t_10_0))])], heapOf 2 [(0, some (Blk.arr 81 ET.mat v.h_0))], 1⟩ := by kernel_rfl
theorem lo1_zqab_1 (e0 : V) (e1 : V) (e2 : V) (e3 : V) (e10 : V) (h0 : Option Blk) e st2 (h : (T1_zqab_1 e0 e1 e2 e3 e10 h0).eval = some (e, st2)) : Circles Try.prog cx_zqab b_zqab_1 ⟨envOf 38 [(0, e0), (1, e1), (2, e2), (3, e3), (10, e10)], heapOf 2 [(0, h0)], 1⟩ e st2 := by
  unfold T1_zqab_1 at h
  split at h
  · have := loop_tree (mk := mk_zqab_1 _ _ _ _ _) (ci_zqab_1 _ _ _ _ _) _ _ e st2 h
    rw [mke_zqab_1] at this
    exact this
  · cases h
theorem lok_zqab_1 : LoopOk Try.prog cx_zqab b_zqab_1 T_zqab_1 := by
  intro st e st2 h
  unfold T_zqab_1 at h
  cases hk : okSt 38 2 1 [0] st with
  | false => rw [hk] at h; cases h
  | true =>
    rw [hk] at h
    exact circles_keep (ks := [0, 1, 2, 3, 10]) hk (lo1_zqab_1 _ _ _ _ _ _ e st2 h)
structure S.zqab_T where
  x0 : List (Ty .mat)
  deriving Inhabited
def S.zqab_R (a0 : List (Ty .mat)) (a1 : Int) (a2 : Int) (a3 : Int) : DT S.zqab_T :=
let y0 : Nat := a0.length
let y1 : S.zqab_1_V := { t_10_0 := 0, h_0 := a0 : S.zqab_1_V }
(.br (S.zqab_1_j y0 a1 a2 a3 y1 0)
(.leaf ⟨(S.zqab_1_v y0 a1 a2 a3 y1).h_0⟩)
.fail)
def S.zqab (a0 : List (Ty .mat)) (a1 : Int) (a2 : Int) (a3 : Int) : Option S.zqab_T := (S.zqab_R a0 a1 a2 a3).run
def S.zqab_is (a0 : List (Ty .mat)) (a1 : Int) (a2 : Int) (a3 : Int) : Bool := (S.zqab a0 a1 a2 a3).isSome
def S.zqab_o (a0 : List (Ty .mat)) (a1 : Int) (a2 : Int) (a3 : Int) : S.zqab_T := (S.zqab a0 a1 a2 a3).getD default
def ret_zqab (b : Bool) (r : S.zqab_T) : Ret := ⟨b, some (81, (⟨ET.mat, r.x0⟩ : (t : ET) × List (Ty t))), []⟩
def si_zqab (a0f : Bool) (a0 : List (Ty .mat)) : List DArg → Bool
  | [(false, [.sc (.int .i64 a1)]), (false, [.sc (.int .i64 a2)]), (false, [.sc (.int .i64 a3)]), (false, [.fn 114 [] []])] => S.zqab_is a0 a1 a2 a3
  | _ => false
def so_zqab (a0f : Bool) (a0 : List (Ty .mat)) : List DArg → List (Ty .mat)
  | [(false, [.sc (.int .i64 a1)]), (false, [.sc (.int .i64 a2)]), (false, [.sc (.int .i64 a3)]), (false, [.fn 114 [] []])] => (S.zqab_o a0 a1 a2 a3).x0
  | _ => a0
def p_zqab : Proc := rowProc 81 .mat si_zqab so_zqab
theorem raw_zqab (a0f : Bool) (a0 : List (Ty .mat)) (a1 : Int) (a2 : Int) (a3 : Int) : evP cx_zqab (hdI cx_zqab (find [(1, T_zqab_1)]) [] none 0) none Try.f179 179 (some 81) [(false, [.sl none a0f .mat a0]), (false, [.sc (.int .i64 a1)]), (false, [.sc (.int .i64 a2)]), (false, [.sc (.int .i64 a3)]), (false, [.fn 114 [] []])] some = (S.zqab_R a0 a1 a2 a3).go (ret_zqab true) := by kernel_rfl
theorem bs_zqab : loopsIn Try.f179 [] = [b_zqab_1] := by kernel_rfl
theorem zqab_ok : StandsP Try.prog tyTab 179 p_zqab := by
  refine standsP (L := find [(1, T_zqab_1)]) (n := 0) (hints := [(179, 1, { keep := [0, 1, 2, 3, 10], acc := [] })]) (cx_ok rfl) rdy_zqab prs_zqab ⟨by kernel_rfl, by kernel_rfl, by kernel_rfl⟩ bs_zqab (consB (fun T h => by have e : T_zqab_1 = T := Option.some.inj (show some T_zqab_1 = some T from h); exact e ▸ lok_zqab_1) nilB) (by kernel_rfl) rfl (fun a0f a0 ds h => ?_)
  unfold si_zqab at h
  split at h
  · rename_i a1 a2 a3
    exact ⟨true, win default ((raw_zqab a0f a0 a1 a2 a3).trans (DT.go_run _ _)) h⟩
  · cases h
abbrev cx_zqae : Cx := mkCx3 tyTab [(114, g_zqck)] [] [(171, 2, { keep := [0, 2, 4, 10, 11], acc := [] })] [] [] [(179, (Try.f179, p_zqab))]
theorem rdy_zqae : Ready Try.prog tyTab [(114, g_zqck)] [] [] := ⟨consG2 zqck_ok (noneG2), noneI2, noneF2⟩
theorem prs_zqae : PrsOk Try.prog tyTab [(179, (Try.f179, p_zqab))] := consP ⟨by kernel_rfl, by kernel_rfl, by kernel_rfl⟩ zqab_ok (noneP)
structure S.zqae_2_V where
  t_10_0 : Int
  t_11_0 : Int
  h_0 : List (Ty .mat)
def S.zqae_2_R (t_0_0l : Nat) (qB : Int) (v : S.zqae_2_V) : DT (Option Nat × S.zqae_2_V) :=
let y0 : Bool := xdec (t_0_0l = v.h_0.length)
let y1 : Int := xwrap IntKind.i64 (qB - v.t_10_0)
let y2 : Int := xwrap IntKind.i64 (xwrap IntKind.i64 (qB + v.t_11_0) - v.t_10_0)
(.br (xneI v.t_10_0 v.t_11_0)
(.br (xdec (v.t_10_0 > v.t_11_0))
(.br (y0 && S.zqab_is v.h_0 y1 qB v.t_11_0)
(.leaf (none, ⟨xwrap IntKind.i64 (v.t_10_0 - v.t_11_0), v.t_11_0, (S.zqab_o v.h_0 y1 qB v.t_11_0).x0⟩))
.fail)
(.br (y0 && S.zqab_is v.h_0 y1 y2 v.t_10_0)
(.leaf (none, ⟨v.t_10_0, xwrap IntKind.i64 (v.t_11_0 - v.t_10_0), (S.zqab_o v.h_0 y1 y2 v.t_10_0).x0⟩))
.fail))
(.leaf (some 0, v)))
def S.zqae_2_r (t_0_0l : Nat) (qB : Int) (v : S.zqae_2_V) : Option (Option Nat × S.zqae_2_V) := (S.zqae_2_R t_0_0l qB v).run
def S.zqae_2_j (t_0_0l : Nat) (qB : Int) (v : S.zqae_2_V) (j : Nat) : Bool := Lp_j (S.zqae_2_r t_0_0l qB) v j
def S.zqae_2_v (t_0_0l : Nat) (qB : Int) (v : S.zqae_2_V) : S.zqae_2_V := Lp_v (S.zqae_2_r t_0_0l qB) v
def mk_zqae_2 (qD : Bool) (t_0_0l : Nat) (qB : Int) (v : S.zqae_2_V) : St := ⟨[V.v false [C.own 0 ET.mat qD 0 t_0_0l], V.any, V.v false [C.d (.sc (.int .i64 qB))], V.any, V.v false [C.d (D.fn 114 [] [])], V.any, V.any, V.any, V.any, V.any,
  V.v false [C.d (.sc (.int .i64 v.t_10_0))], V.v false [C.d (.sc (.int .i64 v.t_11_0))], V.any, V.any, V.any, V.any, V.any, V.any, V.any, V.any, V.any, V.any,
  V.any, V.any, V.any, V.any, V.any, V.any, V.any, V.any, V.any, V.any, V.any, V.any, V.any, V.any, V.any, V.any, V.any, V.any, V.any, V.any, V.any, V.any, V.any, V.any, V.any,
  V.any, V.any, V.any, V.any, V.any, V.any, V.any, V.any, V.any, V.any, V.any], [some (Blk.arr 81 ET.mat v.h_0), none, none, none, none, none, none, none, none], 1⟩
def ex_zqae_2 (qD : Bool) (t_0_0l : Nat) (qB : Int) (j : Nat) (v : S.zqae_2_V) : Ex × St := match j with
  | 0 => (Ex.exit 0, ⟨[V.v false [C.own 0 ET.mat qD 0 t_0_0l], V.any, V.v false [C.d (.sc (.int .i64 qB))], V.any, V.v false [C.d (D.fn 114 [] [])], V.any, V.any, V.any, V.any, V.any,
  V.v false [C.d (.sc (.int .i64 v.t_10_0))], V.any, V.any, V.any, V.any, V.any, V.any, V.any, V.any, V.any, V.any, V.any, V.any, V.any, V.any, V.any, V.any, V.any,
  V.any, V.any, V.any, V.any, V.any, V.any, V.any, V.any, V.any, V.any, V.any, V.any, V.any, V.any, V.any, V.any, V.any, V.any, V.any, V.any, V.any, V.any, V.any, V.any, V.any,
  V.any, V.any, V.any, V.any, V.any], [some (Blk.arr 81 ET.mat v.h_0), none, none, none, none, none, none, none, none, none, none, none], 1⟩)
  | _ => (.ret, ⟨[], [], 0⟩)
def T1_zqae_2 : V → V → V → V → V → Option Blk → Tree
  | V.v false [C.own 0 ET.mat qD 0 t_0_0l], V.v false [C.d (.sc (.int .i64 qB))], V.v false [C.d (D.fn 114 [] [])], V.v false [C.d (.sc (.int .i64 t_10_0))], V.v false [C.d (.sc (.int .i64 t_11_0))], some (Blk.arr 81 ET.mat h_0) => exT (fun j => ex_zqae_2 qD t_0_0l qB j (S.zqae_2_v t_0_0l qB ⟨t_10_0, t_11_0, h_0⟩)) (S.zqae_2_j t_0_0l qB ⟨t_10_0, t_11_0, h_0⟩) [0]
  | _, _, _, _, _, _ => .bad
def T_zqae_2 (st : St) : Tree := bif okSt 58 9 1 [0] st then T1_zqae_2 (st.env.getD 0 .any) (st.env.getD 2 .any) (st.env.getD 4 .any) (st.env.getD 10 .any) (st.env.getD 11 .any) (lk st.heap 0) else .bad
def b_zqae_2 : Code := loopBy Try.f171 2
theorem rnd_zqae_2 (qD : Bool) (t_0_0l : Nat) (qB : Int) (v : S.zqae_2_V) : round2 cx_zqae (hdI cx_zqae (find []) [] none 3) 171 b_zqae_2 [] 9 [0, 2, 4, 10] (mk_zqae_2 qD t_0_0l qB v) = (S.zqae_2_R t_0_0l qB v).go (roundOut (mk_zqae_2 qD t_0_0l qB) (ex_zqae_2 qD t_0_0l qB)) := by kernel_rfl
theorem bs_zqae_2 : loopsOf b_zqae_2 ++ loopsInl [] ++ loopsRf [] = [] := by kernel_rfl
theorem ci_zqae_2 (qD : Bool) (t_0_0l : Nat) (qB : Int) : ∀ v j v2, Lp (S.zqae_2_r t_0_0l qB) v = some (j, v2) → Circles Try.prog cx_zqae b_zqae_2 (mk_zqae_2 qD t_0_0l qB v) (ex_zqae_2 qD t_0_0l qB j v2).1 (ex_zqae_2 qD t_0_0l qB j v2).2 :=
  loop_ok3 (L := find []) (n := 3) (hints := [(171, 2, { keep := [0, 2, 4, 10, 11], acc := [] })]) (cx_ok rfl) rdy_zqae prs_zqae bs_zqae_2 nilB (fun v => (rnd_zqae_2 qD t_0_0l qB v).trans (DT.go_run _ _)) (by intro j v; unfold ex_zqae_2; split <;> rfl)
theorem mke_zqae_2 (qD : Bool) (t_0_0l : Nat) (qB : Int) (v : S.zqae_2_V) : mk_zqae_2 qD t_0_0l qB v = ⟨envOf 58 [(0, V.v false [C.own 0 ET.mat qD 0 t_0_0l]), (2, V.v false [C.d (.sc (.int .i64 qB))]), (4, V.v false [C.d (D.fn 114 [] [])]), (10, V.v false [C.d (.sc (.int .i64 v.t_10_0))]), (11, V.v false [C.d (.sc (.int .i64 v.t_11_0))])], heapOf 9 [(0, some (Blk.arr 81 ET.mat v.h_0))], 1⟩ := by kernel_rfl
theorem lo1_zqae_2 (e0 : V) (e2 : V) (e4 : V) (e10 : V) (e11 : V) (h0 : Option Blk) e st2 (h : (T1_zqae_2 e0 e2 e4 e10 e11 h0).eval = some (e, st2)) : Circles Try.prog cx_zqae b_zqae_2 ⟨envOf 58 [(0, e0), (2, e2), (4, e4), (10, e10), (11, e11)], heapOf 9 [(0, h0)], 1⟩ e st2 := by
  unfold T1_zqae_2 at h
  split at h
  · have := loop_tree (mk := mk_zqae_2 _ _ _) (ci_zqae_2 _ _ _) _ _ e st2 h
    rw [mke_zqae_2] at this
    exact this
  · cases h
theorem lok_zqae_2 : LoopOk Try.prog cx_zqae b_zqae_2 T_zqae_2 := by
  intro st e st2 h
  unfold T_zqae_2 at h
  cases hk : okSt 58 9 1 [0] st with
  | false => rw [hk] at h; cases h
  | true =>
    rw [hk] at h
    exact circles_keep (ks := [0, 2, 4, 10, 11]) hk (lo1_zqae_2 _ _ _ _ _ _ e st2 h)
structure S.zqae_T where
  x0 : List (Ty .mat)
  deriving Inhabited
def S.zqae_R (a0 : List (Ty .mat)) (a1 : Int) (a2 : Int) (a3 : Int) : DT S.zqae_T :=
let y0 : Nat := a0.length
let y1 : S.zqae_2_V := { t_10_0 := xwrap IntKind.i64 (a2 - a1), t_11_0 := xwrap IntKind.i64 (a3 - a2), h_0 := a0 : S.zqae_2_V }
let y2 : S.zqae_2_V := S.zqae_2_v y0 a2 y1
let y3 : List (Ty .mat) := y2.h_0
let y4 : Int := y2.t_10_0
let y5 : Int := xwrap IntKind.i64 (a2 - y4)
(.br (S.zqae_2_j y0 a2 y1 0)
(.br (xdec (y0 = y3.length) && S.zqab_is y3 y5 a2 y4)
(.leaf ⟨(S.zqab_o y3 y5 a2 y4).x0⟩)
.fail)
.fail)
def S.zqae (a0 : List (Ty .mat)) (a1 : Int) (a2 : Int) (a3 : Int) : Option S.zqae_T := (S.zqae_R a0 a1 a2 a3).run
def S.zqae_is (a0 : List (Ty .mat)) (a1 : Int) (a2 : Int) (a3 : Int) : Bool := (S.zqae a0 a1 a2 a3).isSome
def S.zqae_o (a0 : List (Ty .mat)) (a1 : Int) (a2 : Int) (a3 : Int) : S.zqae_T := (S.zqae a0 a1 a2 a3).getD default
def ret_zqae (b : Bool) (r : S.zqae_T) : Ret := ⟨b, some (81, (⟨ET.mat, r.x0⟩ : (t : ET) × List (Ty t))), []⟩
def si_zqae (a0f : Bool) (a0 : List (Ty .mat)) : List DArg → Bool
  | [(false, [.sc (.int .i64 a1)]), (false, [.sc (.int .i64 a2)]), (false, [.sc (.int .i64 a3)]), (false, [.fn 114 [] []])] => S.zqae_is a0 a1 a2 a3
  | _ => false
def so_zqae (a0f : Bool) (a0 : List (Ty .mat)) : List DArg → List (Ty .mat)
  | [(false, [.sc (.int .i64 a1)]), (false, [.sc (.int .i64 a2)]), (false, [.sc (.int .i64 a3)]), (false, [.fn 114 [] []])] => (S.zqae_o a0 a1 a2 a3).x0
  | _ => a0
def p_zqae : Proc := rowProc 81 .mat si_zqae so_zqae
theorem raw_zqae (a0f : Bool) (a0 : List (Ty .mat)) (a1 : Int) (a2 : Int) (a3 : Int) : evP cx_zqae (hdI cx_zqae (find [(2, T_zqae_2)]) [] none 3) none Try.f171 171 (some 81) [(false, [.sl none a0f .mat a0]), (false, [.sc (.int .i64 a1)]), (false, [.sc (.int .i64 a2)]), (false, [.sc (.int .i64 a3)]), (false, [.fn 114 [] []])] some = (S.zqae_R a0 a1 a2 a3).go (ret_zqae true) := by kernel_rfl
theorem bs_zqae : loopsIn Try.f171 [] = [b_zqae_2] := by kernel_rfl
theorem zqae_ok : StandsP Try.prog tyTab 171 p_zqae := by
  refine standsP (L := find [(2, T_zqae_2)]) (n := 3) (hints := [(171, 2, { keep := [0, 2, 4, 10, 11], acc := [] })]) (cx_ok rfl) rdy_zqae prs_zqae ⟨by kernel_rfl, by kernel_rfl, by kernel_rfl⟩ bs_zqae (consB (fun T h => by have e : T_zqae_2 = T := Option.some.inj (show some T_zqae_2 = some T from h); exact e ▸ lok_zqae_2) nilB) (by kernel_rfl) rfl (fun a0f a0 ds h => ?_)
  unfold si_zqae at h
  split at h
  · rename_i a1 a2 a3
    exact ⟨true, win default ((raw_zqae a0f a0 a1 a2 a3).trans (DT.go_run _ _)) h⟩
  · cases h
/-X-/
set_option linter.unusedSectionVars false
def siOf (is : List (Ty .mat) → Int → Int → Int → Bool) (a0f : Bool) (a0 : List (Ty .mat)) : List DArg → Bool
  | [(false, [.sc (.int .i64 a1)]), (false, [.sc (.int .i64 a2)]), (false, [.sc (.int .i64 a3)]), (false, [.fn 114 [] []])] => is a0 a1 a2 a3
  | _ => false
def soOf (o : List (Ty .mat) → Int → Int → Int → List (Ty .mat)) (a0f : Bool) (a0 : List (Ty .mat)) : List DArg → List (Ty .mat)
  | [(false, [.sc (.int .i64 a1)]), (false, [.sc (.int .i64 a2)]), (false, [.sc (.int .i64 a3)]), (false, [.fn 114 [] []])] => o a0 a1 a2 a3
  | _ => a0
class SymRec where
  is : List (Ty .mat) → Int → Int → Int → Bool
  o : List (Ty .mat) → Int → Int → Int → List (Ty .mat)
  ok : StandsP Try.prog tyTab 160 (rowProc 81 .mat (siOf is) (soOf o))
section SymSec
variable [SymRec]
def S.symRec_is (a0 : List (Ty .mat)) (a1 a2 a3 : Int) : Bool := SymRec.is a0 a1 a2 a3
def S.symRec_o (a0 : List (Ty .mat)) (a1 a2 a3 : Int) : List (Ty .mat) := SymRec.o a0 a1 a2 a3
def p_symRec : Proc := rowProc 81 .mat (siOf S.symRec_is) (soOf S.symRec_o)
theorem symRec_ok : StandsP Try.prog tyTab 160 p_symRec := SymRec.ok
/-Y-/

abbrev cx_zqac : Cx := mkCx3 tyTab [(114, g_zqck)] [] [(160, 33, { keep := [0, 1, 2, 3, 4, 18, 19, 20, 21, 22], acc := [] }), (160, 21, { keep := [0, 14, 17], acc := [] }), (160, 15, { keep := [0, 2, 4, 14, 15], acc := [] }), (160, 9, { keep := [0, 10, 13], acc := [] }), (160, 3, { keep := [0, 1, 4, 10, 11], acc := [] })] [] [] [(160, (Try.f160, p_symRec)), (171, (Try.f171, p_zqae))]
theorem rdy_zqac : Ready Try.prog tyTab [(114, g_zqck)] [] [] := ⟨consG2 zqck_ok (noneG2), noneI2, noneF2⟩
theorem prs_zqac : PrsOk Try.prog tyTab [(160, (Try.f160, p_symRec)), (171, (Try.f171, p_zqae))] := consP ⟨by kernel_rfl, by kernel_rfl, by kernel_rfl⟩ symRec_ok (consP ⟨by kernel_rfl, by kernel_rfl, by kernel_rfl⟩ zqae_ok (noneP))
def b_zqac_c32 : Code := tailOf 32 (bodyOf Try.f160)
structure S.zqac_3_V where
  t_10_0 : Int
  t_11_0 : Int
def S.zqac_3_R (t_0_0l : Nat) (qA : Int) (h_0 : List (Ty .mat)) (v : S.zqac_3_V) : DT (Option Nat × S.zqac_3_V) :=
let y0 : Int := IntKind.i64.wrap ((IntKind.u64.wrap (xwrap IntKind.i64 (v.t_10_0 + v.t_11_0))).fdiv 2)
let y1 : Int := (↑t_0_0l : Int)
let y2 : Nat := 0 + y0.toNat
let y3 : Nat := h_0.length
let y4 : Nat := 0 + qA.toNat
let y5 : Int := (h_0.getD y2 (dflt ET.mat)).fin
let y6 : Int := (h_0.getD y4 (dflt ET.mat)).fin
(.br (xdec (v.t_10_0 < v.t_11_0))
(.br (xdec (1 = 1))
(.br (xdec (0 ≤ y0) && xdec (y0 < y1))
(.br (xdec (y2 < y3))
(.br (xdec (0 ≤ qA) && xdec (qA < y1))
(.br (xdec (y4 < y3))
(.br (S.zqck_is y5 y6)
(.br (xdec ((S.zqck_o y5 y6).x0 < 0))
(.leaf (none, ⟨xwrap IntKind.i64 (y0 + 1), v.t_11_0⟩))
(.leaf (none, ⟨v.t_10_0, y0⟩)))
.fail)
.fail)
.fail)
.fail)
.fail)
.fail)
(.leaf (some 0, v)))
def S.zqac_3_r (t_0_0l : Nat) (qA : Int) (h_0 : List (Ty .mat)) (v : S.zqac_3_V) : Option (Option Nat × S.zqac_3_V) := (S.zqac_3_R t_0_0l qA h_0 v).run
def S.zqac_3_j (t_0_0l : Nat) (qA : Int) (h_0 : List (Ty .mat)) (v : S.zqac_3_V) (j : Nat) : Bool := Lp_j (S.zqac_3_r t_0_0l qA h_0) v j
def S.zqac_3_v (t_0_0l : Nat) (qA : Int) (h_0 : List (Ty .mat)) (v : S.zqac_3_V) : S.zqac_3_V := Lp_v (S.zqac_3_r t_0_0l qA h_0) v
def mk_zqac_3 (qD : Bool) (t_0_0l : Nat) (qA : Int) (h_0 : List (Ty .mat)) (v : S.zqac_3_V) : St := ⟨[V.v false [C.own 0 ET.mat qD 0 t_0_0l], V.v false [C.d (.sc (.int .i64 qA))], V.any, V.any, V.v false [C.d (D.fn 114 [] [])], V.any, V.any, V.any, V.any, V.any,
  V.v false [C.d (.sc (.int .i64 v.t_10_0))], V.v false [C.d (.sc (.int .i64 v.t_11_0))], V.any, V.any, V.any, V.any, V.any, V.any, V.any, V.any, V.any, V.any,
  V.any, V.any, V.any, V.any, V.any, V.any, V.any, V.any, V.any, V.any, V.any, V.any, V.any, V.any, V.any, V.any, V.any, V.any, V.any, V.any, V.any, V.any, V.any, V.any, V.any,
  V.any, V.any, V.any, V.any, V.any, V.any, V.any, V.any, V.any, V.any, V.any, V.any, V.any, V.any, V.any, V.any, V.any, V.any, V.any, V.any, V.any, V.any, V.any, V.any, V.any,
  V.any, V.any, V.any, V.any, V.any, V.any, V.any, V.any, V.any, V.any, V.any, V.any, V.any, V.any, V.any, V.any, V.any, V.any, V.any, V.any, V.any, V.any, V.any, V.any, V.any,
  V.any, V.any, V.any, V.any, V.any, V.any, V.any, V.any, V.any, V.any, V.any, V.any, V.any, V.any, V.any, V.any, V.any, V.any, V.any, V.any, V.any, V.any, V.any, V.any, V.any,
  V.any, V.any, V.any, V.any, V.any, V.any, V.any, V.any, V.any, V.any, V.any, V.any, V.any, V.any, V.any, V.any, V.any, V.any, V.any, V.any, V.any, V.any, V.any, V.any, V.any,
  V.any, V.any, V.any, V.any, V.any, V.any, V.any, V.any, V.any, V.any, V.any, V.any, V.any, V.any, V.any, V.any, V.any, V.any, V.any, V.any, V.any, V.any, V.any, V.any, V.any,
  V.any, V.any, V.any, V.any, V.any, V.any, V.any, V.any, V.any, V.any, V.any, V.any, V.any, V.any, V.any, V.any, V.any, V.any, V.any, V.any, V.any, V.any, V.any, V.any, V.any,
  V.any, V.any, V.any, V.any, V.any, V.any, V.any, V.any, V.any, V.any, V.any, V.any, V.any, V.any, V.any, V.any, V.any, V.any, V.any, V.any, V.any, V.any, V.any], [some (Blk.arr 81 ET.mat h_0), none, none, none, none, none, none, none, none], 1⟩
def ex_zqac_3 (qD : Bool) (t_0_0l : Nat) (qA : Int) (h_0 : List (Ty .mat)) (j : Nat) (v : S.zqac_3_V) : Ex × St := match j with
  | 0 => (Ex.exit 0, ⟨[V.v false [C.own 0 ET.mat qD 0 t_0_0l], V.v false [C.d (.sc (.int .i64 qA))], V.any, V.any, V.any, V.any, V.any, V.any, V.any, V.any,
  V.v false [C.d (.sc (.int .i64 v.t_10_0))], V.any, V.any, V.any, V.any, V.any, V.any, V.any, V.any, V.any, V.any, V.any, V.any, V.any, V.any, V.any, V.any, V.any,
  V.any, V.any, V.any, V.any, V.any, V.any, V.any, V.any, V.any, V.any, V.any, V.any, V.any, V.any, V.any, V.any, V.any, V.any, V.any, V.any, V.any, V.any, V.any, V.any, V.any,
  V.any, V.any, V.any, V.any, V.any, V.any, V.any, V.any, V.any, V.any, V.any, V.any, V.any, V.any, V.any, V.any, V.any, V.any, V.any, V.any, V.any, V.any, V.any, V.any, V.any,
  V.any, V.any, V.any, V.any, V.any, V.any, V.any, V.any, V.any, V.any, V.any, V.any, V.any, V.any, V.any, V.any, V.any, V.any, V.any, V.any, V.any, V.any, V.any, V.any, V.any,
  V.any, V.any, V.any, V.any, V.any, V.any, V.any, V.any, V.any, V.any, V.any, V.any, V.any, V.any, V.any, V.any, V.any, V.any, V.any, V.any, V.any, V.any, V.any, V.any, V.any,
  V.any, V.any, V.any, V.any, V.any, V.any, V.any, V.any, V.any, V.any, V.any, V.any, V.any, V.any, V.any, V.any, V.any, V.any, V.any, V.any, V.any, V.any, V.any, V.any, V.any,
  V.any, V.any, V.any, V.any, V.any, V.any, V.any, V.any, V.any, V.any, V.any, V.any, V.any, V.any, V.any, V.any, V.any, V.any, V.any, V.any, V.any, V.any, V.any, V.any, V.any,
  V.any, V.any, V.any, V.any, V.any, V.any, V.any, V.any, V.any, V.any, V.any, V.any, V.any, V.any, V.any, V.any, V.any, V.any, V.any, V.any, V.any, V.any, V.any, V.any, V.any,
  V.any, V.any, V.any, V.any, V.any, V.any, V.any, V.any, V.any, V.any, V.any, V.any, V.any, V.any, V.any, V.any, V.any], [some (Blk.arr 81 ET.mat h_0), none, none, none, none, none, none, none, none, none, none, none], 1⟩)
  | _ => (.ret, ⟨[], [], 0⟩)
def U_zqac_3_e0 (x : V) (K : Bool → Nat → Tree) : Tree := match x with
  | V.v false [C.own 0 ET.mat qD 0 t_0_0l] => K qD t_0_0l
  | _ => .bad
def U_zqac_3_e1 (x : V) (K : Int → Tree) : Tree := match x with
  | V.v false [C.d (.sc (.int .i64 qA))] => K qA
  | _ => .bad
def U_zqac_3_e4 (x : V) (K : Tree) : Tree := match x with
  | V.v false [C.d (D.fn 114 [] [])] => K
  | _ => .bad
def U_zqac_3_e10 (x : V) (K : Int → Tree) : Tree := match x with
  | V.v false [C.d (.sc (.int .i64 t_10_0))] => K t_10_0
  | _ => .bad
def U_zqac_3_e11 (x : V) (K : Int → Tree) : Tree := match x with
  | V.v false [C.d (.sc (.int .i64 t_11_0))] => K t_11_0
  | _ => .bad
def U_zqac_3_h0 (x : Option Blk) (K : (List (Ty .mat)) → Tree) : Tree := match x with
  | some (Blk.arr 81 ET.mat h_0) => K h_0
  | _ => .bad
def T1_zqac_3 (e0 : V) (e1 : V) (e4 : V) (e10 : V) (e11 : V) (h0 : Option Blk) : Tree := U_zqac_3_e0 e0 (fun qD t_0_0l => U_zqac_3_e1 e1 (fun qA => U_zqac_3_e4 e4 (U_zqac_3_e10 e10 (fun t_10_0 => U_zqac_3_e11 e11 (fun t_11_0 => U_zqac_3_h0 h0 (fun h_0 => exT (fun j => ex_zqac_3 qD t_0_0l qA h_0 j (S.zqac_3_v t_0_0l qA h_0 ⟨t_10_0, t_11_0⟩)) (S.zqac_3_j t_0_0l qA h_0 ⟨t_10_0, t_11_0⟩) [0]))))))
def T_zqac_3 (st : St) : Tree := bif okSt 220 9 1 [0] st then T1_zqac_3 (st.env.getD 0 .any) (st.env.getD 1 .any) (st.env.getD 4 .any) (st.env.getD 10 .any) (st.env.getD 11 .any) (lk st.heap 0) else .bad
def b_zqac_3 : Code := loopBy Try.f160 3
theorem rnd_zqac_3 (qD : Bool) (t_0_0l : Nat) (qA : Int) (h_0 : List (Ty .mat)) (v : S.zqac_3_V) : round2 cx_zqac (hdI cx_zqac (find []) [] none 3) 160 b_zqac_3 [] 9 [0, 1, 10] (mk_zqac_3 qD t_0_0l qA h_0 v) = (S.zqac_3_R t_0_0l qA h_0 v).go (roundOut (mk_zqac_3 qD t_0_0l qA h_0) (ex_zqac_3 qD t_0_0l qA h_0)) := by kernel_rfl
theorem bs_zqac_3 : loopsOf b_zqac_3 ++ loopsInl [] ++ loopsRf [] = [] := by kernel_rfl
theorem ci_zqac_3 (qD : Bool) (t_0_0l : Nat) (qA : Int) (h_0 : List (Ty .mat)) : ∀ v j v2, Lp (S.zqac_3_r t_0_0l qA h_0) v = some (j, v2) → Circles Try.prog cx_zqac b_zqac_3 (mk_zqac_3 qD t_0_0l qA h_0 v) (ex_zqac_3 qD t_0_0l qA h_0 j v2).1 (ex_zqac_3 qD t_0_0l qA h_0 j v2).2 :=
  loop_ok3 (L := find []) (n := 3) (hints := [(160, 33, { keep := [0, 1, 2, 3, 4, 18, 19, 20, 21, 22], acc := [] }), (160, 21, { keep := [0, 14, 17], acc := [] }), (160, 15, { keep := [0, 2, 4, 14, 15], acc := [] }), (160, 9, { keep := [0, 10, 13], acc := [] }), (160, 3, { keep := [0, 1, 4, 10, 11], acc := [] })]) (cx_ok rfl) rdy_zqac prs_zqac bs_zqac_3 nilB (fun v => (rnd_zqac_3 qD t_0_0l qA h_0 v).trans (DT.go_run _ _)) (by intro j v; unfold ex_zqac_3; split <;> rfl)
theorem mke_zqac_3 (qD : Bool) (t_0_0l : Nat) (qA : Int) (h_0 : List (Ty .mat)) (v : S.zqac_3_V) : mk_zqac_3 qD t_0_0l qA h_0 v = ⟨envOf 220 [(0, V.v false [C.own 0 ET.mat qD 0 t_0_0l]), (1, V.v false [C.d (.sc (.int .i64 qA))]), (4, V.v false [C.d (D.fn 114 [] [])]), (10, V.v false [C.d (.sc (.int .i64 v.t_10_0))]), (11, V.v false [C.d (.sc (.int .i64 v.t_11_0))])], heapOf 9 [(0, some (Blk.arr 81 ET.mat h_0))], 1⟩ := by kernel_rfl
theorem Ui_zqac_3_e0 {x : V} {K : Bool → Nat → Tree} {z : Ex × St} (h : (U_zqac_3_e0 x K).eval = some z) : ∃ (qD : Bool) (t_0_0l : Nat), x = V.v false [C.own 0 ET.mat qD 0 t_0_0l] ∧ (K qD t_0_0l).eval = some z := by
  unfold U_zqac_3_e0 at h
  split at h
  · exact ⟨_, _, rfl, h⟩
  · cases h
theorem Ui_zqac_3_e1 {x : V} {K : Int → Tree} {z : Ex × St} (h : (U_zqac_3_e1 x K).eval = some z) : ∃ (qA : Int), x = V.v false [C.d (.sc (.int .i64 qA))] ∧ (K qA).eval = some z := by
  unfold U_zqac_3_e1 at h
  split at h
  · exact ⟨_, rfl, h⟩
  · cases h
theorem Ui_zqac_3_e4 {x : V} {K : Tree} {z : Ex × St} (h : (U_zqac_3_e4 x K).eval = some z) : x = V.v false [C.d (D.fn 114 [] [])] ∧ (K).eval = some z := by
  unfold U_zqac_3_e4 at h
  split at h
  · exact ⟨rfl, h⟩
  · cases h
theorem Ui_zqac_3_e10 {x : V} {K : Int → Tree} {z : Ex × St} (h : (U_zqac_3_e10 x K).eval = some z) : ∃ (t_10_0 : Int), x = V.v false [C.d (.sc (.int .i64 t_10_0))] ∧ (K t_10_0).eval = some z := by
  unfold U_zqac_3_e10 at h
  split at h
  · exact ⟨_, rfl, h⟩
  · cases h
theorem Ui_zqac_3_e11 {x : V} {K : Int → Tree} {z : Ex × St} (h : (U_zqac_3_e11 x K).eval = some z) : ∃ (t_11_0 : Int), x = V.v false [C.d (.sc (.int .i64 t_11_0))] ∧ (K t_11_0).eval = some z := by
  unfold U_zqac_3_e11 at h
  split at h
  · exact ⟨_, rfl, h⟩
  · cases h
theorem Ui_zqac_3_h0 {x : Option Blk} {K : (List (Ty .mat)) → Tree} {z : Ex × St} (h : (U_zqac_3_h0 x K).eval = some z) : ∃ (h_0 : List (Ty .mat)), x = some (Blk.arr 81 ET.mat h_0) ∧ (K h_0).eval = some z := by
  unfold U_zqac_3_h0 at h
  split at h
  · exact ⟨_, rfl, h⟩
  · cases h
theorem lo1_zqac_3 (e0 : V) (e1 : V) (e4 : V) (e10 : V) (e11 : V) (h0 : Option Blk) e st2 (h : (T1_zqac_3 e0 e1 e4 e10 e11 h0).eval = some (e, st2)) : Circles Try.prog cx_zqac b_zqac_3 ⟨envOf 220 [(0, e0), (1, e1), (4, e4), (10, e10), (11, e11)], heapOf 9 [(0, h0)], 1⟩ e st2 := by
  unfold T1_zqac_3 at h
  obtain ⟨qD, t_0_0l, rfl, h⟩ := Ui_zqac_3_e0 h
  obtain ⟨qA, rfl, h⟩ := Ui_zqac_3_e1 h
  obtain ⟨rfl, h⟩ := Ui_zqac_3_e4 h
  obtain ⟨t_10_0, rfl, h⟩ := Ui_zqac_3_e10 h
  obtain ⟨t_11_0, rfl, h⟩ := Ui_zqac_3_e11 h
  obtain ⟨h_0, rfl, h⟩ := Ui_zqac_3_h0 h
  have := loop_tree (mk := mk_zqac_3 qD t_0_0l qA h_0) (ci_zqac_3 qD t_0_0l qA h_0) _ _ e st2 h
  rw [mke_zqac_3] at this
  exact this
theorem lok_zqac_3 : LoopOk Try.prog cx_zqac b_zqac_3 T_zqac_3 := by
  intro st e st2 h
  unfold T_zqac_3 at h
  cases hk : okSt 220 9 1 [0] st with
  | false => rw [hk] at h; cases h
  | true =>
    rw [hk] at h
    exact circles_keep (ks := [0, 1, 4, 10, 11]) hk (lo1_zqac_3 _ _ _ _ _ _ e st2 h)
structure S.zqac_9_V where
  t_13_0 : Int
  h_0 : List (Ty .mat)
def S.zqac_9_R (t_0_0l : Nat) (t_10_0 : Int) (v : S.zqac_9_V) : DT (Option Nat × S.zqac_9_V) :=
let y0 : Int := xwrap IntKind.i64 (v.t_13_0 + 1)
let y1 : Int := (↑t_0_0l : Int)
let y2 : Bool := xdec (0 ≤ y0) && xdec (y0 < y1)
let y3 : Nat := 0 + y0.toNat
let y4 : Nat := v.h_0.length
let y5 : Bool := xdec (0 ≤ v.t_13_0) && xdec (v.t_13_0 < y1)
let y6 : Nat := 0 + v.t_13_0.toNat
let y7 : Bool := xdec (y6 < y4)
let y8 : Ty ET.mat := v.h_0.getD y3 (dflt ET.mat)
let y9 : List (Ty .mat) := v.h_0.set y6 { start := y8.start, fin := y8.fin, agg := y8.agg, bad := y8.bad : Mat }
let y10 : Ty ET.mat := v.h_0.getD y6 (dflt ET.mat)
(.br (xdec (v.t_13_0 < xwrap IntKind.i64 (t_10_0 - 1)))
(.br (y2)
(.br (xdec (y3 < y4))
(.br (y5)
(.br (y7)
(.br (y5)
(.br (y7)
(.br (y2)
(.br (xdec (y3 < y9.length))
(.leaf (none, ⟨y0, y9.set y3 { start := y10.start, fin := y10.fin, agg := y10.agg, bad := y10.bad : Mat }⟩))
.fail)
.fail)
.fail)
.fail)
.fail)
.fail)
.fail)
.fail)
(.leaf (some 0, v)))
def S.zqac_9_r (t_0_0l : Nat) (t_10_0 : Int) (v : S.zqac_9_V) : Option (Option Nat × S.zqac_9_V) := (S.zqac_9_R t_0_0l t_10_0 v).run
def S.zqac_9_j (t_0_0l : Nat) (t_10_0 : Int) (v : S.zqac_9_V) (j : Nat) : Bool := Lp_j (S.zqac_9_r t_0_0l t_10_0) v j
def S.zqac_9_v (t_0_0l : Nat) (t_10_0 : Int) (v : S.zqac_9_V) : S.zqac_9_V := Lp_v (S.zqac_9_r t_0_0l t_10_0) v
def mk_zqac_9 (qD : Bool) (t_0_0l : Nat) (t_10_0 : Int) (v : S.zqac_9_V) : St := ⟨[V.v false [C.own 0 ET.mat qD 0 t_0_0l], V.any, V.any, V.any, V.any, V.any, V.any, V.any, V.any, V.any, V.v false [C.d (.sc (.int .i64 t_10_0))], V.any, V.any,
  V.v false [C.d (.sc (.int .i64 v.t_13_0))], V.any, V.any, V.any, V.any, V.any, V.any, V.any, V.any, V.any, V.any, V.any, V.any, V.any, V.any, V.any, V.any, V.any,
  V.any, V.any, V.any, V.any, V.any, V.any, V.any, V.any, V.any, V.any, V.any, V.any, V.any, V.any, V.any, V.any, V.any, V.any, V.any, V.any, V.any, V.any, V.any, V.any, V.any,
  V.any, V.any, V.any, V.any, V.any, V.any, V.any, V.any, V.any, V.any, V.any, V.any, V.any, V.any, V.any, V.any, V.any, V.any, V.any, V.any, V.any, V.any, V.any, V.any, V.any,
  V.any, V.any, V.any, V.any, V.any, V.any, V.any, V.any, V.any, V.any, V.any, V.any, V.any, V.any, V.any, V.any, V.any, V.any, V.any, V.any, V.any, V.any, V.any, V.any, V.any,
  V.any, V.any, V.any, V.any, V.any, V.any, V.any, V.any, V.any, V.any, V.any, V.any, V.any, V.any, V.any, V.any, V.any, V.any, V.any, V.any, V.any, V.any, V.any, V.any, V.any,
  V.any, V.any, V.any, V.any, V.any, V.any, V.any, V.any, V.any, V.any, V.any, V.any, V.any, V.any, V.any, V.any, V.any, V.any, V.any, V.any, V.any, V.any, V.any, V.any, V.any,
  V.any, V.any, V.any, V.any, V.any, V.any, V.any, V.any, V.any, V.any, V.any, V.any, V.any, V.any, V.any, V.any, V.any, V.any, V.any, V.any, V.any, V.any, V.any, V.any, V.any,
  V.any, V.any, V.any, V.any, V.any, V.any, V.any, V.any, V.any, V.any, V.any, V.any, V.any, V.any, V.any, V.any, V.any, V.any, V.any, V.any, V.any, V.any, V.any, V.any, V.any,
  V.any, V.any, V.any, V.any, V.any, V.any, V.any, V.any, V.any, V.any, V.any, V.any, V.any, V.any], [some (Blk.arr 81 ET.mat v.h_0), none, none, none, none, none, none, none, none, none, none, none, none, none], 1⟩
def ex_zqac_9 (qD : Bool) (t_0_0l : Nat) (t_10_0 : Int) (j : Nat) (v : S.zqac_9_V) : Ex × St := match j with
  | 0 => (Ex.exit 2, ⟨[V.any, V.any, V.any, V.any, V.any, V.any, V.any, V.any, V.any, V.any, V.any, V.any, V.any, V.any, V.any, V.any, V.any, V.any, V.any, V.any, V.any, V.any, V.any, V.any, V.any,
  V.any, V.any, V.any, V.any, V.any, V.any, V.any, V.any, V.any, V.any, V.any, V.any, V.any, V.any, V.any, V.any, V.any, V.any, V.any, V.any, V.any, V.any, V.any, V.any, V.any,
  V.any, V.any, V.any, V.any, V.any, V.any, V.any, V.any, V.any, V.any, V.any, V.any, V.any, V.any, V.any, V.any, V.any, V.any, V.any, V.any, V.any, V.any, V.any, V.any, V.any,
  V.any, V.any, V.any, V.any, V.any, V.any, V.any, V.any, V.any, V.any, V.any, V.any, V.any, V.any, V.any, V.any, V.any, V.any, V.any, V.any, V.any, V.any, V.any, V.any, V.any,
  V.any, V.any, V.any, V.any, V.any, V.any, V.any, V.any, V.any, V.any, V.any, V.any, V.any, V.any, V.any, V.any, V.any, V.any, V.any, V.any, V.any, V.any, V.any, V.any, V.any,
  V.any, V.any, V.any, V.any, V.any, V.any, V.any, V.any, V.any, V.any, V.any, V.any, V.any, V.any, V.any, V.any, V.any, V.any, V.any, V.any, V.any, V.any, V.any, V.any, V.any,
  V.any, V.any, V.any, V.any, V.any, V.any, V.any, V.any, V.any, V.any, V.any, V.any, V.any, V.any, V.any, V.any, V.any, V.any, V.any, V.any, V.any, V.any, V.any, V.any, V.any,
  V.any, V.any, V.any, V.any, V.any, V.any, V.any, V.any, V.any, V.any, V.any, V.any, V.any, V.any, V.any, V.any, V.any, V.any, V.any, V.any, V.any, V.any, V.any, V.any, V.any,
  V.any, V.any, V.any, V.any, V.any, V.any, V.any, V.any, V.any, V.any, V.any, V.any, V.any, V.any, V.any, V.any, V.any, V.any, V.any, V.any], [some (Blk.arr 81 ET.mat v.h_0), none, none, none, none, none, none, none, none, none, none, none, none, none, none, none, none, none], 1⟩)
  | _ => (.ret, ⟨[], [], 0⟩)
def U_zqac_9_e0 (x : V) (K : Bool → Nat → Tree) : Tree := match x with
  | V.v false [C.own 0 ET.mat qD 0 t_0_0l] => K qD t_0_0l
  | _ => .bad
def U_zqac_9_e10 (x : V) (K : Int → Tree) : Tree := match x with
  | V.v false [C.d (.sc (.int .i64 t_10_0))] => K t_10_0
  | _ => .bad
def U_zqac_9_e13 (x : V) (K : Int → Tree) : Tree := match x with
  | V.v false [C.d (.sc (.int .i64 t_13_0))] => K t_13_0
  | _ => .bad
def U_zqac_9_h0 (x : Option Blk) (K : (List (Ty .mat)) → Tree) : Tree := match x with
  | some (Blk.arr 81 ET.mat h_0) => K h_0
  | _ => .bad
def T1_zqac_9 (e0 : V) (e10 : V) (e13 : V) (h0 : Option Blk) : Tree := U_zqac_9_e0 e0 (fun qD t_0_0l => U_zqac_9_e10 e10 (fun t_10_0 => U_zqac_9_e13 e13 (fun t_13_0 => U_zqac_9_h0 h0 (fun h_0 => exT (fun j => ex_zqac_9 qD t_0_0l t_10_0 j (S.zqac_9_v t_0_0l t_10_0 ⟨t_13_0, h_0⟩)) (S.zqac_9_j t_0_0l t_10_0 ⟨t_13_0, h_0⟩) [0]))))
def T_zqac_9 (st : St) : Tree := bif okSt 220 14 1 [0] st then T1_zqac_9 (st.env.getD 0 .any) (st.env.getD 10 .any) (st.env.getD 13 .any) (lk st.heap 0) else .bad
def b_zqac_9 : Code := loopBy Try.f160 9
theorem rnd_zqac_9 (qD : Bool) (t_0_0l : Nat) (t_10_0 : Int) (v : S.zqac_9_V) : round2 cx_zqac (hdI cx_zqac (find [(3, T_zqac_3)]) [] none 3) 160 b_zqac_9 [] 14 [] (mk_zqac_9 qD t_0_0l t_10_0 v) = (S.zqac_9_R t_0_0l t_10_0 v).go (roundOut (mk_zqac_9 qD t_0_0l t_10_0) (ex_zqac_9 qD t_0_0l t_10_0)) := by kernel_rfl
theorem bs_zqac_9 : loopsOf b_zqac_9 ++ loopsInl [] ++ loopsRf [] = [] := by kernel_rfl
theorem ci_zqac_9 (qD : Bool) (t_0_0l : Nat) (t_10_0 : Int) : ∀ v j v2, Lp (S.zqac_9_r t_0_0l t_10_0) v = some (j, v2) → Circles Try.prog cx_zqac b_zqac_9 (mk_zqac_9 qD t_0_0l t_10_0 v) (ex_zqac_9 qD t_0_0l t_10_0 j v2).1 (ex_zqac_9 qD t_0_0l t_10_0 j v2).2 :=
  loop_ok3 (L := find [(3, T_zqac_3)]) (n := 3) (hints := [(160, 33, { keep := [0, 1, 2, 3, 4, 18, 19, 20, 21, 22], acc := [] }), (160, 21, { keep := [0, 14, 17], acc := [] }), (160, 15, { keep := [0, 2, 4, 14, 15], acc := [] }), (160, 9, { keep := [0, 10, 13], acc := [] }), (160, 3, { keep := [0, 1, 4, 10, 11], acc := [] })]) (cx_ok rfl) rdy_zqac prs_zqac bs_zqac_9 nilB (fun v => (rnd_zqac_9 qD t_0_0l t_10_0 v).trans (DT.go_run _ _)) (by intro j v; unfold ex_zqac_9; split <;> rfl)
theorem mke_zqac_9 (qD : Bool) (t_0_0l : Nat) (t_10_0 : Int) (v : S.zqac_9_V) : mk_zqac_9 qD t_0_0l t_10_0 v = ⟨envOf 220 [(0, V.v false [C.own 0 ET.mat qD 0 t_0_0l]), (10, V.v false [C.d (.sc (.int .i64 t_10_0))]), (13, V.v false [C.d (.sc (.int .i64 v.t_13_0))])], heapOf 14 [(0, some (Blk.arr 81 ET.mat v.h_0))], 1⟩ := by kernel_rfl
theorem Ui_zqac_9_e0 {x : V} {K : Bool → Nat → Tree} {z : Ex × St} (h : (U_zqac_9_e0 x K).eval = some z) : ∃ (qD : Bool) (t_0_0l : Nat), x = V.v false [C.own 0 ET.mat qD 0 t_0_0l] ∧ (K qD t_0_0l).eval = some z := by
  unfold U_zqac_9_e0 at h
  split at h
  · exact ⟨_, _, rfl, h⟩
  · cases h
theorem Ui_zqac_9_e10 {x : V} {K : Int → Tree} {z : Ex × St} (h : (U_zqac_9_e10 x K).eval = some z) : ∃ (t_10_0 : Int), x = V.v false [C.d (.sc (.int .i64 t_10_0))] ∧ (K t_10_0).eval = some z := by
  unfold U_zqac_9_e10 at h
  split at h
  · exact ⟨_, rfl, h⟩
  · cases h
theorem Ui_zqac_9_e13 {x : V} {K : Int → Tree} {z : Ex × St} (h : (U_zqac_9_e13 x K).eval = some z) : ∃ (t_13_0 : Int), x = V.v false [C.d (.sc (.int .i64 t_13_0))] ∧ (K t_13_0).eval = some z := by
  unfold U_zqac_9_e13 at h
  split at h
  · exact ⟨_, rfl, h⟩
  · cases h
theorem Ui_zqac_9_h0 {x : Option Blk} {K : (List (Ty .mat)) → Tree} {z : Ex × St} (h : (U_zqac_9_h0 x K).eval = some z) : ∃ (h_0 : List (Ty .mat)), x = some (Blk.arr 81 ET.mat h_0) ∧ (K h_0).eval = some z := by
  unfold U_zqac_9_h0 at h
  split at h
  · exact ⟨_, rfl, h⟩
  · cases h
theorem lo1_zqac_9 (e0 : V) (e10 : V) (e13 : V) (h0 : Option Blk) e st2 (h : (T1_zqac_9 e0 e10 e13 h0).eval = some (e, st2)) : Circles Try.prog cx_zqac b_zqac_9 ⟨envOf 220 [(0, e0), (10, e10), (13, e13)], heapOf 14 [(0, h0)], 1⟩ e st2 := by
  unfold T1_zqac_9 at h
  obtain ⟨qD, t_0_0l, rfl, h⟩ := Ui_zqac_9_e0 h
  obtain ⟨t_10_0, rfl, h⟩ := Ui_zqac_9_e10 h
  obtain ⟨t_13_0, rfl, h⟩ := Ui_zqac_9_e13 h
  obtain ⟨h_0, rfl, h⟩ := Ui_zqac_9_h0 h
  have := loop_tree (mk := mk_zqac_9 qD t_0_0l t_10_0) (ci_zqac_9 qD t_0_0l t_10_0) _ _ e st2 h
  rw [mke_zqac_9] at this
  exact this
theorem lok_zqac_9 : LoopOk Try.prog cx_zqac b_zqac_9 T_zqac_9 := by
  intro st e st2 h
  unfold T_zqac_9 at h
  cases hk : okSt 220 14 1 [0] st with
  | false => rw [hk] at h; cases h
  | true =>
    rw [hk] at h
    exact circles_keep (ks := [0, 10, 13]) hk (lo1_zqac_9 _ _ _ _ e st2 h)
structure S.zqac_15_V where
  t_14_0 : Int
  t_15_0 : Int
def S.zqac_15_R (t_0_0l : Nat) (qB : Int) (h_0 : List (Ty .mat)) (v : S.zqac_15_V) : DT (Option Nat × S.zqac_15_V) :=
let y0 : Int := (↑t_0_0l : Int)
let y1 : Nat := 0 + qB.toNat
let y2 : Nat := h_0.length
let y3 : Int := IntKind.i64.wrap ((IntKind.u64.wrap (xwrap IntKind.i64 (v.t_14_0 + v.t_15_0))).fdiv 2)
let y4 : Nat := 0 + y3.toNat
let y5 : Int := (h_0.getD y1 (dflt ET.mat)).fin
let y6 : Int := (h_0.getD y4 (dflt ET.mat)).fin
(.br (xdec (v.t_14_0 < v.t_15_0))
(.br (xdec (1 = 1))
(.br (xdec (0 ≤ qB) && xdec (qB < y0))
(.br (xdec (y1 < y2))
(.br (xdec (0 ≤ y3) && xdec (y3 < y0))
(.br (xdec (y4 < y2))
(.br (S.zqck_is y5 y6)
(.br (xnot (xdec ((S.zqck_o y5 y6).x0 < 0)))
(.leaf (none, ⟨xwrap IntKind.i64 (y3 + 1), v.t_15_0⟩))
(.leaf (none, ⟨v.t_14_0, y3⟩)))
.fail)
.fail)
.fail)
.fail)
.fail)
.fail)
(.leaf (some 0, v)))
def S.zqac_15_r (t_0_0l : Nat) (qB : Int) (h_0 : List (Ty .mat)) (v : S.zqac_15_V) : Option (Option Nat × S.zqac_15_V) := (S.zqac_15_R t_0_0l qB h_0 v).run
def S.zqac_15_j (t_0_0l : Nat) (qB : Int) (h_0 : List (Ty .mat)) (v : S.zqac_15_V) (j : Nat) : Bool := Lp_j (S.zqac_15_r t_0_0l qB h_0) v j
def S.zqac_15_v (t_0_0l : Nat) (qB : Int) (h_0 : List (Ty .mat)) (v : S.zqac_15_V) : S.zqac_15_V := Lp_v (S.zqac_15_r t_0_0l qB h_0) v
def mk_zqac_15 (qD : Bool) (t_0_0l : Nat) (qB : Int) (h_0 : List (Ty .mat)) (v : S.zqac_15_V) : St := ⟨[V.v false [C.own 0 ET.mat qD 0 t_0_0l], V.any, V.v false [C.d (.sc (.int .i64 qB))], V.any, V.v false [C.d (D.fn 114 [] [])], V.any, V.any, V.any, V.any, V.any,
  V.any, V.any, V.any, V.any, V.v false [C.d (.sc (.int .i64 v.t_14_0))], V.v false [C.d (.sc (.int .i64 v.t_15_0))], V.any, V.any, V.any, V.any, V.any, V.any,
  V.any, V.any, V.any, V.any, V.any, V.any, V.any, V.any, V.any, V.any, V.any, V.any, V.any, V.any, V.any, V.any, V.any, V.any, V.any, V.any, V.any, V.any, V.any, V.any, V.any,
  V.any, V.any, V.any, V.any, V.any, V.any, V.any, V.any, V.any, V.any, V.any, V.any, V.any, V.any, V.any, V.any, V.any, V.any, V.any, V.any, V.any, V.any, V.any, V.any, V.any,
  V.any, V.any, V.any, V.any, V.any, V.any, V.any, V.any, V.any, V.any, V.any, V.any, V.any, V.any, V.any, V.any, V.any, V.any, V.any, V.any, V.any, V.any, V.any, V.any, V.any,
  V.any, V.any, V.any, V.any, V.any, V.any, V.any, V.any, V.any, V.any, V.any, V.any, V.any, V.any, V.any, V.any, V.any, V.any, V.any, V.any, V.any, V.any, V.any, V.any, V.any,
  V.any, V.any, V.any, V.any, V.any, V.any, V.any, V.any, V.any, V.any, V.any, V.any, V.any, V.any, V.any, V.any, V.any, V.any, V.any, V.any, V.any, V.any, V.any, V.any, V.any,
  V.any, V.any, V.any, V.any, V.any, V.any, V.any, V.any, V.any, V.any, V.any, V.any, V.any, V.any, V.any, V.any, V.any, V.any, V.any, V.any, V.any, V.any, V.any, V.any, V.any,
  V.any, V.any, V.any, V.any, V.any, V.any, V.any, V.any, V.any, V.any, V.any, V.any, V.any, V.any, V.any, V.any, V.any, V.any, V.any, V.any, V.any, V.any, V.any, V.any, V.any,
  V.any, V.any, V.any, V.any, V.any, V.any, V.any, V.any, V.any, V.any, V.any, V.any, V.any, V.any, V.any, V.any, V.any, V.any, V.any, V.any, V.any, V.any, V.any], [some (Blk.arr 81 ET.mat h_0), none, none, none, none, none, none, none, none, none, none, none, none], 1⟩
def ex_zqac_15 (qD : Bool) (t_0_0l : Nat) (qB : Int) (h_0 : List (Ty .mat)) (j : Nat) (v : S.zqac_15_V) : Ex × St := match j with
  | 0 => (Ex.exit 4, ⟨[V.v false [C.own 0 ET.mat qD 0 t_0_0l], V.any, V.v false [C.d (.sc (.int .i64 qB))], V.any, V.any, V.any, V.any, V.any, V.any, V.any, V.any, V.any, V.any, V.any,
  V.v false [C.d (.sc (.int .i64 v.t_14_0))], V.any, V.any, V.any, V.any, V.any, V.any, V.any, V.any, V.any, V.any, V.any, V.any, V.any, V.any, V.any, V.any, V.any,
  V.any, V.any, V.any, V.any, V.any, V.any, V.any, V.any, V.any, V.any, V.any, V.any, V.any, V.any, V.any, V.any, V.any, V.any, V.any, V.any, V.any, V.any, V.any, V.any, V.any,
  V.any, V.any, V.any, V.any, V.any, V.any, V.any, V.any, V.any, V.any, V.any, V.any, V.any, V.any, V.any, V.any, V.any, V.any, V.any, V.any, V.any, V.any, V.any, V.any, V.any,
  V.any, V.any, V.any, V.any, V.any, V.any, V.any, V.any, V.any, V.any, V.any, V.any, V.any, V.any, V.any, V.any, V.any, V.any, V.any, V.any, V.any, V.any, V.any, V.any, V.any,
  V.any, V.any, V.any, V.any, V.any, V.any, V.any, V.any, V.any, V.any, V.any, V.any, V.any, V.any, V.any, V.any, V.any, V.any, V.any, V.any, V.any, V.any, V.any, V.any, V.any,
  V.any, V.any, V.any, V.any, V.any, V.any, V.any, V.any, V.any, V.any, V.any, V.any, V.any, V.any, V.any, V.any, V.any, V.any, V.any, V.any, V.any, V.any, V.any, V.any, V.any,
  V.any, V.any, V.any, V.any, V.any, V.any, V.any, V.any, V.any, V.any, V.any, V.any, V.any, V.any, V.any, V.any, V.any, V.any, V.any, V.any, V.any, V.any, V.any, V.any, V.any,
  V.any, V.any, V.any, V.any, V.any, V.any, V.any, V.any, V.any, V.any, V.any, V.any, V.any, V.any, V.any, V.any, V.any, V.any, V.any, V.any, V.any, V.any, V.any, V.any, V.any,
  V.any, V.any, V.any, V.any, V.any, V.any, V.any, V.any, V.any, V.any, V.any, V.any, V.any], [some (Blk.arr 81 ET.mat h_0), none, none, none, none, none, none, none, none, none, none, none, none, none, none, none], 1⟩)
  | _ => (.ret, ⟨[], [], 0⟩)
def U_zqac_15_e0 (x : V) (K : Bool → Nat → Tree) : Tree := match x with
  | V.v false [C.own 0 ET.mat qD 0 t_0_0l] => K qD t_0_0l
  | _ => .bad
def U_zqac_15_e2 (x : V) (K : Int → Tree) : Tree := match x with
  | V.v false [C.d (.sc (.int .i64 qB))] => K qB
  | _ => .bad
def U_zqac_15_e4 (x : V) (K : Tree) : Tree := match x with
  | V.v false [C.d (D.fn 114 [] [])] => K
  | _ => .bad
def U_zqac_15_e14 (x : V) (K : Int → Tree) : Tree := match x with
  | V.v false [C.d (.sc (.int .i64 t_14_0))] => K t_14_0
  | _ => .bad
def U_zqac_15_e15 (x : V) (K : Int → Tree) : Tree := match x with
  | V.v false [C.d (.sc (.int .i64 t_15_0))] => K t_15_0
  | _ => .bad
def U_zqac_15_h0 (x : Option Blk) (K : (List (Ty .mat)) → Tree) : Tree := match x with
  | some (Blk.arr 81 ET.mat h_0) => K h_0
  | _ => .bad
def T1_zqac_15 (e0 : V) (e2 : V) (e4 : V) (e14 : V) (e15 : V) (h0 : Option Blk) : Tree := U_zqac_15_e0 e0 (fun qD t_0_0l => U_zqac_15_e2 e2 (fun qB => U_zqac_15_e4 e4 (U_zqac_15_e14 e14 (fun t_14_0 => U_zqac_15_e15 e15 (fun t_15_0 => U_zqac_15_h0 h0 (fun h_0 => exT (fun j => ex_zqac_15 qD t_0_0l qB h_0 j (S.zqac_15_v t_0_0l qB h_0 ⟨t_14_0, t_15_0⟩)) (S.zqac_15_j t_0_0l qB h_0 ⟨t_14_0, t_15_0⟩) [0]))))))
def T_zqac_15 (st : St) : Tree := bif okSt 220 13 1 [0] st then T1_zqac_15 (st.env.getD 0 .any) (st.env.getD 2 .any) (st.env.getD 4 .any) (st.env.getD 14 .any) (st.env.getD 15 .any) (lk st.heap 0) else .bad
def b_zqac_15 : Code := loopBy Try.f160 15
theorem rnd_zqac_15 (qD : Bool) (t_0_0l : Nat) (qB : Int) (h_0 : List (Ty .mat)) (v : S.zqac_15_V) : round2 cx_zqac (hdI cx_zqac (find [(3, T_zqac_3), (9, T_zqac_9)]) [] none 3) 160 b_zqac_15 [] 13 [0, 2, 14] (mk_zqac_15 qD t_0_0l qB h_0 v) = (S.zqac_15_R t_0_0l qB h_0 v).go (roundOut (mk_zqac_15 qD t_0_0l qB h_0) (ex_zqac_15 qD t_0_0l qB h_0)) := by kernel_rfl
theorem bs_zqac_15 : loopsOf b_zqac_15 ++ loopsInl [] ++ loopsRf [] = [] := by kernel_rfl
theorem ci_zqac_15 (qD : Bool) (t_0_0l : Nat) (qB : Int) (h_0 : List (Ty .mat)) : ∀ v j v2, Lp (S.zqac_15_r t_0_0l qB h_0) v = some (j, v2) → Circles Try.prog cx_zqac b_zqac_15 (mk_zqac_15 qD t_0_0l qB h_0 v) (ex_zqac_15 qD t_0_0l qB h_0 j v2).1 (ex_zqac_15 qD t_0_0l qB h_0 j v2).2 :=
  loop_ok3 (L := find [(3, T_zqac_3), (9, T_zqac_9)]) (n := 3) (hints := [(160, 33, { keep := [0, 1, 2, 3, 4, 18, 19, 20, 21, 22], acc := [] }), (160, 21, { keep := [0, 14, 17], acc := [] }), (160, 15, { keep := [0, 2, 4, 14, 15], acc := [] }), (160, 9, { keep := [0, 10, 13], acc := [] }), (160, 3, { keep := [0, 1, 4, 10, 11], acc := [] })]) (cx_ok rfl) rdy_zqac prs_zqac bs_zqac_15 nilB (fun v => (rnd_zqac_15 qD t_0_0l qB h_0 v).trans (DT.go_run _ _)) (by intro j v; unfold ex_zqac_15; split <;> rfl)
theorem mke_zqac_15 (qD : Bool) (t_0_0l : Nat) (qB : Int) (h_0 : List (Ty .mat)) (v : S.zqac_15_V) : mk_zqac_15 qD t_0_0l qB h_0 v = ⟨envOf 220 [(0, V.v false [C.own 0 ET.mat qD 0 t_0_0l]), (2, V.v false [C.d (.sc (.int .i64 qB))]), (4, V.v false [C.d (D.fn 114 [] [])]), (14, V.v false [C.d (.sc (.int .i64 v.t_14_0))]), (15, V.v false [C.d (.sc (.int .i64 v.t_15_0))])], heapOf 13 [(0, some (Blk.arr 81 ET.mat h_0))], 1⟩ := by kernel_rfl
theorem Ui_zqac_15_e0 {x : V} {K : Bool → Nat → Tree} {z : Ex × St} (h : (U_zqac_15_e0 x K).eval = some z) : ∃ (qD : Bool) (t_0_0l : Nat), x = V.v false [C.own 0 ET.mat qD 0 t_0_0l] ∧ (K qD t_0_0l).eval = some z := by
  unfold U_zqac_15_e0 at h
  split at h
  · exact ⟨_, _, rfl, h⟩
  · cases h
theorem Ui_zqac_15_e2 {x : V} {K : Int → Tree} {z : Ex × St} (h : (U_zqac_15_e2 x K).eval = some z) : ∃ (qB : Int), x = V.v false [C.d (.sc (.int .i64 qB))] ∧ (K qB).eval = some z := by
  unfold U_zqac_15_e2 at h
  split at h
  · exact ⟨_, rfl, h⟩
  · cases h
theorem Ui_zqac_15_e4 {x : V} {K : Tree} {z : Ex × St} (h : (U_zqac_15_e4 x K).eval = some z) : x = V.v false [C.d (D.fn 114 [] [])] ∧ (K).eval = some z := by
  unfold U_zqac_15_e4 at h
  split at h
  · exact ⟨rfl, h⟩
  · cases h
theorem Ui_zqac_15_e14 {x : V} {K : Int → Tree} {z : Ex × St} (h : (U_zqac_15_e14 x K).eval = some z) : ∃ (t_14_0 : Int), x = V.v false [C.d (.sc (.int .i64 t_14_0))] ∧ (K t_14_0).eval = some z := by
  unfold U_zqac_15_e14 at h
  split at h
  · exact ⟨_, rfl, h⟩
  · cases h
theorem Ui_zqac_15_e15 {x : V} {K : Int → Tree} {z : Ex × St} (h : (U_zqac_15_e15 x K).eval = some z) : ∃ (t_15_0 : Int), x = V.v false [C.d (.sc (.int .i64 t_15_0))] ∧ (K t_15_0).eval = some z := by
  unfold U_zqac_15_e15 at h
  split at h
  · exact ⟨_, rfl, h⟩
  · cases h
theorem Ui_zqac_15_h0 {x : Option Blk} {K : (List (Ty .mat)) → Tree} {z : Ex × St} (h : (U_zqac_15_h0 x K).eval = some z) : ∃ (h_0 : List (Ty .mat)), x = some (Blk.arr 81 ET.mat h_0) ∧ (K h_0).eval = some z := by
  unfold U_zqac_15_h0 at h
  split at h
  · exact ⟨_, rfl, h⟩
  · cases h
theorem lo1_zqac_15 (e0 : V) (e2 : V) (e4 : V) (e14 : V) (e15 : V) (h0 : Option Blk) e st2 (h : (T1_zqac_15 e0 e2 e4 e14 e15 h0).eval = some (e, st2)) : Circles Try.prog cx_zqac b_zqac_15 ⟨envOf 220 [(0, e0), (2, e2), (4, e4), (14, e14), (15, e15)], heapOf 13 [(0, h0)], 1⟩ e st2 := by
  unfold T1_zqac_15 at h
  obtain ⟨qD, t_0_0l, rfl, h⟩ := Ui_zqac_15_e0 h
  obtain ⟨qB, rfl, h⟩ := Ui_zqac_15_e2 h
  obtain ⟨rfl, h⟩ := Ui_zqac_15_e4 h
  obtain ⟨t_14_0, rfl, h⟩ := Ui_zqac_15_e14 h
  obtain ⟨t_15_0, rfl, h⟩ := Ui_zqac_15_e15 h
  obtain ⟨h_0, rfl, h⟩ := Ui_zqac_15_h0 h
  have := loop_tree (mk := mk_zqac_15 qD t_0_0l qB h_0) (ci_zqac_15 qD t_0_0l qB h_0) _ _ e st2 h
  rw [mke_zqac_15] at this
  exact this
theorem lok_zqac_15 : LoopOk Try.prog cx_zqac b_zqac_15 T_zqac_15 := by
  intro st e st2 h
  unfold T_zqac_15 at h
  cases hk : okSt 220 13 1 [0] st with
  | false => rw [hk] at h; cases h
  | true =>
    rw [hk] at h
    exact circles_keep (ks := [0, 2, 4, 14, 15]) hk (lo1_zqac_15 _ _ _ _ _ _ e st2 h)
structure S.zqac_21_V where
  t_17_0 : Int
  h_0 : List (Ty .mat)
def S.zqac_21_R (t_0_0l : Nat) (t_14_0 : Int) (v : S.zqac_21_V) : DT (Option Nat × S.zqac_21_V) :=
let y0 : Int := xwrap IntKind.i64 (v.t_17_0 - 1)
let y1 : Int := (↑t_0_0l : Int)
let y2 : Bool := xdec (0 ≤ y0) && xdec (y0 < y1)
let y3 : Nat := 0 + y0.toNat
let y4 : Nat := v.h_0.length
let y5 : Bool := xdec (0 ≤ v.t_17_0) && xdec (v.t_17_0 < y1)
let y6 : Nat := 0 + v.t_17_0.toNat
let y7 : Bool := xdec (y6 < y4)
let y8 : Ty ET.mat := v.h_0.getD y3 (dflt ET.mat)
let y9 : List (Ty .mat) := v.h_0.set y6 { start := y8.start, fin := y8.fin, agg := y8.agg, bad := y8.bad : Mat }
let y10 : Ty ET.mat := v.h_0.getD y6 (dflt ET.mat)
(.br (xdec (v.t_17_0 > t_14_0))
(.br (y2)
(.br (xdec (y3 < y4))
(.br (y5)
(.br (y7)
(.br (y5)
(.br (y7)
(.br (y2)
(.br (xdec (y3 < y9.length))
(.leaf (none, ⟨y0, y9.set y3 { start := y10.start, fin := y10.fin, agg := y10.agg, bad := y10.bad : Mat }⟩))
.fail)
.fail)
.fail)
.fail)
.fail)
.fail)
.fail)
.fail)
(.leaf (some 0, v)))
def S.zqac_21_r (t_0_0l : Nat) (t_14_0 : Int) (v : S.zqac_21_V) : Option (Option Nat × S.zqac_21_V) := (S.zqac_21_R t_0_0l t_14_0 v).run
def S.zqac_21_j (t_0_0l : Nat) (t_14_0 : Int) (v : S.zqac_21_V) (j : Nat) : Bool := Lp_j (S.zqac_21_r t_0_0l t_14_0) v j
def S.zqac_21_v (t_0_0l : Nat) (t_14_0 : Int) (v : S.zqac_21_V) : S.zqac_21_V := Lp_v (S.zqac_21_r t_0_0l t_14_0) v
def mk_zqac_21 (qD : Bool) (t_0_0l : Nat) (t_14_0 : Int) (v : S.zqac_21_V) : St := ⟨[V.v false [C.own 0 ET.mat qD 0 t_0_0l], V.any, V.any, V.any, V.any, V.any, V.any, V.any, V.any, V.any, V.any, V.any, V.any, V.any,
  V.v false [C.d (.sc (.int .i64 t_14_0))], V.any, V.any, V.v false [C.d (.sc (.int .i64 v.t_17_0))], V.any, V.any, V.any, V.any, V.any, V.any, V.any, V.any,
  V.any, V.any, V.any, V.any, V.any, V.any, V.any, V.any, V.any, V.any, V.any, V.any, V.any, V.any, V.any, V.any, V.any, V.any, V.any, V.any, V.any, V.any, V.any, V.any, V.any,
  V.any, V.any, V.any, V.any, V.any, V.any, V.any, V.any, V.any, V.any, V.any, V.any, V.any, V.any, V.any, V.any, V.any, V.any, V.any, V.any, V.any, V.any, V.any, V.any, V.any,
  V.any, V.any, V.any, V.any, V.any, V.any, V.any, V.any, V.any, V.any, V.any, V.any, V.any, V.any, V.any, V.any, V.any, V.any, V.any, V.any, V.any, V.any, V.any, V.any, V.any,
  V.any, V.any, V.any, V.any, V.any, V.any, V.any, V.any, V.any, V.any, V.any, V.any, V.any, V.any, V.any, V.any, V.any, V.any, V.any, V.any, V.any, V.any, V.any, V.any, V.any,
  V.any, V.any, V.any, V.any, V.any, V.any, V.any, V.any, V.any, V.any, V.any, V.any, V.any, V.any, V.any, V.any, V.any, V.any, V.any, V.any, V.any, V.any, V.any, V.any, V.any,
  V.any, V.any, V.any, V.any, V.any, V.any, V.any, V.any, V.any, V.any, V.any, V.any, V.any, V.any, V.any, V.any, V.any, V.any, V.any, V.any, V.any, V.any, V.any, V.any, V.any,
  V.any, V.any, V.any, V.any, V.any, V.any, V.any, V.any, V.any, V.any, V.any, V.any, V.any, V.any, V.any, V.any, V.any, V.any, V.any, V.any, V.any, V.any, V.any, V.any, V.any,
  V.any, V.any, V.any, V.any, V.any, V.any, V.any, V.any, V.any, V.any, V.any, V.any, V.any, V.any, V.any, V.any, V.any, V.any, V.any], [some (Blk.arr 81 ET.mat v.h_0), none, none, none, none, none, none, none, none, none, none, none, none, none, none, none, none, none], 1⟩
def ex_zqac_21 (qD : Bool) (t_0_0l : Nat) (t_14_0 : Int) (j : Nat) (v : S.zqac_21_V) : Ex × St := match j with
  | 0 => (Ex.exit 6, ⟨[V.any, V.any, V.any, V.any, V.any, V.any, V.any, V.any, V.any, V.any, V.any, V.any, V.any, V.any, V.any, V.any, V.any, V.any, V.any, V.any, V.any, V.any, V.any, V.any, V.any,
  V.any, V.any, V.any, V.any, V.any, V.any, V.any, V.any, V.any, V.any, V.any, V.any, V.any, V.any, V.any, V.any, V.any, V.any, V.any, V.any, V.any, V.any, V.any, V.any, V.any,
  V.any, V.any, V.any, V.any, V.any, V.any, V.any, V.any, V.any, V.any, V.any, V.any, V.any, V.any, V.any, V.any, V.any, V.any, V.any, V.any, V.any, V.any, V.any, V.any, V.any,
  V.any, V.any, V.any, V.any, V.any, V.any, V.any, V.any, V.any, V.any, V.any, V.any, V.any, V.any, V.any, V.any, V.any, V.any, V.any, V.any, V.any, V.any, V.any, V.any, V.any,
  V.any, V.any, V.any, V.any, V.any, V.any, V.any, V.any, V.any, V.any, V.any, V.any, V.any, V.any, V.any, V.any, V.any, V.any, V.any, V.any, V.any, V.any, V.any, V.any, V.any,
  V.any, V.any, V.any, V.any, V.any, V.any, V.any, V.any, V.any, V.any, V.any, V.any, V.any, V.any, V.any, V.any, V.any, V.any, V.any, V.any, V.any, V.any, V.any, V.any, V.any,
  V.any, V.any, V.any, V.any, V.any, V.any, V.any, V.any, V.any, V.any, V.any, V.any, V.any, V.any, V.any, V.any, V.any, V.any, V.any, V.any, V.any, V.any, V.any, V.any, V.any,
  V.any, V.any, V.any, V.any, V.any, V.any, V.any, V.any, V.any, V.any, V.any, V.any, V.any, V.any, V.any, V.any, V.any, V.any, V.any, V.any, V.any, V.any, V.any, V.any, V.any,
  V.any, V.any, V.any, V.any, V.any, V.any, V.any, V.any, V.any, V.any, V.any, V.any, V.any, V.any, V.any, V.any, V.any, V.any, V.any, V.any], [some (Blk.arr 81 ET.mat v.h_0), none, none, none, none, none, none, none, none, none, none, none, none, none, none, none, none, none, none, none, none], 1⟩)
  | _ => (.ret, ⟨[], [], 0⟩)
def U_zqac_21_e0 (x : V) (K : Bool → Nat → Tree) : Tree := match x with
  | V.v false [C.own 0 ET.mat qD 0 t_0_0l] => K qD t_0_0l
  | _ => .bad
def U_zqac_21_e14 (x : V) (K : Int → Tree) : Tree := match x with
  | V.v false [C.d (.sc (.int .i64 t_14_0))] => K t_14_0
  | _ => .bad
def U_zqac_21_e17 (x : V) (K : Int → Tree) : Tree := match x with
  | V.v false [C.d (.sc (.int .i64 t_17_0))] => K t_17_0
  | _ => .bad
def U_zqac_21_h0 (x : Option Blk) (K : (List (Ty .mat)) → Tree) : Tree := match x with
  | some (Blk.arr 81 ET.mat h_0) => K h_0
  | _ => .bad
def T1_zqac_21 (e0 : V) (e14 : V) (e17 : V) (h0 : Option Blk) : Tree := U_zqac_21_e0 e0 (fun qD t_0_0l => U_zqac_21_e14 e14 (fun t_14_0 => U_zqac_21_e17 e17 (fun t_17_0 => U_zqac_21_h0 h0 (fun h_0 => exT (fun j => ex_zqac_21 qD t_0_0l t_14_0 j (S.zqac_21_v t_0_0l t_14_0 ⟨t_17_0, h_0⟩)) (S.zqac_21_j t_0_0l t_14_0 ⟨t_17_0, h_0⟩) [0]))))
def T_zqac_21 (st : St) : Tree := bif okSt 220 18 1 [0] st then T1_zqac_21 (st.env.getD 0 .any) (st.env.getD 14 .any) (st.env.getD 17 .any) (lk st.heap 0) else .bad
def b_zqac_21 : Code := loopBy Try.f160 21
theorem rnd_zqac_21 (qD : Bool) (t_0_0l : Nat) (t_14_0 : Int) (v : S.zqac_21_V) : round2 cx_zqac (hdI cx_zqac (find [(3, T_zqac_3), (9, T_zqac_9), (15, T_zqac_15)]) [] none 3) 160 b_zqac_21 [] 18 [] (mk_zqac_21 qD t_0_0l t_14_0 v) = (S.zqac_21_R t_0_0l t_14_0 v).go (roundOut (mk_zqac_21 qD t_0_0l t_14_0) (ex_zqac_21 qD t_0_0l t_14_0)) := by kernel_rfl
theorem bs_zqac_21 : loopsOf b_zqac_21 ++ loopsInl [] ++ loopsRf [] = [] := by kernel_rfl
theorem ci_zqac_21 (qD : Bool) (t_0_0l : Nat) (t_14_0 : Int) : ∀ v j v2, Lp (S.zqac_21_r t_0_0l t_14_0) v = some (j, v2) → Circles Try.prog cx_zqac b_zqac_21 (mk_zqac_21 qD t_0_0l t_14_0 v) (ex_zqac_21 qD t_0_0l t_14_0 j v2).1 (ex_zqac_21 qD t_0_0l t_14_0 j v2).2 :=
  loop_ok3 (L := find [(3, T_zqac_3), (9, T_zqac_9), (15, T_zqac_15)]) (n := 3) (hints := [(160, 33, { keep := [0, 1, 2, 3, 4, 18, 19, 20, 21, 22], acc := [] }), (160, 21, { keep := [0, 14, 17], acc := [] }), (160, 15, { keep := [0, 2, 4, 14, 15], acc := [] }), (160, 9, { keep := [0, 10, 13], acc := [] }), (160, 3, { keep := [0, 1, 4, 10, 11], acc := [] })]) (cx_ok rfl) rdy_zqac prs_zqac bs_zqac_21 nilB (fun v => (rnd_zqac_21 qD t_0_0l t_14_0 v).trans (DT.go_run _ _)) (by intro j v; unfold ex_zqac_21; split <;> rfl)
theorem mke_zqac_21 (qD : Bool) (t_0_0l : Nat) (t_14_0 : Int) (v : S.zqac_21_V) : mk_zqac_21 qD t_0_0l t_14_0 v = ⟨envOf 220 [(0, V.v false [C.own 0 ET.mat qD 0 t_0_0l]), (14, V.v false [C.d (.sc (.int .i64 t_14_0))]), (17, V.v false [C.d (.sc (.int .i64 v.t_17_0))])], heapOf 18 [(0, some (Blk.arr 81 ET.mat v.h_0))], 1⟩ := by kernel_rfl
theorem Ui_zqac_21_e0 {x : V} {K : Bool → Nat → Tree} {z : Ex × St} (h : (U_zqac_21_e0 x K).eval = some z) : ∃ (qD : Bool) (t_0_0l : Nat), x = V.v false [C.own 0 ET.mat qD 0 t_0_0l] ∧ (K qD t_0_0l).eval = some z := by
  unfold U_zqac_21_e0 at h
  split at h
  · exact ⟨_, _, rfl, h⟩
  · cases h
theorem Ui_zqac_21_e14 {x : V} {K : Int → Tree} {z : Ex × St} (h : (U_zqac_21_e14 x K).eval = some z) : ∃ (t_14_0 : Int), x = V.v false [C.d (.sc (.int .i64 t_14_0))] ∧ (K t_14_0).eval = some z := by
  unfold U_zqac_21_e14 at h
  split at h
  · exact ⟨_, rfl, h⟩
  · cases h
theorem Ui_zqac_21_e17 {x : V} {K : Int → Tree} {z : Ex × St} (h : (U_zqac_21_e17 x K).eval = some z) : ∃ (t_17_0 : Int), x = V.v false [C.d (.sc (.int .i64 t_17_0))] ∧ (K t_17_0).eval = some z := by
  unfold U_zqac_21_e17 at h
  split at h
  · exact ⟨_, rfl, h⟩
  · cases h
theorem Ui_zqac_21_h0 {x : Option Blk} {K : (List (Ty .mat)) → Tree} {z : Ex × St} (h : (U_zqac_21_h0 x K).eval = some z) : ∃ (h_0 : List (Ty .mat)), x = some (Blk.arr 81 ET.mat h_0) ∧ (K h_0).eval = some z := by
  unfold U_zqac_21_h0 at h
  split at h
  · exact ⟨_, rfl, h⟩
  · cases h
theorem lo1_zqac_21 (e0 : V) (e14 : V) (e17 : V) (h0 : Option Blk) e st2 (h : (T1_zqac_21 e0 e14 e17 h0).eval = some (e, st2)) : Circles Try.prog cx_zqac b_zqac_21 ⟨envOf 220 [(0, e0), (14, e14), (17, e17)], heapOf 18 [(0, h0)], 1⟩ e st2 := by
  unfold T1_zqac_21 at h
  obtain ⟨qD, t_0_0l, rfl, h⟩ := Ui_zqac_21_e0 h
  obtain ⟨t_14_0, rfl, h⟩ := Ui_zqac_21_e14 h
  obtain ⟨t_17_0, rfl, h⟩ := Ui_zqac_21_e17 h
  obtain ⟨h_0, rfl, h⟩ := Ui_zqac_21_h0 h
  have := loop_tree (mk := mk_zqac_21 qD t_0_0l t_14_0) (ci_zqac_21 qD t_0_0l t_14_0) _ _ e st2 h
  rw [mke_zqac_21] at this
  exact this
theorem lok_zqac_21 : LoopOk Try.prog cx_zqac b_zqac_21 T_zqac_21 := by
  intro st e st2 h
  unfold T_zqac_21 at h
  cases hk : okSt 220 18 1 [0] st with
  | false => rw [hk] at h; cases h
  | true =>
    rw [hk] at h
    exact circles_keep (ks := [0, 14, 17]) hk (lo1_zqac_21 _ _ _ _ e st2 h)
structure S.zqac_33_V where
  t_20_0 : Int
  t_21_0 : Int
def S.zqac_33_R (t_0_0l : Nat) (qE : Int) (h_0 : List (Ty .mat)) (v : S.zqac_33_V) : DT (Option Nat × S.zqac_33_V) :=
let y0 : Int := IntKind.i64.wrap ((IntKind.u64.wrap (xwrap IntKind.i64 (v.t_20_0 + v.t_21_0))).fdiv 2)
let y1 : Int := xwrap IntKind.i64 (qE - y0)
let y2 : Int := (↑t_0_0l : Int)
let y3 : Nat := 0 + y1.toNat
let y4 : Nat := h_0.length
let y5 : Nat := 0 + y0.toNat
let y6 : Int := (h_0.getD y3 (dflt ET.mat)).fin
let y7 : Int := (h_0.getD y5 (dflt ET.mat)).fin
(.br (xdec (v.t_20_0 < v.t_21_0))
(.br (xdec (1 = 1))
(.br (xdec (0 ≤ y1) && xdec (y1 < y2))
(.br (xdec (y3 < y4))
(.br (xdec (0 ≤ y0) && xdec (y0 < y2))
(.br (xdec (y5 < y4))
(.br (S.zqck_is y6 y7)
(.br (xnot (xdec ((S.zqck_o y6 y7).x0 < 0)))
(.leaf (none, ⟨xwrap IntKind.i64 (y0 + 1), v.t_21_0⟩))
(.leaf (none, ⟨v.t_20_0, y0⟩)))
.fail)
.fail)
.fail)
.fail)
.fail)
.fail)
(.leaf (some 0, v)))
def S.zqac_33_r (t_0_0l : Nat) (qE : Int) (h_0 : List (Ty .mat)) (v : S.zqac_33_V) : Option (Option Nat × S.zqac_33_V) := (S.zqac_33_R t_0_0l qE h_0 v).run
def S.zqac_33_j (t_0_0l : Nat) (qE : Int) (h_0 : List (Ty .mat)) (v : S.zqac_33_V) (j : Nat) : Bool := Lp_j (S.zqac_33_r t_0_0l qE h_0) v j
def S.zqac_33_v (t_0_0l : Nat) (qE : Int) (h_0 : List (Ty .mat)) (v : S.zqac_33_V) : S.zqac_33_V := Lp_v (S.zqac_33_r t_0_0l qE h_0) v
def mk_zqac_33 (qD : Bool) (t_0_0l : Nat) (qA : Int) (qB : Int) (qC : Int) (qF : Int) (qG : Int) (qE : Int) (h_0 : List (Ty .mat)) (v : S.zqac_33_V) : St := ⟨[V.v false [C.own 0 ET.mat qD 0 t_0_0l], V.v false [C.d (.sc (.int .i64 qA))], V.v false [C.d (.sc (.int .i64 qB))],
  V.v false [C.d (.sc (.int .i64 qC))], V.v false [C.d (D.fn 114 [] [])], V.any, V.any, V.any, V.any, V.any, V.any, V.any, V.any, V.any, V.any, V.any, V.any, V.any,
  V.v false [C.d (.sc (.int .i64 qF))], V.v false [C.d (.sc (.int .i64 qG))], V.v false [C.d (.sc (.int .i64 v.t_20_0))],
  V.v false [C.d (.sc (.int .i64 v.t_21_0))], V.v false [C.d (.sc (.int .i64 qE))], V.any, V.any, V.any, V.any, V.any, V.any, V.any, V.any, V.any, V.any,
  V.any, V.any, V.any, V.any, V.any, V.any, V.any, V.any, V.any, V.any, V.any, V.any, V.any, V.any, V.any, V.any, V.any, V.any, V.any, V.any, V.any, V.any, V.any, V.any, V.any,
  V.any, V.any, V.any, V.any, V.any, V.any, V.any, V.any, V.any, V.any, V.any, V.any, V.any, V.any, V.any, V.any, V.any, V.any, V.any, V.any, V.any, V.any, V.any, V.any, V.any,
  V.any, V.any, V.any, V.any, V.any, V.any, V.any, V.any, V.any, V.any, V.any, V.any, V.any, V.any, V.any, V.any, V.any, V.any, V.any, V.any, V.any, V.any, V.any, V.any, V.any,
  V.any, V.any, V.any, V.any, V.any, V.any, V.any, V.any, V.any, V.any, V.any, V.any, V.any, V.any, V.any, V.any, V.any, V.any, V.any, V.any, V.any, V.any, V.any, V.any, V.any,
  V.any, V.any, V.any, V.any, V.any, V.any, V.any, V.any, V.any, V.any, V.any, V.any, V.any, V.any, V.any, V.any, V.any, V.any, V.any, V.any, V.any, V.any, V.any, V.any, V.any,
  V.any, V.any, V.any, V.any, V.any, V.any, V.any, V.any, V.any, V.any, V.any, V.any, V.any, V.any, V.any, V.any, V.any, V.any, V.any, V.any, V.any, V.any, V.any, V.any, V.any,
  V.any, V.any, V.any, V.any, V.any, V.any, V.any, V.any, V.any, V.any, V.any, V.any, V.any, V.any, V.any, V.any, V.any, V.any, V.any, V.any, V.any, V.any, V.any, V.any, V.any,
  V.any, V.any, V.any, V.any, V.any, V.any, V.any, V.any, V.any, V.any, V.any, V.any], [some (Blk.arr 81 ET.mat h_0), none, none, none], 1⟩
def ex_zqac_33 (qD : Bool) (t_0_0l : Nat) (qA : Int) (qB : Int) (qC : Int) (qF : Int) (qG : Int) (qE : Int) (h_0 : List (Ty .mat)) (j : Nat) (v : S.zqac_33_V) : Ex × St := match j with
  | 0 => (Ex.exit 8, ⟨[V.v false [C.own 0 ET.mat qD 0 t_0_0l], V.v false [C.d (.sc (.int .i64 qA))], V.v false [C.d (.sc (.int .i64 qB))],
  V.v false [C.d (.sc (.int .i64 qC))], V.v false [C.d (D.fn 114 [] [])], V.any, V.any, V.any, V.any, V.any, V.any, V.any, V.any, V.any, V.any, V.any, V.any, V.any,
  V.v false [C.d (.sc (.int .i64 qF))], V.v false [C.d (.sc (.int .i64 qG))], V.v false [C.d (.sc (.int .i64 v.t_20_0))], V.any, V.any, V.any,
  V.any, V.any, V.any, V.any, V.any, V.any, V.any, V.any, V.any, V.any, V.any, V.any, V.any, V.any, V.any, V.any, V.any, V.any, V.any, V.any, V.any, V.any, V.any, V.any, V.any,
  V.any, V.any, V.any, V.any, V.any, V.any, V.any, V.any, V.any, V.any, V.any, V.any, V.any, V.any, V.any, V.any, V.any, V.any, V.any, V.any, V.any, V.any, V.any, V.any, V.any,
  V.any, V.any, V.any, V.any, V.any, V.any, V.any, V.any, V.any, V.any, V.any, V.any, V.any, V.any, V.any, V.any, V.any, V.any, V.any, V.any, V.any, V.any, V.any, V.any, V.any,
  V.any, V.any, V.any, V.any, V.any, V.any, V.any, V.any, V.any, V.any, V.any, V.any, V.any, V.any, V.any, V.any, V.any, V.any, V.any, V.any, V.any, V.any, V.any, V.any, V.any,
  V.any, V.any, V.any, V.any, V.any, V.any, V.any, V.any, V.any, V.any, V.any, V.any, V.any, V.any, V.any, V.any, V.any, V.any, V.any, V.any, V.any, V.any, V.any, V.any, V.any,
  V.any, V.any, V.any, V.any, V.any, V.any, V.any, V.any, V.any, V.any, V.any, V.any, V.any, V.any, V.any, V.any, V.any, V.any, V.any, V.any, V.any, V.any, V.any, V.any, V.any,
  V.any, V.any, V.any, V.any, V.any, V.any, V.any, V.any, V.any, V.any, V.any, V.any, V.any, V.any, V.any, V.any, V.any, V.any, V.any, V.any, V.any, V.any, V.any, V.any, V.any,
  V.any, V.any, V.any, V.any, V.any, V.any, V.any, V.any, V.any, V.any, V.any, V.any, V.any, V.any, V.any, V.any, V.any, V.any, V.any, V.any, V.any], [some (Blk.arr 81 ET.mat h_0), none, none, none, none, none, none], 1⟩)
  | _ => (.ret, ⟨[], [], 0⟩)
def U_zqac_33_e0 (x : V) (K : Bool → Nat → Tree) : Tree := match x with
  | V.v false [C.own 0 ET.mat qD 0 t_0_0l] => K qD t_0_0l
  | _ => .bad
def U_zqac_33_e1 (x : V) (K : Int → Tree) : Tree := match x with
  | V.v false [C.d (.sc (.int .i64 qA))] => K qA
  | _ => .bad
def U_zqac_33_e2 (x : V) (K : Int → Tree) : Tree := match x with
  | V.v false [C.d (.sc (.int .i64 qB))] => K qB
  | _ => .bad
def U_zqac_33_e3 (x : V) (K : Int → Tree) : Tree := match x with
  | V.v false [C.d (.sc (.int .i64 qC))] => K qC
  | _ => .bad
def U_zqac_33_e4 (x : V) (K : Tree) : Tree := match x with
  | V.v false [C.d (D.fn 114 [] [])] => K
  | _ => .bad
def U_zqac_33_e18 (x : V) (K : Int → Tree) : Tree := match x with
  | V.v false [C.d (.sc (.int .i64 qF))] => K qF
  | _ => .bad
def U_zqac_33_e19 (x : V) (K : Int → Tree) : Tree := match x with
  | V.v false [C.d (.sc (.int .i64 qG))] => K qG
  | _ => .bad
def U_zqac_33_e20 (x : V) (K : Int → Tree) : Tree := match x with
  | V.v false [C.d (.sc (.int .i64 t_20_0))] => K t_20_0
  | _ => .bad
def U_zqac_33_e21 (x : V) (K : Int → Tree) : Tree := match x with
  | V.v false [C.d (.sc (.int .i64 t_21_0))] => K t_21_0
  | _ => .bad
def U_zqac_33_e22 (x : V) (K : Int → Tree) : Tree := match x with
  | V.v false [C.d (.sc (.int .i64 qE))] => K qE
  | _ => .bad
def U_zqac_33_h0 (x : Option Blk) (K : (List (Ty .mat)) → Tree) : Tree := match x with
  | some (Blk.arr 81 ET.mat h_0) => K h_0
  | _ => .bad
def T1_zqac_33 (e0 : V) (e1 : V) (e2 : V) (e3 : V) (e4 : V) (e18 : V) (e19 : V) (e20 : V) (e21 : V) (e22 : V) (h0 : Option Blk) : Tree := U_zqac_33_e0 e0 (fun qD t_0_0l => U_zqac_33_e1 e1 (fun qA => U_zqac_33_e2 e2 (fun qB => U_zqac_33_e3 e3 (fun qC => U_zqac_33_e4 e4 (U_zqac_33_e18 e18 (fun qF => U_zqac_33_e19 e19 (fun qG => U_zqac_33_e20 e20 (fun t_20_0 => U_zqac_33_e21 e21 (fun t_21_0 => U_zqac_33_e22 e22 (fun qE => U_zqac_33_h0 h0 (fun h_0 => exT (fun j => ex_zqac_33 qD t_0_0l qA qB qC qF qG qE h_0 j (S.zqac_33_v t_0_0l qE h_0 ⟨t_20_0, t_21_0⟩)) (S.zqac_33_j t_0_0l qE h_0 ⟨t_20_0, t_21_0⟩) [0])))))))))))
def T_zqac_33 (st : St) : Tree := bif okSt 220 4 1 [0] st then T1_zqac_33 (st.env.getD 0 .any) (st.env.getD 1 .any) (st.env.getD 2 .any) (st.env.getD 3 .any) (st.env.getD 4 .any) (st.env.getD 18 .any) (st.env.getD 19 .any) (st.env.getD 20 .any) (st.env.getD 21 .any) (st.env.getD 22 .any) (lk st.heap 0) else .bad
def b_zqac_33 : Code := loopBy Try.f160 33
theorem rnd_zqac_33 (qD : Bool) (t_0_0l : Nat) (qA : Int) (qB : Int) (qC : Int) (qF : Int) (qG : Int) (qE : Int) (h_0 : List (Ty .mat)) (v : S.zqac_33_V) : round2 cx_zqac (hdI cx_zqac (find [(3, T_zqac_3), (9, T_zqac_9), (15, T_zqac_15), (21, T_zqac_21)]) [] none 3) 160 b_zqac_33 [] 4 [0, 1, 2, 3, 4, 18, 19, 20] (mk_zqac_33 qD t_0_0l qA qB qC qF qG qE h_0 v) = (S.zqac_33_R t_0_0l qE h_0 v).go (roundOut (mk_zqac_33 qD t_0_0l qA qB qC qF qG qE h_0) (ex_zqac_33 qD t_0_0l qA qB qC qF qG qE h_0)) := by kernel_rfl
theorem bs_zqac_33 : loopsOf b_zqac_33 ++ loopsInl [] ++ loopsRf [] = [] := by kernel_rfl
theorem ci_zqac_33 (qD : Bool) (t_0_0l : Nat) (qA : Int) (qB : Int) (qC : Int) (qF : Int) (qG : Int) (qE : Int) (h_0 : List (Ty .mat)) : ∀ v j v2, Lp (S.zqac_33_r t_0_0l qE h_0) v = some (j, v2) → Circles Try.prog cx_zqac b_zqac_33 (mk_zqac_33 qD t_0_0l qA qB qC qF qG qE h_0 v) (ex_zqac_33 qD t_0_0l qA qB qC qF qG qE h_0 j v2).1 (ex_zqac_33 qD t_0_0l qA qB qC qF qG qE h_0 j v2).2 :=
  loop_ok3 (L := find [(3, T_zqac_3), (9, T_zqac_9), (15, T_zqac_15), (21, T_zqac_21)]) (n := 3) (hints := [(160, 33, { keep := [0, 1, 2, 3, 4, 18, 19, 20, 21, 22], acc := [] }), (160, 21, { keep := [0, 14, 17], acc := [] }), (160, 15, { keep := [0, 2, 4, 14, 15], acc := [] }), (160, 9, { keep := [0, 10, 13], acc := [] }), (160, 3, { keep := [0, 1, 4, 10, 11], acc := [] })]) (cx_ok rfl) rdy_zqac prs_zqac bs_zqac_33 nilB (fun v => (rnd_zqac_33 qD t_0_0l qA qB qC qF qG qE h_0 v).trans (DT.go_run _ _)) (by intro j v; unfold ex_zqac_33; split <;> rfl)
theorem mke_zqac_33 (qD : Bool) (t_0_0l : Nat) (qA : Int) (qB : Int) (qC : Int) (qF : Int) (qG : Int) (qE : Int) (h_0 : List (Ty .mat)) (v : S.zqac_33_V) : mk_zqac_33 qD t_0_0l qA qB qC qF qG qE h_0 v = ⟨envOf 220 [(0, V.v false [C.own 0 ET.mat qD 0 t_0_0l]), (1, V.v false [C.d (.sc (.int .i64 qA))]), (2, V.v false [C.d (.sc (.int .i64 qB))]), (3, V.v false [C.d (.sc (.int .i64 qC))]), (4, V.v false [C.d (D.fn 114 [] [])]), (18, V.v false [C.d (.sc (.int .i64 qF))]), (19, V.v false [C.d (.sc (.int .i64 qG))]), (20, V.v false [C.d (.sc (.int .i64 v.t_20_0))]), (21, V.v false [C.d (.sc (.int .i64 v.t_21_0))]), (22, V.v false [C.d (.sc (.int .i64 qE))])], heapOf 4 [(0, some (Blk.arr 81 ET.mat h_0))], 1⟩ := by kernel_rfl
theorem Ui_zqac_33_e0 {x : V} {K : Bool → Nat → Tree} {z : Ex × St} (h : (U_zqac_33_e0 x K).eval = some z) : ∃ (qD : Bool) (t_0_0l : Nat), x = V.v false [C.own 0 ET.mat qD 0 t_0_0l] ∧ (K qD t_0_0l).eval = some z := by
  unfold U_zqac_33_e0 at h
  split at h
  · exact ⟨_, _, rfl, h⟩
  · cases h
theorem Ui_zqac_33_e1 {x : V} {K : Int → Tree} {z : Ex × St} (h : (U_zqac_33_e1 x K).eval = some z) : ∃ (qA : Int), x = V.v false [C.d (.sc (.int .i64 qA))] ∧ (K qA).eval = some z := by
  unfold U_zqac_33_e1 at h
  split at h
  · exact ⟨_, rfl, h⟩
  · cases h
theorem Ui_zqac_33_e2 {x : V} {K : Int → Tree} {z : Ex × St} (h : (U_zqac_33_e2 x K).eval = some z) : ∃ (qB : Int), x = V.v false [C.d (.sc (.int .i64 qB))] ∧ (K qB).eval = some z := by
  unfold U_zqac_33_e2 at h
  split at h
  · exact ⟨_, rfl, h⟩
  · cases h
theorem Ui_zqac_33_e3 {x : V} {K : Int → Tree} {z : Ex × St} (h : (U_zqac_33_e3 x K).eval = some z) : ∃ (qC : Int), x = V.v false [C.d (.sc (.int .i64 qC))] ∧ (K qC).eval = some z := by
  unfold U_zqac_33_e3 at h
  split at h
  · exact ⟨_, rfl, h⟩
  · cases h
theorem Ui_zqac_33_e4 {x : V} {K : Tree} {z : Ex × St} (h : (U_zqac_33_e4 x K).eval = some z) : x = V.v false [C.d (D.fn 114 [] [])] ∧ (K).eval = some z := by
  unfold U_zqac_33_e4 at h
  split at h
  · exact ⟨rfl, h⟩
  · cases h
theorem Ui_zqac_33_e18 {x : V} {K : Int → Tree} {z : Ex × St} (h : (U_zqac_33_e18 x K).eval = some z) : ∃ (qF : Int), x = V.v false [C.d (.sc (.int .i64 qF))] ∧ (K qF).eval = some z := by
  unfold U_zqac_33_e18 at h
  split at h
  · exact ⟨_, rfl, h⟩
  · cases h
theorem Ui_zqac_33_e19 {x : V} {K : Int → Tree} {z : Ex × St} (h : (U_zqac_33_e19 x K).eval = some z) : ∃ (qG : Int), x = V.v false [C.d (.sc (.int .i64 qG))] ∧ (K qG).eval = some z := by
  unfold U_zqac_33_e19 at h
  split at h
  · exact ⟨_, rfl, h⟩
  · cases h
theorem Ui_zqac_33_e20 {x : V} {K : Int → Tree} {z : Ex × St} (h : (U_zqac_33_e20 x K).eval = some z) : ∃ (t_20_0 : Int), x = V.v false [C.d (.sc (.int .i64 t_20_0))] ∧ (K t_20_0).eval = some z := by
  unfold U_zqac_33_e20 at h
  split at h
  · exact ⟨_, rfl, h⟩
  · cases h
theorem Ui_zqac_33_e21 {x : V} {K : Int → Tree} {z : Ex × St} (h : (U_zqac_33_e21 x K).eval = some z) : ∃ (t_21_0 : Int), x = V.v false [C.d (.sc (.int .i64 t_21_0))] ∧ (K t_21_0).eval = some z := by
  unfold U_zqac_33_e21 at h
  split at h
  · exact ⟨_, rfl, h⟩
  · cases h
theorem Ui_zqac_33_e22 {x : V} {K : Int → Tree} {z : Ex × St} (h : (U_zqac_33_e22 x K).eval = some z) : ∃ (qE : Int), x = V.v false [C.d (.sc (.int .i64 qE))] ∧ (K qE).eval = some z := by
  unfold U_zqac_33_e22 at h
  split at h
  · exact ⟨_, rfl, h⟩
  · cases h
theorem Ui_zqac_33_h0 {x : Option Blk} {K : (List (Ty .mat)) → Tree} {z : Ex × St} (h : (U_zqac_33_h0 x K).eval = some z) : ∃ (h_0 : List (Ty .mat)), x = some (Blk.arr 81 ET.mat h_0) ∧ (K h_0).eval = some z := by
  unfold U_zqac_33_h0 at h
  split at h
  · exact ⟨_, rfl, h⟩
  · cases h
theorem lo1_zqac_33 (e0 : V) (e1 : V) (e2 : V) (e3 : V) (e4 : V) (e18 : V) (e19 : V) (e20 : V) (e21 : V) (e22 : V) (h0 : Option Blk) e st2 (h : (T1_zqac_33 e0 e1 e2 e3 e4 e18 e19 e20 e21 e22 h0).eval = some (e, st2)) : Circles Try.prog cx_zqac b_zqac_33 ⟨envOf 220 [(0, e0), (1, e1), (2, e2), (3, e3), (4, e4), (18, e18), (19, e19), (20, e20), (21, e21), (22, e22)], heapOf 4 [(0, h0)], 1⟩ e st2 := by
  unfold T1_zqac_33 at h
  obtain ⟨qD, t_0_0l, rfl, h⟩ := Ui_zqac_33_e0 h
  obtain ⟨qA, rfl, h⟩ := Ui_zqac_33_e1 h
  obtain ⟨qB, rfl, h⟩ := Ui_zqac_33_e2 h
  obtain ⟨qC, rfl, h⟩ := Ui_zqac_33_e3 h
  obtain ⟨rfl, h⟩ := Ui_zqac_33_e4 h
  obtain ⟨qF, rfl, h⟩ := Ui_zqac_33_e18 h
  obtain ⟨qG, rfl, h⟩ := Ui_zqac_33_e19 h
  obtain ⟨t_20_0, rfl, h⟩ := Ui_zqac_33_e20 h
  obtain ⟨t_21_0, rfl, h⟩ := Ui_zqac_33_e21 h
  obtain ⟨qE, rfl, h⟩ := Ui_zqac_33_e22 h
  obtain ⟨h_0, rfl, h⟩ := Ui_zqac_33_h0 h
  have := loop_tree (mk := mk_zqac_33 qD t_0_0l qA qB qC qF qG qE h_0) (ci_zqac_33 qD t_0_0l qA qB qC qF qG qE h_0) _ _ e st2 h
  rw [mke_zqac_33] at this
  exact this
theorem lok_zqac_33 : LoopOk Try.prog cx_zqac b_zqac_33 T_zqac_33 := by
  intro st e st2 h
  unfold T_zqac_33 at h
  cases hk : okSt 220 4 1 [0] st with
  | false => rw [hk] at h; cases h
  | true =>
    rw [hk] at h
    exact circles_keep (ks := [0, 1, 2, 3, 4, 18, 19, 20, 21, 22]) hk (lo1_zqac_33 _ _ _ _ _ _ _ _ _ _ _ e st2 h)
structure S.zqac_c32_T where
  x0 : List (Ty .mat)
  deriving Inhabited
def S.zqac_c32_R (t_0_0l : Nat) (qA : Int) (qB : Int) (qC : Int) (qF : Int) (qG : Int) (t_20_0 : Int) (t_21_0 : Int) (h_0 : List (Ty .mat)) : DT S.zqac_c32_T :=
let y0 : Int := xwrap IntKind.i64 (qG - 1)
let y1 : Int := (S.zqac_33_v t_0_0l y0 h_0 { t_20_0 := t_20_0, t_21_0 := t_21_0 : S.zqac_33_V }).t_20_0
let y2 : Int := xwrap IntKind.i64 (qG - y1)
let y3 : Bool := xdec (t_0_0l = h_0.length)
let y4 : Bool := xdec (qA < y1)
let y5 : Bool := xdec (y1 < qF)
let y6 : List (Ty .mat) := (S.zqae_o h_0 y1 qB y2).x0
let y7 : Bool := xdec (t_0_0l = y6.length)
let y8 : Bool := xdec (qF < y2)
let y9 : Bool := xdec (y2 < qC)
let y10 : List (Ty .mat) := S.symRec_o y6 qA y1 qF
let y11 : Bool := y7 && S.symRec_is y6 qF y2 qC
let y12 : List (Ty .mat) := S.symRec_o y6 qF y2 qC
let y13 : Bool := y3 && S.symRec_is h_0 qA y1 qF
let y14 : List (Ty .mat) := S.symRec_o h_0 qA y1 qF
let y15 : Bool := xdec (t_0_0l = y14.length) && S.symRec_is y14 qF y2 qC
let y16 : List (Ty .mat) := S.symRec_o y14 qF y2 qC
let y17 : Bool := y3 && S.symRec_is h_0 qF y2 qC
let y18 : List (Ty .mat) := S.symRec_o h_0 qF y2 qC
(.br (S.zqac_33_j t_0_0l y0 h_0 { t_20_0 := t_20_0, t_21_0 := t_21_0 : S.zqac_33_V } 0)
(.br (xdec (y1 < qB))
(.br (xdec (qB < y2))
(.br (y3 && S.zqae_is h_0 y1 qB y2)
(.br (y4)
(.br (y5)
(.br (y7 && S.symRec_is y6 qA y1 qF)
(.br (y8)
(.br (y9)
(.br (xdec (t_0_0l = y10.length) && S.symRec_is y10 qF y2 qC)
(.leaf ⟨S.symRec_o y10 qF y2 qC⟩)
.fail)
(.leaf ⟨y10⟩))
(.leaf ⟨y10⟩))
.fail)
(.br (y8)
(.br (y9)
(.br (y11)
(.leaf ⟨y12⟩)
.fail)
(.leaf ⟨y6⟩))
(.leaf ⟨y6⟩)))
(.br (y8)
(.br (y9)
(.br (y11)
(.leaf ⟨y12⟩)
.fail)
(.leaf ⟨y6⟩))
(.leaf ⟨y6⟩)))
.fail)
(.br (y4)
(.br (y5)
(.br (y13)
(.br (y8)
(.br (y9)
(.br (y15)
(.leaf ⟨y16⟩)
.fail)
(.leaf ⟨y14⟩))
(.leaf ⟨y14⟩))
.fail)
(.br (y8)
(.br (y9)
(.br (y17)
(.leaf ⟨y18⟩)
.fail)
(.leaf ⟨h_0⟩))
(.leaf ⟨h_0⟩)))
(.br (y8)
(.br (y9)
(.br (y17)
(.leaf ⟨y18⟩)
.fail)
(.leaf ⟨h_0⟩))
(.leaf ⟨h_0⟩))))
(.br (y4)
(.br (y5)
(.br (y13)
(.br (y8)
(.br (y9)
(.br (y15)
(.leaf ⟨y16⟩)
.fail)
(.leaf ⟨y14⟩))
(.leaf ⟨y14⟩))
.fail)
(.br (y8)
(.br (y9)
(.br (y17)
(.leaf ⟨y18⟩)
.fail)
(.leaf ⟨h_0⟩))
(.leaf ⟨h_0⟩)))
(.br (y8)
(.br (y9)
(.br (y17)
(.leaf ⟨y18⟩)
.fail)
(.leaf ⟨h_0⟩))
(.leaf ⟨h_0⟩))))
.fail)
def S.zqac_c32 (t_0_0l : Nat) (qA : Int) (qB : Int) (qC : Int) (qF : Int) (qG : Int) (t_20_0 : Int) (t_21_0 : Int) (h_0 : List (Ty .mat)) : Option S.zqac_c32_T := (S.zqac_c32_R t_0_0l qA qB qC qF qG t_20_0 t_21_0 h_0).run
def S.zqac_c32_is (t_0_0l : Nat) (qA : Int) (qB : Int) (qC : Int) (qF : Int) (qG : Int) (t_20_0 : Int) (t_21_0 : Int) (h_0 : List (Ty .mat)) : Bool := (S.zqac_c32 t_0_0l qA qB qC qF qG t_20_0 t_21_0 h_0).isSome
def S.zqac_c32_o (t_0_0l : Nat) (qA : Int) (qB : Int) (qC : Int) (qF : Int) (qG : Int) (t_20_0 : Int) (t_21_0 : Int) (h_0 : List (Ty .mat)) : S.zqac_c32_T := (S.zqac_c32 t_0_0l qA qB qC qF qG t_20_0 t_21_0 h_0).getD default
def mk_zqac_c32 (qD : Bool) (t_0_0l : Nat) (qA : Int) (qB : Int) (qC : Int) (qF : Int) (qG : Int) (t_20_0 : Int) (t_21_0 : Int) (h_0 : List (Ty .mat)) : St := ⟨[V.v false [C.own 0 ET.mat qD 0 t_0_0l], V.v false [C.d (.sc (.int .i64 qA))], V.v false [C.d (.sc (.int .i64 qB))],
  V.v false [C.d (.sc (.int .i64 qC))], V.v false [C.d (D.fn 114 [] [])], V.any, V.any, V.any, V.any, V.any, V.any, V.any, V.any, V.any, V.any, V.any, V.any, V.any,
  V.v false [C.d (.sc (.int .i64 qF))], V.v false [C.d (.sc (.int .i64 qG))], V.v false [C.d (.sc (.int .i64 t_20_0))],
  V.v false [C.d (.sc (.int .i64 t_21_0))], V.any, V.any, V.any, V.any, V.any, V.any, V.any, V.any, V.any, V.any, V.any, V.any, V.any, V.any, V.any, V.any, V.any, V.any,
  V.any, V.any, V.any, V.any, V.any, V.any, V.any, V.any, V.any, V.any, V.any, V.any, V.any, V.any, V.any, V.any, V.any, V.any, V.any, V.any, V.any, V.any, V.any, V.any, V.any,
  V.any, V.any, V.any, V.any, V.any, V.any, V.any, V.any, V.any, V.any, V.any, V.any, V.any, V.any, V.any, V.any, V.any, V.any, V.any, V.any, V.any, V.any, V.any, V.any, V.any,
  V.any, V.any, V.any, V.any, V.any, V.any, V.any, V.any, V.any, V.any, V.any, V.any, V.any, V.any, V.any, V.any, V.any, V.any, V.any, V.any, V.any, V.any, V.any, V.any, V.any,
  V.any, V.any, V.any, V.any, V.any, V.any, V.any, V.any, V.any, V.any, V.any, V.any, V.any, V.any, V.any, V.any, V.any, V.any, V.any, V.any, V.any, V.any, V.any, V.any, V.any,
  V.any, V.any, V.any, V.any, V.any, V.any, V.any, V.any, V.any, V.any, V.any, V.any, V.any, V.any, V.any, V.any, V.any, V.any, V.any, V.any, V.any, V.any, V.any, V.any, V.any,
  V.any, V.any, V.any, V.any, V.any, V.any, V.any, V.any, V.any, V.any, V.any, V.any, V.any, V.any, V.any, V.any, V.any, V.any, V.any, V.any, V.any, V.any, V.any, V.any, V.any,
  V.any, V.any, V.any, V.any, V.any, V.any, V.any, V.any, V.any, V.any, V.any, V.any, V.any, V.any, V.any, V.any, V.any, V.any, V.any, V.any, V.any, V.any, V.any, V.any, V.any,
  V.any, V.any, V.any, V.any, V.any], [some (Blk.arr 81 ET.mat h_0)], 1⟩
def out_zqac_c32 (r : S.zqac_c32_T) : St := ⟨[V.any, V.any, V.any, V.any, V.any, V.any, V.any, V.any, V.any, V.any, V.any, V.any, V.any, V.any, V.any, V.any, V.any, V.any, V.any, V.any, V.any, V.any, V.any, V.any, V.any,
  V.any, V.any, V.any, V.any, V.any, V.any, V.any, V.any, V.any, V.any, V.any, V.any, V.any, V.any, V.any, V.any, V.any, V.any, V.any, V.any, V.any, V.any, V.any, V.any, V.any,
  V.any, V.any, V.any, V.any, V.any, V.any, V.any, V.any, V.any, V.any, V.any, V.any, V.any, V.any, V.any, V.any, V.any, V.any, V.any, V.any, V.any, V.any, V.any, V.any, V.any,
  V.any, V.any, V.any, V.any, V.any, V.any, V.any, V.any, V.any, V.any, V.any, V.any, V.any, V.any, V.any, V.any, V.any, V.any, V.any, V.any, V.any, V.any, V.any, V.any, V.any,
  V.any, V.any, V.any, V.any, V.any, V.any, V.any, V.any, V.any, V.any, V.any, V.any, V.any, V.any, V.any, V.any, V.any, V.any, V.any, V.any, V.any, V.any, V.any, V.any, V.any,
  V.any, V.any, V.any, V.any, V.any, V.any, V.any, V.any, V.any, V.any, V.any, V.any, V.any, V.any, V.any, V.any, V.any, V.any, V.any, V.any, V.any, V.any, V.any, V.any, V.any,
  V.any, V.any, V.any, V.any, V.any, V.any, V.any, V.any, V.any, V.any, V.any, V.any, V.any, V.any, V.any, V.any, V.any, V.any, V.any, V.any, V.any, V.any, V.any, V.any, V.any,
  V.any, V.any, V.any, V.any, V.any, V.any, V.any, V.any, V.any, V.any, V.any, V.any, V.any, V.any, V.any, V.any, V.any, V.any, V.any, V.any, V.any, V.any, V.any, V.any, V.any,
  V.any, V.any, V.any, V.any, V.any, V.any, V.any, V.any, V.any, V.any, V.any, V.any, V.any, V.any, V.any, V.any, V.any, V.any, V.any, V.any], [some (Blk.arr 81 ET.mat r.x0)], 1⟩
def U_zqac_c32_e0 (x : V) (K : Bool → Nat → Tree) : Tree := match x with
  | V.v false [C.own 0 ET.mat qD 0 t_0_0l] => K qD t_0_0l
  | _ => .bad
def U_zqac_c32_e1 (x : V) (K : Int → Tree) : Tree := match x with
  | V.v false [C.d (.sc (.int .i64 qA))] => K qA
  | _ => .bad
def U_zqac_c32_e2 (x : V) (K : Int → Tree) : Tree := match x with
  | V.v false [C.d (.sc (.int .i64 qB))] => K qB
  | _ => .bad
def U_zqac_c32_e3 (x : V) (K : Int → Tree) : Tree := match x with
  | V.v false [C.d (.sc (.int .i64 qC))] => K qC
  | _ => .bad
def U_zqac_c32_e4 (x : V) (K : Tree) : Tree := match x with
  | V.v false [C.d (D.fn 114 [] [])] => K
  | _ => .bad
def U_zqac_c32_e18 (x : V) (K : Int → Tree) : Tree := match x with
  | V.v false [C.d (.sc (.int .i64 qF))] => K qF
  | _ => .bad
def U_zqac_c32_e19 (x : V) (K : Int → Tree) : Tree := match x with
  | V.v false [C.d (.sc (.int .i64 qG))] => K qG
  | _ => .bad
def U_zqac_c32_e20 (x : V) (K : Int → Tree) : Tree := match x with
  | V.v false [C.d (.sc (.int .i64 t_20_0))] => K t_20_0
  | _ => .bad
def U_zqac_c32_e21 (x : V) (K : Int → Tree) : Tree := match x with
  | V.v false [C.d (.sc (.int .i64 t_21_0))] => K t_21_0
  | _ => .bad
def U_zqac_c32_h0 (x : Option Blk) (K : (List (Ty .mat)) → Tree) : Tree := match x with
  | some (Blk.arr 81 ET.mat h_0) => K h_0
  | _ => .bad
def T1_zqac_c32 (e0 : V) (e1 : V) (e2 : V) (e3 : V) (e4 : V) (e18 : V) (e19 : V) (e20 : V) (e21 : V) (h0 : Option Blk) : Tree := U_zqac_c32_e0 e0 (fun qD t_0_0l => U_zqac_c32_e1 e1 (fun qA => U_zqac_c32_e2 e2 (fun qB => U_zqac_c32_e3 e3 (fun qC => U_zqac_c32_e4 e4 (U_zqac_c32_e18 e18 (fun qF => U_zqac_c32_e19 e19 (fun qG => U_zqac_c32_e20 e20 (fun t_20_0 => U_zqac_c32_e21 e21 (fun t_21_0 => U_zqac_c32_h0 h0 (fun h_0 => .br (S.zqac_c32_is t_0_0l qA qB qC qF qG t_20_0 t_21_0 h_0) (.leaf Ex.normal (out_zqac_c32 (S.zqac_c32_o t_0_0l qA qB qC qF qG t_20_0 t_21_0 h_0))) .bad))))))))))
def T_zqac_c32 (st : St) : Tree := bif okSt 220 1 1 [0] st then T1_zqac_c32 (st.env.getD 0 .any) (st.env.getD 1 .any) (st.env.getD 2 .any) (st.env.getD 3 .any) (st.env.getD 4 .any) (st.env.getD 18 .any) (st.env.getD 19 .any) (st.env.getD 20 .any) (st.env.getD 21 .any) (lk st.heap 0) else .bad
theorem rnd_zqac_c32 (qD : Bool) (t_0_0l : Nat) (qA : Int) (qB : Int) (qC : Int) (qF : Int) (qG : Int) (t_20_0 : Int) (t_21_0 : Int) (h_0 : List (Ty .mat)) : tail2 cx_zqac (hdI cx_zqac (find [(3, T_zqac_3), (9, T_zqac_9), (15, T_zqac_15), (21, T_zqac_21), (33, T_zqac_33)]) [] none 3) (find [(3, T_zqac_3), (9, T_zqac_9), (15, T_zqac_15), (21, T_zqac_21), (33, T_zqac_33)]) 160 ⟨999999, [], 0⟩ b_zqac_c32 [] (mk_zqac_c32 qD t_0_0l qA qB qC qF qG t_20_0 t_21_0 h_0) = (S.zqac_c32_R t_0_0l qA qB qC qF qG t_20_0 t_21_0 h_0).go (fun r => (Ex.normal, out_zqac_c32 r)) := by kernel_rfl
theorem bs_zqac_c32 : loopsOf b_zqac_c32 ++ loopsInl [] = [b_zqac_33] := by kernel_rfl
theorem ci_zqac_c32 (qD : Bool) (t_0_0l : Nat) (qA : Int) (qB : Int) (qC : Int) (qF : Int) (qG : Int) (t_20_0 : Int) (t_21_0 : Int) (h_0 : List (Ty .mat)) : ∀ x, S.zqac_c32 t_0_0l qA qB qC qF qG t_20_0 t_21_0 h_0 = some x → Lands Try.prog cx_zqac false b_zqac_c32 (mk_zqac_c32 qD t_0_0l qA qB qC qF qG t_20_0 t_21_0 h_0) Ex.normal (out_zqac_c32 x) :=
  cut_ok (q := ⟨999999, [], 0⟩) (L := find [(3, T_zqac_3), (9, T_zqac_9), (15, T_zqac_15), (21, T_zqac_21), (33, T_zqac_33)]) (n := 3) (hints := [(160, 33, { keep := [0, 1, 2, 3, 4, 18, 19, 20, 21, 22], acc := [] }), (160, 21, { keep := [0, 14, 17], acc := [] }), (160, 15, { keep := [0, 2, 4, 14, 15], acc := [] }), (160, 9, { keep := [0, 10, 13], acc := [] }), (160, 3, { keep := [0, 1, 4, 10, 11], acc := [] })]) (cx_ok rfl) rdy_zqac prs_zqac bs_zqac_c32 (consB (fun T h => by have e : T_zqac_33 = T := Option.some.inj (show some T_zqac_33 = some T from h); exact e ▸ lok_zqac_33) nilB) (fun T h => by have e : (none : Option (St → Tree)) = some T := h; cases e) (rnd_zqac_c32 qD t_0_0l qA qB qC qF qG t_20_0 t_21_0 h_0)
theorem mke_zqac_c32 (qD : Bool) (t_0_0l : Nat) (qA : Int) (qB : Int) (qC : Int) (qF : Int) (qG : Int) (t_20_0 : Int) (t_21_0 : Int) (h_0 : List (Ty .mat)) : mk_zqac_c32 qD t_0_0l qA qB qC qF qG t_20_0 t_21_0 h_0 = ⟨envOf 220 [(0, V.v false [C.own 0 ET.mat qD 0 t_0_0l]), (1, V.v false [C.d (.sc (.int .i64 qA))]), (2, V.v false [C.d (.sc (.int .i64 qB))]), (3, V.v false [C.d (.sc (.int .i64 qC))]), (4, V.v false [C.d (D.fn 114 [] [])]), (18, V.v false [C.d (.sc (.int .i64 qF))]), (19, V.v false [C.d (.sc (.int .i64 qG))]), (20, V.v false [C.d (.sc (.int .i64 t_20_0))]), (21, V.v false [C.d (.sc (.int .i64 t_21_0))])], heapOf 1 [(0, some (Blk.arr 81 ET.mat h_0))], 1⟩ := by kernel_rfl
theorem Ui_zqac_c32_e0 {x : V} {K : Bool → Nat → Tree} {z : Ex × St} (h : (U_zqac_c32_e0 x K).eval = some z) : ∃ (qD : Bool) (t_0_0l : Nat), x = V.v false [C.own 0 ET.mat qD 0 t_0_0l] ∧ (K qD t_0_0l).eval = some z := by
  unfold U_zqac_c32_e0 at h
  split at h
  · exact ⟨_, _, rfl, h⟩
  · cases h
theorem Ui_zqac_c32_e1 {x : V} {K : Int → Tree} {z : Ex × St} (h : (U_zqac_c32_e1 x K).eval = some z) : ∃ (qA : Int), x = V.v false [C.d (.sc (.int .i64 qA))] ∧ (K qA).eval = some z := by
  unfold U_zqac_c32_e1 at h
  split at h
  · exact ⟨_, rfl, h⟩
  · cases h
theorem Ui_zqac_c32_e2 {x : V} {K : Int → Tree} {z : Ex × St} (h : (U_zqac_c32_e2 x K).eval = some z) : ∃ (qB : Int), x = V.v false [C.d (.sc (.int .i64 qB))] ∧ (K qB).eval = some z := by
  unfold U_zqac_c32_e2 at h
  split at h
  · exact ⟨_, rfl, h⟩
  · cases h
theorem Ui_zqac_c32_e3 {x : V} {K : Int → Tree} {z : Ex × St} (h : (U_zqac_c32_e3 x K).eval = some z) : ∃ (qC : Int), x = V.v false [C.d (.sc (.int .i64 qC))] ∧ (K qC).eval = some z := by
  unfold U_zqac_c32_e3 at h
  split at h
  · exact ⟨_, rfl, h⟩
  · cases h
theorem Ui_zqac_c32_e4 {x : V} {K : Tree} {z : Ex × St} (h : (U_zqac_c32_e4 x K).eval = some z) : x = V.v false [C.d (D.fn 114 [] [])] ∧ (K).eval = some z := by
  unfold U_zqac_c32_e4 at h
  split at h
  · exact ⟨rfl, h⟩
  · cases h
theorem Ui_zqac_c32_e18 {x : V} {K : Int → Tree} {z : Ex × St} (h : (U_zqac_c32_e18 x K).eval = some z) : ∃ (qF : Int), x = V.v false [C.d (.sc (.int .i64 qF))] ∧ (K qF).eval = some z := by
  unfold U_zqac_c32_e18 at h
  split at h
  · exact ⟨_, rfl, h⟩
  · cases h
theorem Ui_zqac_c32_e19 {x : V} {K : Int → Tree} {z : Ex × St} (h : (U_zqac_c32_e19 x K).eval = some z) : ∃ (qG : Int), x = V.v false [C.d (.sc (.int .i64 qG))] ∧ (K qG).eval = some z := by
  unfold U_zqac_c32_e19 at h
  split at h
  · exact ⟨_, rfl, h⟩
  · cases h
theorem Ui_zqac_c32_e20 {x : V} {K : Int → Tree} {z : Ex × St} (h : (U_zqac_c32_e20 x K).eval = some z) : ∃ (t_20_0 : Int), x = V.v false [C.d (.sc (.int .i64 t_20_0))] ∧ (K t_20_0).eval = some z := by
  unfold U_zqac_c32_e20 at h
  split at h
  · exact ⟨_, rfl, h⟩
  · cases h
theorem Ui_zqac_c32_e21 {x : V} {K : Int → Tree} {z : Ex × St} (h : (U_zqac_c32_e21 x K).eval = some z) : ∃ (t_21_0 : Int), x = V.v false [C.d (.sc (.int .i64 t_21_0))] ∧ (K t_21_0).eval = some z := by
  unfold U_zqac_c32_e21 at h
  split at h
  · exact ⟨_, rfl, h⟩
  · cases h
theorem Ui_zqac_c32_h0 {x : Option Blk} {K : (List (Ty .mat)) → Tree} {z : Ex × St} (h : (U_zqac_c32_h0 x K).eval = some z) : ∃ (h_0 : List (Ty .mat)), x = some (Blk.arr 81 ET.mat h_0) ∧ (K h_0).eval = some z := by
  unfold U_zqac_c32_h0 at h
  split at h
  · exact ⟨_, rfl, h⟩
  · cases h
theorem lo1_zqac_c32 (e0 : V) (e1 : V) (e2 : V) (e3 : V) (e4 : V) (e18 : V) (e19 : V) (e20 : V) (e21 : V) (h0 : Option Blk) e st2 (h : (T1_zqac_c32 e0 e1 e2 e3 e4 e18 e19 e20 e21 h0).eval = some (e, st2)) : Lands Try.prog cx_zqac false b_zqac_c32 ⟨envOf 220 [(0, e0), (1, e1), (2, e2), (3, e3), (4, e4), (18, e18), (19, e19), (20, e20), (21, e21)], heapOf 1 [(0, h0)], 1⟩ e st2 := by
  unfold T1_zqac_c32 at h
  obtain ⟨qD, t_0_0l, rfl, h⟩ := Ui_zqac_c32_e0 h
  obtain ⟨qA, rfl, h⟩ := Ui_zqac_c32_e1 h
  obtain ⟨qB, rfl, h⟩ := Ui_zqac_c32_e2 h
  obtain ⟨qC, rfl, h⟩ := Ui_zqac_c32_e3 h
  obtain ⟨rfl, h⟩ := Ui_zqac_c32_e4 h
  obtain ⟨qF, rfl, h⟩ := Ui_zqac_c32_e18 h
  obtain ⟨qG, rfl, h⟩ := Ui_zqac_c32_e19 h
  obtain ⟨t_20_0, rfl, h⟩ := Ui_zqac_c32_e20 h
  obtain ⟨t_21_0, rfl, h⟩ := Ui_zqac_c32_e21 h
  obtain ⟨h_0, rfl, h⟩ := Ui_zqac_c32_h0 h
  have := cut_tree (ci_zqac_c32 qD t_0_0l qA qB qC qF qG t_20_0 t_21_0 h_0) h
  rw [mke_zqac_c32] at this
  exact this
theorem lok_zqac_c32 : CutOk Try.prog cx_zqac b_zqac_c32 T_zqac_c32 := by
  intro st e st2 h
  unfold T_zqac_c32 at h
  cases hk : okSt 220 1 1 [0] st with
  | false => rw [hk] at h; cases h
  | true =>
    rw [hk] at h
    exact lands_keep (ks := [0, 1, 2, 3, 4, 18, 19, 20, 21]) hk (lo1_zqac_c32 _ _ _ _ _ _ _ _ _ _ e st2 h)
structure S.zqac_T where
  x0 : List (Ty .mat)
  deriving Inhabited
def S.zqac_R (a0 : List (Ty .mat)) (a1 : Int) (a2 : Int) (a3 : Int) : DT S.zqac_T :=
let y0 : Nat := a0.length
let y1 : Int := (S.zqac_3_v y0 a1 a0 { t_10_0 := a2, t_11_0 := a3 : S.zqac_3_V }).t_10_0
let y2 : Int := (S.zqac_15_v y0 a2 a0 { t_14_0 := a1, t_15_0 := a2 : S.zqac_15_V }).t_14_0
let y3 : Int := IntKind.i64.wrap ((IntKind.u64.wrap (xwrap IntKind.i64 (a1 + a3))).fdiv 2)
let y4 : Int := xwrap IntKind.i64 (y3 + a2)
let y5 : Int := xwrap IntKind.i64 (y4 - a3)
(.br (xeqI (xwrap IntKind.i64 (a2 - a1)) 1)
(.br (S.zqac_3_j y0 a1 a0 { t_10_0 := a2, t_11_0 := a3 : S.zqac_3_V } 0)
(.br (S.zqac_9_j y0 y1 { t_13_0 := a1, h_0 := a0 : S.zqac_9_V } 0)
(.leaf ⟨(S.zqac_9_v y0 y1 { t_13_0 := a1, h_0 := a0 : S.zqac_9_V }).h_0⟩)
.fail)
.fail)
(.br (xeqI (xwrap IntKind.i64 (a3 - a2)) 1)
(.br (S.zqac_15_j y0 a2 a0 { t_14_0 := a1, t_15_0 := a2 : S.zqac_15_V } 0)
(.br (S.zqac_21_j y0 y2 { t_17_0 := a2, h_0 := a0 : S.zqac_21_V } 0)
(.leaf ⟨(S.zqac_21_v y0 y2 { t_17_0 := a2, h_0 := a0 : S.zqac_21_V }).h_0⟩)
.fail)
.fail)
(.br (xdec (1 = 1))
(.br (xdec (a2 > y3))
(.br (S.zqac_c32_is y0 a1 a2 a3 y3 y4 y5 y3 a0)
(.leaf ⟨(S.zqac_c32_o y0 a1 a2 a3 y3 y4 y5 y3 a0).x0⟩)
.fail)
(.br (S.zqac_c32_is y0 a1 a2 a3 y3 y4 a1 a2 a0)
(.leaf ⟨(S.zqac_c32_o y0 a1 a2 a3 y3 y4 a1 a2 a0).x0⟩)
.fail))
.fail)))
def S.zqac (a0 : List (Ty .mat)) (a1 : Int) (a2 : Int) (a3 : Int) : Option S.zqac_T := (S.zqac_R a0 a1 a2 a3).run
def S.zqac_is (a0 : List (Ty .mat)) (a1 : Int) (a2 : Int) (a3 : Int) : Bool := (S.zqac a0 a1 a2 a3).isSome
def S.zqac_o (a0 : List (Ty .mat)) (a1 : Int) (a2 : Int) (a3 : Int) : S.zqac_T := (S.zqac a0 a1 a2 a3).getD default
def ret_zqac (b : Bool) (r : S.zqac_T) : Ret := ⟨b, some (81, (⟨ET.mat, r.x0⟩ : (t : ET) × List (Ty t))), []⟩
def si_zqac (a0f : Bool) (a0 : List (Ty .mat)) : List DArg → Bool
  | [(false, [.sc (.int .i64 a1)]), (false, [.sc (.int .i64 a2)]), (false, [.sc (.int .i64 a3)]), (false, [.fn 114 [] []])] => S.zqac_is a0 a1 a2 a3
  | _ => false
def so_zqac (a0f : Bool) (a0 : List (Ty .mat)) : List DArg → List (Ty .mat)
  | [(false, [.sc (.int .i64 a1)]), (false, [.sc (.int .i64 a2)]), (false, [.sc (.int .i64 a3)]), (false, [.fn 114 [] []])] => (S.zqac_o a0 a1 a2 a3).x0
  | _ => a0
def p_zqac : Proc := rowProc 81 .mat si_zqac so_zqac
theorem raw_zqac (a0f : Bool) (a0 : List (Ty .mat)) (a1 : Int) (a2 : Int) (a3 : Int) : evPC cx_zqac (hdI cx_zqac (find [(3, T_zqac_3), (9, T_zqac_9), (15, T_zqac_15), (21, T_zqac_21), (33, T_zqac_33), (1000032, T_zqac_c32)]) [] none 3) (find [(3, T_zqac_3), (9, T_zqac_9), (15, T_zqac_15), (21, T_zqac_21), (33, T_zqac_33), (1000032, T_zqac_c32)]) (⟨32, [0, 1, 2, 3, 4, 18, 19, 20, 21], 1⟩) none Try.f160 160 (some 81) [(false, [.sl none a0f .mat a0]), (false, [.sc (.int .i64 a1)]), (false, [.sc (.int .i64 a2)]), (false, [.sc (.int .i64 a3)]), (false, [.fn 114 [] []])] some = (S.zqac_R a0 a1 a2 a3).go (ret_zqac true) := by kernel_rfl
theorem bs_zqac : loopsIn Try.f160 [] = [b_zqac_3, b_zqac_9, b_zqac_15, b_zqac_21, b_zqac_33] := by kernel_rfl
theorem zqac_ok : StandsP Try.prog tyTab 160 p_zqac := by
  refine standsPC (q := ⟨32, [0, 1, 2, 3, 4, 18, 19, 20, 21], 1⟩) (L := find [(3, T_zqac_3), (9, T_zqac_9), (15, T_zqac_15), (21, T_zqac_21), (33, T_zqac_33), (1000032, T_zqac_c32)]) (n := 3) (hints := [(160, 33, { keep := [0, 1, 2, 3, 4, 18, 19, 20, 21, 22], acc := [] }), (160, 21, { keep := [0, 14, 17], acc := [] }), (160, 15, { keep := [0, 2, 4, 14, 15], acc := [] }), (160, 9, { keep := [0, 10, 13], acc := [] }), (160, 3, { keep := [0, 1, 4, 10, 11], acc := [] })]) (cx_ok rfl) rdy_zqac prs_zqac ⟨by kernel_rfl, by kernel_rfl, by kernel_rfl⟩ bs_zqac (consB (fun T h => by have e : T_zqac_3 = T := Option.some.inj (show some T_zqac_3 = some T from h); exact e ▸ lok_zqac_3) (consB (fun T h => by have e : T_zqac_9 = T := Option.some.inj (show some T_zqac_9 = some T from h); exact e ▸ lok_zqac_9) (consB (fun T h => by have e : T_zqac_15 = T := Option.some.inj (show some T_zqac_15 = some T from h); exact e ▸ lok_zqac_15) (consB (fun T h => by have e : T_zqac_21 = T := Option.some.inj (show some T_zqac_21 = some T from h); exact e ▸ lok_zqac_21) (consB (fun T h => by have e : T_zqac_33 = T := Option.some.inj (show some T_zqac_33 = some T from h); exact e ▸ lok_zqac_33) nilB))))) (fun T h b hb => by have e : T_zqac_c32 = T := Option.some.inj (show some T_zqac_c32 = some T from h); subst e; obtain rfl := tailOf_eq hb; exact lok_zqac_c32) rfl (fun a0f a0 ds h => ?_)
  unfold si_zqac at h
  split at h
  · rename_i a1 a2 a3
    exact ⟨true, win default ((raw_zqac a0f a0 a1 a2 a3).trans (DT.go_run _ _)) h⟩
  · cases h
/-X-/
end SymSec
theorem siOf_false (f : Bool) (l : List (Ty .mat)) (ds : List DArg) : siOf (fun _ _ _ _ => false) f l ds = false := by
  unfold siOf; split <;> rfl
theorem sym_none : StandsP Try.prog tyTab 160 (rowProc 81 .mat (siOf fun _ _ _ _ => false) (soOf fun l _ _ _ => l)) := by
  intro cx htt fn al hp rs h' hf hM
  unfold rowProc at hM
  simp only [siOf_false, Bool.and_false] at hM
  split at hM
  · split at hM
    · split at hM
      · split at hM
        · injection hM with hM; injection hM with hM _; cases hM
        · cases hM
      · cases hM
    · cases hM
  · cases hM
set_option warn.classDefReducibility false in
def symS : Nat → SymRec
  | 0 => { is := fun _ _ _ _ => false, o := fun l _ _ _ => l, ok := sym_none }
  | k + 1 => letI := symS k; { is := fun l a m b => S.zqac_is l a m b, o := fun l a m b => (S.zqac_o l a m b).x0, ok := zqac_ok }
def S.symFin_is (a0 : List (Ty .mat)) (a1 a2 a3 : Int) : Bool := (symS 6).is a0 a1 a2 a3
def S.symFin_o (a0 : List (Ty .mat)) (a1 a2 a3 : Int) : List (Ty .mat) := (symS 6).o a0 a1 a2 a3
def p_symFin : Proc := rowProc 81 .mat (siOf S.symFin_is) (soOf S.symFin_o)
theorem symFin_ok : StandsP Try.prog tyTab 160 p_symFin := (symS 6).ok
/-Y-/

abbrev cx_zqcj : Cx := mkCx3 tyTab [(114, g_zqck)] [] [(141, 9, { keep := [0, 1, 2, 6, 7, 8], acc := [] }), (141, 7, { keep := [0, 1, 2, 6], acc := [] }), (141, 2, { keep := [0, 1, 2, 6, 7, 8], acc := [] })] [] [] [(159, (Try.f159, p_zqaa)), (160, (Try.f160, p_symFin))]
theorem rdy_zqcj : Ready Try.prog tyTab [(114, g_zqck)] [] [] := ⟨consG2 zqck_ok (noneG2), noneI2, noneF2⟩
theorem prs_zqcj : PrsOk Try.prog tyTab [(159, (Try.f159, p_zqaa)), (160, (Try.f160, p_symFin))] := consP ⟨by kernel_rfl, by kernel_rfl, by kernel_rfl⟩ zqaa_ok (consP ⟨by kernel_rfl, by kernel_rfl, by kernel_rfl⟩ symFin_ok (noneP))
structure S.zqcj_2_V where
  t_7_0 : Int
  t_8_0 : Int
  h_0 : List (Ty .mat)
def S.zqcj_2_R (t_0_0l : Nat) (qA : Int) (t_6_0 : Int) (v : S.zqcj_2_V) : DT (Option Nat × S.zqcj_2_V) :=
(.br (xdec (v.t_8_0 ≤ qA))
(.br (xdec (t_0_0l = v.h_0.length) && S.zqaa_is v.h_0 v.t_7_0 v.t_8_0)
(.leaf (none, ⟨v.t_8_0, xwrap IntKind.i64 (v.t_8_0 + t_6_0), (S.zqaa_o v.h_0 v.t_7_0 v.t_8_0).x0⟩))
.fail)
(.leaf (some 0, v)))
def S.zqcj_2_r (t_0_0l : Nat) (qA : Int) (t_6_0 : Int) (v : S.zqcj_2_V) : Option (Option Nat × S.zqcj_2_V) := (S.zqcj_2_R t_0_0l qA t_6_0 v).run
def S.zqcj_2_j (t_0_0l : Nat) (qA : Int) (t_6_0 : Int) (v : S.zqcj_2_V) (j : Nat) : Bool := Lp_j (S.zqcj_2_r t_0_0l qA t_6_0) v j
def S.zqcj_2_v (t_0_0l : Nat) (qA : Int) (t_6_0 : Int) (v : S.zqcj_2_V) : S.zqcj_2_V := Lp_v (S.zqcj_2_r t_0_0l qA t_6_0) v
def mk_zqcj_2 (qD : Bool) (t_0_0l : Nat) (qA : Int) (t_6_0 : Int) (v : S.zqcj_2_V) : St := ⟨[V.v false [C.own 0 ET.mat qD 0 t_0_0l], V.v false [C.d (.sc (.int .i64 qA))], V.v false [C.d (D.fn 114 [] [])], V.any, V.any, V.any,
  V.v false [C.d (.sc (.int .i64 t_6_0))], V.v false [C.d (.sc (.int .i64 v.t_7_0))], V.v false [C.d (.sc (.int .i64 v.t_8_0))], V.any, V.any, V.any,
  V.any, V.any, V.any, V.any, V.any, V.any, V.any, V.any, V.any, V.any, V.any, V.any, V.any, V.any, V.any, V.any, V.any, V.any, V.any, V.any, V.any, V.any, V.any, V.any, V.any,
  V.any, V.any, V.any, V.any, V.any, V.any, V.any, V.any, V.any, V.any, V.any, V.any, V.any, V.any, V.any, V.any, V.any, V.any, V.any, V.any, V.any, V.any, V.any, V.any, V.any,
  V.any], [some (Blk.arr 81 ET.mat v.h_0), none, none, none, none], 1⟩
def ex_zqcj_2 (qD : Bool) (t_0_0l : Nat) (qA : Int) (t_6_0 : Int) (j : Nat) (v : S.zqcj_2_V) : Ex × St := match j with
  | 0 => (Ex.exit 0, ⟨[V.v false [C.own 0 ET.mat qD 0 t_0_0l], V.v false [C.d (.sc (.int .i64 qA))], V.v false [C.d (D.fn 114 [] [])], V.any, V.any, V.any,
  V.v false [C.d (.sc (.int .i64 t_6_0))], V.v false [C.d (.sc (.int .i64 v.t_7_0))], V.any, V.any, V.any, V.any, V.any, V.any, V.any, V.any, V.any, V.any,
  V.any, V.any, V.any, V.any, V.any, V.any, V.any, V.any, V.any, V.any, V.any, V.any, V.any, V.any, V.any, V.any, V.any, V.any, V.any, V.any, V.any, V.any, V.any, V.any, V.any,
  V.any, V.any, V.any, V.any, V.any, V.any, V.any, V.any, V.any, V.any, V.any, V.any, V.any, V.any, V.any, V.any, V.any, V.any, V.any, V.any], [some (Blk.arr 81 ET.mat v.h_0), none, none, none, none, none, none, none], 1⟩)
  | _ => (.ret, ⟨[], [], 0⟩)
def T1_zqcj_2 : V → V → V → V → V → V → Option Blk → Tree
  | V.v false [C.own 0 ET.mat qD 0 t_0_0l], V.v false [C.d (.sc (.int .i64 qA))], V.v false [C.d (D.fn 114 [] [])], V.v false [C.d (.sc (.int .i64 t_6_0))], V.v false [C.d (.sc (.int .i64 t_7_0))], V.v false [C.d (.sc (.int .i64 t_8_0))], some (Blk.arr 81 ET.mat h_0) => exT (fun j => ex_zqcj_2 qD t_0_0l qA t_6_0 j (S.zqcj_2_v t_0_0l qA t_6_0 ⟨t_7_0, t_8_0, h_0⟩)) (S.zqcj_2_j t_0_0l qA t_6_0 ⟨t_7_0, t_8_0, h_0⟩) [0]
  | _, _, _, _, _, _, _ => .bad
def T_zqcj_2 (st : St) : Tree := bif okSt 63 5 1 [0] st then T1_zqcj_2 (st.env.getD 0 .any) (st.env.getD 1 .any) (st.env.getD 2 .any) (st.env.getD 6 .any) (st.env.getD 7 .any) (st.env.getD 8 .any) (lk st.heap 0) else .bad
def b_zqcj_2 : Code := loopBy Try.f141 2
theorem rnd_zqcj_2 (qD : Bool) (t_0_0l : Nat) (qA : Int) (t_6_0 : Int) (v : S.zqcj_2_V) : round2 cx_zqcj (hdI cx_zqcj (find []) [] none 3) 141 b_zqcj_2 [] 5 [0, 1, 2, 6, 7] (mk_zqcj_2 qD t_0_0l qA t_6_0 v) = (S.zqcj_2_R t_0_0l qA t_6_0 v).go (roundOut (mk_zqcj_2 qD t_0_0l qA t_6_0) (ex_zqcj_2 qD t_0_0l qA t_6_0)) := by kernel_rfl
theorem bs_zqcj_2 : loopsOf b_zqcj_2 ++ loopsInl [] ++ loopsRf [] = [] := by kernel_rfl
theorem ci_zqcj_2 (qD : Bool) (t_0_0l : Nat) (qA : Int) (t_6_0 : Int) : ∀ v j v2, Lp (S.zqcj_2_r t_0_0l qA t_6_0) v = some (j, v2) → Circles Try.prog cx_zqcj b_zqcj_2 (mk_zqcj_2 qD t_0_0l qA t_6_0 v) (ex_zqcj_2 qD t_0_0l qA t_6_0 j v2).1 (ex_zqcj_2 qD t_0_0l qA t_6_0 j v2).2 :=
  loop_ok3 (L := find []) (n := 3) (hints := [(141, 9, { keep := [0, 1, 2, 6, 7, 8], acc := [] }), (141, 7, { keep := [0, 1, 2, 6], acc := [] }), (141, 2, { keep := [0, 1, 2, 6, 7, 8], acc := [] })]) (cx_ok rfl) rdy_zqcj prs_zqcj bs_zqcj_2 nilB (fun v => (rnd_zqcj_2 qD t_0_0l qA t_6_0 v).trans (DT.go_run _ _)) (by intro j v; unfold ex_zqcj_2; split <;> rfl)
theorem mke_zqcj_2 (qD : Bool) (t_0_0l : Nat) (qA : Int) (t_6_0 : Int) (v : S.zqcj_2_V) : mk_zqcj_2 qD t_0_0l qA t_6_0 v = ⟨envOf 63 [(0, V.v false [C.own 0 ET.mat qD 0 t_0_0l]), (1, V.v false [C.d (.sc (.int .i64 qA))]), (2, V.v false [C.d (D.fn 114 [] [])]), (6, V.v false [C.d (.sc (.int .i64 t_6_0))]), (7, V.v false [C.d (.sc (.int .i64 v.t_7_0))]), (8, V.v false [C.d (.sc (.int .i64 v.t_8_0))])], heapOf 5 [(0, some (Blk.arr 81 ET.mat v.h_0))], 1⟩ := by kernel_rfl
theorem lo1_zqcj_2 (e0 : V) (e1 : V) (e2 : V) (e6 : V) (e7 : V) (e8 : V) (h0 : Option Blk) e st2 (h : (T1_zqcj_2 e0 e1 e2 e6 e7 e8 h0).eval = some (e, st2)) : Circles Try.prog cx_zqcj b_zqcj_2 ⟨envOf 63 [(0, e0), (1, e1), (2, e2), (6, e6), (7, e7), (8, e8)], heapOf 5 [(0, h0)], 1⟩ e st2 := by
  unfold T1_zqcj_2 at h
  split at h
  · have := loop_tree (mk := mk_zqcj_2 _ _ _ _) (ci_zqcj_2 _ _ _ _) _ _ e st2 h
    rw [mke_zqcj_2] at this
    exact this
  · cases h
theorem lok_zqcj_2 : LoopOk Try.prog cx_zqcj b_zqcj_2 T_zqcj_2 := by
  intro st e st2 h
  unfold T_zqcj_2 at h
  cases hk : okSt 63 5 1 [0] st with
  | false => rw [hk] at h; cases h
  | true =>
    rw [hk] at h
    exact circles_keep (ks := [0, 1, 2, 6, 7, 8]) hk (lo1_zqcj_2 _ _ _ _ _ _ _ e st2 h)
structure S.zqcj_9_V where
  t_7_0 : Int
  t_8_0 : Int
  h_0 : List (Ty .mat)
def S.zqcj_9_R (t_0_0l : Nat) (qA : Int) (t_6_0 : Int) (v : S.zqcj_9_V) : DT (Option Nat × S.zqcj_9_V) :=
let y0 : Int := xwrap IntKind.i64 (v.t_7_0 + t_6_0)
(.br (xdec (v.t_8_0 ≤ qA))
(.br (xdec (t_0_0l = v.h_0.length) && S.symFin_is v.h_0 v.t_7_0 y0 v.t_8_0)
(.leaf (none, ⟨v.t_8_0, xwrap IntKind.i64 (v.t_8_0 + xwrap IntKind.i64 (2 * t_6_0)), S.symFin_o v.h_0 v.t_7_0 y0 v.t_8_0⟩))
.fail)
(.leaf (some 0, v)))
def S.zqcj_9_r (t_0_0l : Nat) (qA : Int) (t_6_0 : Int) (v : S.zqcj_9_V) : Option (Option Nat × S.zqcj_9_V) := (S.zqcj_9_R t_0_0l qA t_6_0 v).run
def S.zqcj_9_j (t_0_0l : Nat) (qA : Int) (t_6_0 : Int) (v : S.zqcj_9_V) (j : Nat) : Bool := Lp_j (S.zqcj_9_r t_0_0l qA t_6_0) v j
def S.zqcj_9_v (t_0_0l : Nat) (qA : Int) (t_6_0 : Int) (v : S.zqcj_9_V) : S.zqcj_9_V := Lp_v (S.zqcj_9_r t_0_0l qA t_6_0) v
def mk_zqcj_9 (qD : Bool) (t_0_0l : Nat) (qA : Int) (t_6_0 : Int) (v : S.zqcj_9_V) : St := ⟨[V.v false [C.own 0 ET.mat qD 0 t_0_0l], V.v false [C.d (.sc (.int .i64 qA))], V.v false [C.d (D.fn 114 [] [])], V.any, V.any, V.any,
  V.v false [C.d (.sc (.int .i64 t_6_0))], V.v false [C.d (.sc (.int .i64 v.t_7_0))], V.v false [C.d (.sc (.int .i64 v.t_8_0))], V.any, V.any, V.any,
  V.any, V.any, V.any, V.any, V.any, V.any, V.any, V.any, V.any, V.any, V.any, V.any, V.any, V.any, V.any, V.any, V.any, V.any, V.any, V.any, V.any, V.any, V.any, V.any, V.any,
  V.any, V.any, V.any, V.any, V.any, V.any, V.any, V.any, V.any, V.any, V.any, V.any, V.any, V.any, V.any, V.any, V.any, V.any, V.any, V.any, V.any, V.any, V.any, V.any, V.any,
  V.any], [some (Blk.arr 81 ET.mat v.h_0), none, none, none, none, none, none, none, none, none, none, none, none, none, none, none, none, none, none, none], 1⟩
def ex_zqcj_9 (qD : Bool) (t_0_0l : Nat) (qA : Int) (t_6_0 : Int) (j : Nat) (v : S.zqcj_9_V) : Ex × St := match j with
  | 0 => (Ex.exit 4, ⟨[V.v false [C.own 0 ET.mat qD 0 t_0_0l], V.v false [C.d (.sc (.int .i64 qA))], V.v false [C.d (D.fn 114 [] [])], V.any, V.any, V.any,
  V.v false [C.d (.sc (.int .i64 t_6_0))], V.v false [C.d (.sc (.int .i64 v.t_7_0))], V.any, V.any, V.any, V.any, V.any, V.any, V.any, V.any, V.any, V.any,
  V.any, V.any, V.any, V.any, V.any, V.any, V.any, V.any, V.any, V.any, V.any, V.any, V.any, V.any, V.any, V.any, V.any, V.any, V.any, V.any, V.any, V.any, V.any, V.any, V.any,
  V.any, V.any, V.any, V.any, V.any, V.any, V.any, V.any, V.any, V.any, V.any, V.any, V.any, V.any, V.any, V.any, V.any, V.any, V.any, V.any], [some (Blk.arr 81 ET.mat v.h_0), none, none, none, none, none, none, none, none, none, none, none, none, none, none, none, none, none, none, none, none, none, none], 1⟩)
  | _ => (.ret, ⟨[], [], 0⟩)
def T1_zqcj_9 : V → V → V → V → V → V → Option Blk → Tree
  | V.v false [C.own 0 ET.mat qD 0 t_0_0l], V.v false [C.d (.sc (.int .i64 qA))], V.v false [C.d (D.fn 114 [] [])], V.v false [C.d (.sc (.int .i64 t_6_0))], V.v false [C.d (.sc (.int .i64 t_7_0))], V.v false [C.d (.sc (.int .i64 t_8_0))], some (Blk.arr 81 ET.mat h_0) => exT (fun j => ex_zqcj_9 qD t_0_0l qA t_6_0 j (S.zqcj_9_v t_0_0l qA t_6_0 ⟨t_7_0, t_8_0, h_0⟩)) (S.zqcj_9_j t_0_0l qA t_6_0 ⟨t_7_0, t_8_0, h_0⟩) [0]
  | _, _, _, _, _, _, _ => .bad
def T_zqcj_9 (st : St) : Tree := bif okSt 63 20 1 [0] st then T1_zqcj_9 (st.env.getD 0 .any) (st.env.getD 1 .any) (st.env.getD 2 .any) (st.env.getD 6 .any) (st.env.getD 7 .any) (st.env.getD 8 .any) (lk st.heap 0) else .bad
def b_zqcj_9 : Code := loopBy Try.f141 9
theorem rnd_zqcj_9 (qD : Bool) (t_0_0l : Nat) (qA : Int) (t_6_0 : Int) (v : S.zqcj_9_V) : round2 cx_zqcj (hdI cx_zqcj (find [(2, T_zqcj_2)]) [] none 3) 141 b_zqcj_9 [] 20 [0, 1, 2, 6, 7] (mk_zqcj_9 qD t_0_0l qA t_6_0 v) = (S.zqcj_9_R t_0_0l qA t_6_0 v).go (roundOut (mk_zqcj_9 qD t_0_0l qA t_6_0) (ex_zqcj_9 qD t_0_0l qA t_6_0)) := by kernel_rfl
theorem bs_zqcj_9 : loopsOf b_zqcj_9 ++ loopsInl [] ++ loopsRf [] = [] := by kernel_rfl
theorem ci_zqcj_9 (qD : Bool) (t_0_0l : Nat) (qA : Int) (t_6_0 : Int) : ∀ v j v2, Lp (S.zqcj_9_r t_0_0l qA t_6_0) v = some (j, v2) → Circles Try.prog cx_zqcj b_zqcj_9 (mk_zqcj_9 qD t_0_0l qA t_6_0 v) (ex_zqcj_9 qD t_0_0l qA t_6_0 j v2).1 (ex_zqcj_9 qD t_0_0l qA t_6_0 j v2).2 :=
  loop_ok3 (L := find [(2, T_zqcj_2)]) (n := 3) (hints := [(141, 9, { keep := [0, 1, 2, 6, 7, 8], acc := [] }), (141, 7, { keep := [0, 1, 2, 6], acc := [] }), (141, 2, { keep := [0, 1, 2, 6, 7, 8], acc := [] })]) (cx_ok rfl) rdy_zqcj prs_zqcj bs_zqcj_9 nilB (fun v => (rnd_zqcj_9 qD t_0_0l qA t_6_0 v).trans (DT.go_run _ _)) (by intro j v; unfold ex_zqcj_9; split <;> rfl)
theorem mke_zqcj_9 (qD : Bool) (t_0_0l : Nat) (qA : Int) (t_6_0 : Int) (v : S.zqcj_9_V) : mk_zqcj_9 qD t_0_0l qA t_6_0 v = ⟨envOf 63 [(0, V.v false [C.own 0 ET.mat qD 0 t_0_0l]), (1, V.v false [C.d (.sc (.int .i64 qA))]), (2, V.v false [C.d (D.fn 114 [] [])]), (6, V.v false [C.d (.sc (.int .i64 t_6_0))]), (7, V.v false [C.d (.sc (.int .i64 v.t_7_0))]), (8, V.v false [C.d (.sc (.int .i64 v.t_8_0))])], heapOf 20 [(0, some (Blk.arr 81 ET.mat v.h_0))], 1⟩ := by kernel_rfl
theorem lo1_zqcj_9 (e0 : V) (e1 : V) (e2 : V) (e6 : V) (e7 : V) (e8 : V) (h0 : Option Blk) e st2 (h : (T1_zqcj_9 e0 e1 e2 e6 e7 e8 h0).eval = some (e, st2)) : Circles Try.prog cx_zqcj b_zqcj_9 ⟨envOf 63 [(0, e0), (1, e1), (2, e2), (6, e6), (7, e7), (8, e8)], heapOf 20 [(0, h0)], 1⟩ e st2 := by
  unfold T1_zqcj_9 at h
  split at h
  · have := loop_tree (mk := mk_zqcj_9 _ _ _ _) (ci_zqcj_9 _ _ _ _) _ _ e st2 h
    rw [mke_zqcj_9] at this
    exact this
  · cases h
theorem lok_zqcj_9 : LoopOk Try.prog cx_zqcj b_zqcj_9 T_zqcj_9 := by
  intro st e st2 h
  unfold T_zqcj_9 at h
  cases hk : okSt 63 20 1 [0] st with
  | false => rw [hk] at h; cases h
  | true =>
    rw [hk] at h
    exact circles_keep (ks := [0, 1, 2, 6, 7, 8]) hk (lo1_zqcj_9 _ _ _ _ _ _ _ e st2 h)
structure S.zqcj_7_V where
  t_6_0 : Int
  h_0 : List (Ty .mat)
def S.zqcj_7_R (t_0_0l : Nat) (qA : Int) (v : S.zqcj_7_V) : DT (Option Nat × S.zqcj_7_V) :=
let y0 : S.zqcj_9_V := { t_7_0 := 0, t_8_0 := xwrap IntKind.i64 (2 * v.t_6_0), h_0 := v.h_0 : S.zqcj_9_V }
let y1 : S.zqcj_9_V := S.zqcj_9_v t_0_0l qA v.t_6_0 y0
let y2 : Int := y1.t_7_0
let y3 : Int := xwrap IntKind.i64 (y2 + v.t_6_0)
let y4 : List (Ty .mat) := y1.h_0
let y5 : Int := xwrap IntKind.i64 (v.t_6_0 * 2)
(.br (xdec (v.t_6_0 < qA))
(.br (S.zqcj_9_j t_0_0l qA v.t_6_0 y0 0)
(.br (xdec (y3 < qA))
(.br (xdec (t_0_0l = y4.length) && S.symFin_is y4 y2 y3 qA)
(.leaf (none, ⟨y5, S.symFin_o y4 y2 y3 qA⟩))
.fail)
(.leaf (none, ⟨y5, y4⟩)))
.fail)
(.leaf (some 0, v)))
def S.zqcj_7_r (t_0_0l : Nat) (qA : Int) (v : S.zqcj_7_V) : Option (Option Nat × S.zqcj_7_V) := (S.zqcj_7_R t_0_0l qA v).run
def S.zqcj_7_j (t_0_0l : Nat) (qA : Int) (v : S.zqcj_7_V) (j : Nat) : Bool := Lp_j (S.zqcj_7_r t_0_0l qA) v j
def S.zqcj_7_v (t_0_0l : Nat) (qA : Int) (v : S.zqcj_7_V) : S.zqcj_7_V := Lp_v (S.zqcj_7_r t_0_0l qA) v
def mk_zqcj_7 (qD : Bool) (t_0_0l : Nat) (qA : Int) (v : S.zqcj_7_V) : St := ⟨[V.v false [C.own 0 ET.mat qD 0 t_0_0l], V.v false [C.d (.sc (.int .i64 qA))], V.v false [C.d (D.fn 114 [] [])], V.any, V.any, V.any,
  V.v false [C.d (.sc (.int .i64 v.t_6_0))], V.any, V.any, V.any, V.any, V.any, V.any, V.any, V.any, V.any, V.any, V.any, V.any, V.any, V.any, V.any, V.any, V.any, V.any,
  V.any, V.any, V.any, V.any, V.any, V.any, V.any, V.any, V.any, V.any, V.any, V.any, V.any, V.any, V.any, V.any, V.any, V.any, V.any, V.any, V.any, V.any, V.any, V.any, V.any,
  V.any, V.any, V.any, V.any, V.any, V.any, V.any, V.any, V.any, V.any, V.any, V.any, V.any], [some (Blk.arr 81 ET.mat v.h_0), none, none, none, none, none, none, none, none, none, none, none, none], 1⟩
def ex_zqcj_7 (qD : Bool) (t_0_0l : Nat) (qA : Int) (j : Nat) (v : S.zqcj_7_V) : Ex × St := match j with
  | 0 => (Ex.exit 2, ⟨[V.any, V.any, V.any, V.any, V.any, V.any, V.any, V.any, V.any, V.any, V.any, V.any, V.any, V.any, V.any, V.any, V.any, V.any, V.any, V.any, V.any, V.any, V.any, V.any, V.any,
  V.any, V.any, V.any, V.any, V.any, V.any, V.any, V.any, V.any, V.any, V.any, V.any, V.any, V.any, V.any, V.any, V.any, V.any, V.any, V.any, V.any, V.any, V.any, V.any, V.any,
  V.any, V.any, V.any, V.any, V.any, V.any, V.any, V.any, V.any, V.any, V.any, V.any, V.any], [some (Blk.arr 81 ET.mat v.h_0), none, none, none, none, none, none, none, none, none, none, none, none, none, none, none], 1⟩)
  | _ => (.ret, ⟨[], [], 0⟩)
def T1_zqcj_7 : V → V → V → V → Option Blk → Tree
  | V.v false [C.own 0 ET.mat qD 0 t_0_0l], V.v false [C.d (.sc (.int .i64 qA))], V.v false [C.d (D.fn 114 [] [])], V.v false [C.d (.sc (.int .i64 t_6_0))], some (Blk.arr 81 ET.mat h_0) => exT (fun j => ex_zqcj_7 qD t_0_0l qA j (S.zqcj_7_v t_0_0l qA ⟨t_6_0, h_0⟩)) (S.zqcj_7_j t_0_0l qA ⟨t_6_0, h_0⟩) [0]
  | _, _, _, _, _ => .bad
def T_zqcj_7 (st : St) : Tree := bif okSt 63 13 1 [0] st then T1_zqcj_7 (st.env.getD 0 .any) (st.env.getD 1 .any) (st.env.getD 2 .any) (st.env.getD 6 .any) (lk st.heap 0) else .bad
def b_zqcj_7 : Code := loopBy Try.f141 7
theorem rnd_zqcj_7 (qD : Bool) (t_0_0l : Nat) (qA : Int) (v : S.zqcj_7_V) : round2 cx_zqcj (hdI cx_zqcj (find [(2, T_zqcj_2), (9, T_zqcj_9)]) [] none 3) 141 b_zqcj_7 [] 13 [] (mk_zqcj_7 qD t_0_0l qA v) = (S.zqcj_7_R t_0_0l qA v).go (roundOut (mk_zqcj_7 qD t_0_0l qA) (ex_zqcj_7 qD t_0_0l qA)) := by kernel_rfl
theorem bs_zqcj_7 : loopsOf b_zqcj_7 ++ loopsInl [] ++ loopsRf [] = [b_zqcj_9] := by kernel_rfl
theorem ci_zqcj_7 (qD : Bool) (t_0_0l : Nat) (qA : Int) : ∀ v j v2, Lp (S.zqcj_7_r t_0_0l qA) v = some (j, v2) → Circles Try.prog cx_zqcj b_zqcj_7 (mk_zqcj_7 qD t_0_0l qA v) (ex_zqcj_7 qD t_0_0l qA j v2).1 (ex_zqcj_7 qD t_0_0l qA j v2).2 :=
  loop_ok3 (L := find [(2, T_zqcj_2), (9, T_zqcj_9)]) (n := 3) (hints := [(141, 9, { keep := [0, 1, 2, 6, 7, 8], acc := [] }), (141, 7, { keep := [0, 1, 2, 6], acc := [] }), (141, 2, { keep := [0, 1, 2, 6, 7, 8], acc := [] })]) (cx_ok rfl) rdy_zqcj prs_zqcj bs_zqcj_7 (consB (fun T h => by have e : T_zqcj_9 = T := Option.some.inj (show some T_zqcj_9 = some T from h); exact e ▸ lok_zqcj_9) nilB) (fun v => (rnd_zqcj_7 qD t_0_0l qA v).trans (DT.go_run _ _)) (by intro j v; unfold ex_zqcj_7; split <;> rfl)
theorem mke_zqcj_7 (qD : Bool) (t_0_0l : Nat) (qA : Int) (v : S.zqcj_7_V) : mk_zqcj_7 qD t_0_0l qA v = ⟨envOf 63 [(0, V.v false [C.own 0 ET.mat qD 0 t_0_0l]), (1, V.v false [C.d (.sc (.int .i64 qA))]), (2, V.v false [C.d (D.fn 114 [] [])]), (6, V.v false [C.d (.sc (.int .i64 v.t_6_0))])], heapOf 13 [(0, some (Blk.arr 81 ET.mat v.h_0))], 1⟩ := by kernel_rfl
theorem lo1_zqcj_7 (e0 : V) (e1 : V) (e2 : V) (e6 : V) (h0 : Option Blk) e st2 (h : (T1_zqcj_7 e0 e1 e2 e6 h0).eval = some (e, st2)) : Circles Try.prog cx_zqcj b_zqcj_7 ⟨envOf 63 [(0, e0), (1, e1), (2, e2), (6, e6)], heapOf 13 [(0, h0)], 1⟩ e st2 := by
  unfold T1_zqcj_7 at h
  split at h
  · have := loop_tree (mk := mk_zqcj_7 _ _ _) (ci_zqcj_7 _ _ _) _ _ e st2 h
    rw [mke_zqcj_7] at this
    exact this
  · cases h
theorem lok_zqcj_7 : LoopOk Try.prog cx_zqcj b_zqcj_7 T_zqcj_7 := by
  intro st e st2 h
  unfold T_zqcj_7 at h
  cases hk : okSt 63 13 1 [0] st with
  | false => rw [hk] at h; cases h
  | true =>
    rw [hk] at h
    exact circles_keep (ks := [0, 1, 2, 6]) hk (lo1_zqcj_7 _ _ _ _ _ e st2 h)
structure S.zqcj_T where
  x0 : List (Ty .mat)
  deriving Inhabited
def S.zqcj_R (a0 : List (Ty .mat)) (a1 : Int) : DT S.zqcj_T :=
let y0 : Nat := a0.length
let y1 : S.zqcj_2_V := { t_7_0 := 0, t_8_0 := 20, h_0 := a0 : S.zqcj_2_V }
let y2 : S.zqcj_2_V := S.zqcj_2_v y0 a1 20 y1
let y3 : List (Ty .mat) := y2.h_0
let y4 : Int := y2.t_7_0
let y5 : S.zqcj_7_V := { t_6_0 := 20, h_0 := (S.zqaa_o y3 y4 a1).x0 : S.zqcj_7_V }
(.br (S.zqcj_2_j y0 a1 20 y1 0)
(.br (xdec (y0 = y3.length) && S.zqaa_is y3 y4 a1)
(.br (S.zqcj_7_j y0 a1 y5 0)
(.leaf ⟨(S.zqcj_7_v y0 a1 y5).h_0⟩)
.fail)
.fail)
.fail)
def S.zqcj (a0 : List (Ty .mat)) (a1 : Int) : Option S.zqcj_T := (S.zqcj_R a0 a1).run
def S.zqcj_is (a0 : List (Ty .mat)) (a1 : Int) : Bool := (S.zqcj a0 a1).isSome
def S.zqcj_o (a0 : List (Ty .mat)) (a1 : Int) : S.zqcj_T := (S.zqcj a0 a1).getD default
def ret_zqcj (b : Bool) (r : S.zqcj_T) : Ret := ⟨b, some (81, (⟨ET.mat, r.x0⟩ : (t : ET) × List (Ty t))), []⟩
def si_zqcj (a0f : Bool) (a0 : List (Ty .mat)) : List DArg → Bool
  | [(false, [.sc (.int .i64 a1)]), (false, [.fn 114 [] []])] => S.zqcj_is a0 a1
  | _ => false
def so_zqcj (a0f : Bool) (a0 : List (Ty .mat)) : List DArg → List (Ty .mat)
  | [(false, [.sc (.int .i64 a1)]), (false, [.fn 114 [] []])] => (S.zqcj_o a0 a1).x0
  | _ => a0
def p_zqcj : Proc := rowProc 81 .mat si_zqcj so_zqcj
theorem raw_zqcj (a0f : Bool) (a0 : List (Ty .mat)) (a1 : Int) : evP cx_zqcj (hdI cx_zqcj (find [(2, T_zqcj_2), (9, T_zqcj_9), (7, T_zqcj_7)]) [] none 3) none Try.f141 141 (some 81) [(false, [.sl none a0f .mat a0]), (false, [.sc (.int .i64 a1)]), (false, [.fn 114 [] []])] some = (S.zqcj_R a0 a1).go (ret_zqcj true) := by kernel_rfl
theorem bs_zqcj : loopsIn Try.f141 [] = [b_zqcj_2, b_zqcj_7] := by kernel_rfl
theorem zqcj_ok : StandsP Try.prog tyTab 141 p_zqcj := by
  refine standsP (L := find [(2, T_zqcj_2), (9, T_zqcj_9), (7, T_zqcj_7)]) (n := 3) (hints := [(141, 9, { keep := [0, 1, 2, 6, 7, 8], acc := [] }), (141, 7, { keep := [0, 1, 2, 6], acc := [] }), (141, 2, { keep := [0, 1, 2, 6, 7, 8], acc := [] })]) (cx_ok rfl) rdy_zqcj prs_zqcj ⟨by kernel_rfl, by kernel_rfl, by kernel_rfl⟩ bs_zqcj (consB (fun T h => by have e : T_zqcj_2 = T := Option.some.inj (show some T_zqcj_2 = some T from h); exact e ▸ lok_zqcj_2) (consB (fun T h => by have e : T_zqcj_7 = T := Option.some.inj (show some T_zqcj_7 = some T from h); exact e ▸ lok_zqcj_7) nilB)) (by kernel_rfl) rfl (fun a0f a0 ds h => ?_)
  unfold si_zqcj at h
  split at h
  · rename_i a1
    exact ⟨true, win default ((raw_zqcj a0f a0 a1).trans (DT.go_run _ _)) h⟩
  · cases h
abbrev cx_sort2 : Cx := mkCx3 tyTab [(114, g_zqck)] [] [] [] [] [(141, (Try.f141, p_zqcj))]
theorem rdy_sort2 : Ready Try.prog tyTab [(114, g_zqck)] [] [] := ⟨consG2 zqck_ok (noneG2), noneI2, noneF2⟩
theorem prs_sort2 : PrsOk Try.prog tyTab [(141, (Try.f141, p_zqcj))] := consP ⟨by kernel_rfl, by kernel_rfl, by kernel_rfl⟩ zqcj_ok (noneP)
structure S.sort2_T where
  x0 : List (Ty .mat)
  deriving Inhabited
def S.sort2_R (a0 : List (Ty .mat)) : DT S.sort2_T :=
let y0 : Nat := a0.length
let y1 : Int := (↑y0 : Int)
(.br (xdec (y0 = y0) && S.zqcj_is a0 y1)
(.leaf ⟨(S.zqcj_o a0 y1).x0⟩)
.fail)
def S.sort2 (a0 : List (Ty .mat)) : Option S.sort2_T := (S.sort2_R a0).run
def S.sort2_is (a0 : List (Ty .mat)) : Bool := (S.sort2 a0).isSome
def S.sort2_o (a0 : List (Ty .mat)) : S.sort2_T := (S.sort2 a0).getD default
def ret_sort2 (b : Bool) (r : S.sort2_T) : Ret := ⟨b, some (81, (⟨ET.mat, r.x0⟩ : (t : ET) × List (Ty t))), []⟩
def si_sort2 (a0f : Bool) (a0 : List (Ty .mat)) : List DArg → Bool
  | [(false, [.fn 114 [] []])] => S.sort2_is a0
  | _ => false
def so_sort2 (a0f : Bool) (a0 : List (Ty .mat)) : List DArg → List (Ty .mat)
  | [(false, [.fn 114 [] []])] => (S.sort2_o a0).x0
  | _ => a0
def p_sort2 : Proc := rowProc 81 .mat si_sort2 so_sort2
theorem raw_sort2 (a0f : Bool) (a0 : List (Ty .mat)) : evP cx_sort2 (hdI cx_sort2 (find []) [] none 3) none Try.f113 113 (some 81) [(false, [.sl none a0f .mat a0]), (false, [.fn 114 [] []])] some = (S.sort2_R a0).go (ret_sort2 true) := by kernel_rfl
theorem bs_sort2 : loopsIn Try.f113 [] = [] := by kernel_rfl
theorem sort2_ok : StandsP Try.prog tyTab 113 p_sort2 := by
  refine standsP (L := find []) (n := 3) (hints := []) (cx_ok rfl) rdy_sort2 prs_sort2 ⟨by kernel_rfl, by kernel_rfl, by kernel_rfl⟩ bs_sort2 nilB (by kernel_rfl) rfl (fun a0f a0 ds h => ?_)
  unfold si_sort2 at h
  split at h
  · exact ⟨true, win default ((raw_sort2 a0f a0).trans (DT.go_run _ _)) h⟩
  · cases h
abbrev cx_all2 : Cx := mkCx3 tyTab [(75, g_zqbg), (76, g_zqbu), (112, g_zqav), (114, g_zqck)] [] [(73, 5, { keep := [7, 8], acc := [] }), (140, 1, { keep := [0, 1, 2, 8, 9], acc := [(1002, some 0, .mat, 81)] })] [(140, Try.f140)] [(5, rfAt 73 Try.f73)] [(113, (Try.f113, p_sort2))]
theorem rdy_all2 : Ready Try.prog tyTab [(75, g_zqbg), (76, g_zqbu), (112, g_zqav), (114, g_zqck)] [] [(140, Try.f140)] := ⟨consG2 zqbg_ok (consG2 zqbu_ok (consG2 zqav_ok (consG2 zqck_ok (noneG2)))), noneI2, consF2 ⟨by kernel_rfl, by kernel_rfl, by kernel_rfl⟩ (noneF2)⟩
theorem prs_all2 : PrsOk Try.prog tyTab [(113, (Try.f113, p_sort2))] := consP ⟨by kernel_rfl, by kernel_rfl, by kernel_rfl⟩ sort2_ok (noneP)
structure S.all2_1_V where
  t_9_0 : Int
  h_2_0f : Bool
  h_2_0l : Nat
  h_16 : List (Ty .mat)
def S.all2_1_R (t_1_0_0 : List (Ty .evt)) (t_2_0_0 : List (Ty .step)) (t_2_0_1 : Int) (t_2_0_2 : Int) (t_2_0_3 : Int) (t_2_0_4 : Int) (t_8_0 : Int) (qH : Int) (v : S.all2_1_V) : DT (Option Nat × S.all2_1_V) :=
let y0 : S.zqbu_T := S.zqbu_o t_2_0_0 t_2_0_1 t_2_0_2 t_2_0_3 t_2_0_4 t_1_0_0 v.t_9_0
let y1 : Int := y0.x1
let y2 : Mat := { start := y0.x0, fin := y1, agg := y0.x2, bad := y0.x3 : Mat }
let y3 : Nat := v.h_2_0l + 1
let y4 : Bool := xdec (0 + 1 ≤ ((List.replicate 1 (dflt ET.mat)).set 0 y2).length) && xdec (v.h_2_0l ≤ v.h_16.length) && xdec (y3 ≤ 1048576)
let y5 : Int := xwrap IntKind.i64 (v.t_9_0 + 1)
let y6 : List (Ty .mat) := List.take v.h_2_0l v.h_16 ++ [y2]
(.br (xdec (v.t_9_0 < t_8_0))
(.br (S.zqbu_is t_2_0_0 t_2_0_1 t_2_0_2 t_2_0_3 t_2_0_4 t_1_0_0 v.t_9_0)
(.br (y0.x4)
(.br (xdec (qH < 0))
(.br (y4)
(.br (xnot true)
(.leaf (some 0, v))
(.leaf (none, ⟨y5, false, y3, y6⟩)))
.fail)
(.br (xdec (y1 ≤ qH))
(.br (y4)
(.br (xnot true)
(.leaf (some 0, v))
(.leaf (none, ⟨y5, false, y3, y6⟩)))
.fail)
(.br (xnot true)
(.leaf (some 1, v))
(.leaf (none, ⟨y5, v.h_2_0f, v.h_2_0l, v.h_16⟩)))))
(.leaf (none, ⟨y5, v.h_2_0f, v.h_2_0l, v.h_16⟩)))
.fail)
(.leaf (some 2, v)))
def S.all2_1_r (t_1_0_0 : List (Ty .evt)) (t_2_0_0 : List (Ty .step)) (t_2_0_1 : Int) (t_2_0_2 : Int) (t_2_0_3 : Int) (t_2_0_4 : Int) (t_8_0 : Int) (qH : Int) (v : S.all2_1_V) : Option (Option Nat × S.all2_1_V) := (S.all2_1_R t_1_0_0 t_2_0_0 t_2_0_1 t_2_0_2 t_2_0_3 t_2_0_4 t_8_0 qH v).run
def S.all2_1_j (t_1_0_0 : List (Ty .evt)) (t_2_0_0 : List (Ty .step)) (t_2_0_1 : Int) (t_2_0_2 : Int) (t_2_0_3 : Int) (t_2_0_4 : Int) (t_8_0 : Int) (qH : Int) (v : S.all2_1_V) (j : Nat) : Bool := Lp_j (S.all2_1_r t_1_0_0 t_2_0_0 t_2_0_1 t_2_0_2 t_2_0_3 t_2_0_4 t_8_0 qH) v j
def S.all2_1_v (t_1_0_0 : List (Ty .evt)) (t_2_0_0 : List (Ty .step)) (t_2_0_1 : Int) (t_2_0_2 : Int) (t_2_0_3 : Int) (t_2_0_4 : Int) (t_8_0 : Int) (qH : Int) (v : S.all2_1_V) : S.all2_1_V := Lp_v (S.all2_1_r t_1_0_0 t_2_0_0 t_2_0_1 t_2_0_2 t_2_0_3 t_2_0_4 t_8_0 qH) v
def mk_all2_1 (t_1_0_0n : Option Bool) (t_1_0_0f : Bool) (t_1_0_0 : List (Ty .evt)) (t_2_0_0n : Option Bool) (t_2_0_0f : Bool) (t_2_0_0 : List (Ty .step)) (t_2_0_1 : Int) (t_2_0_2 : Int) (t_2_0_3 : Int) (t_2_0_4 : Int) (t_8_0 : Int) (qI : Option Bool) (qJ : Bool) (qK : List (Ty .step)) (qL : Int) (qM : Int) (qN : Int) (qO : Int) (qH : Int) (v : S.all2_1_V) : St := ⟨[V.v false [C.yld 12], V.v false [C.d (D.ref [D.sl t_1_0_0n t_1_0_0f ET.evt t_1_0_0])],
  V.v false
    [C.d
        (D.ref
          [D.sl t_2_0_0n t_2_0_0f ET.step t_2_0_0, D.sc (Sc.int IntKind.i64 t_2_0_1), D.sc (Sc.int IntKind.i64 t_2_0_2), D.sc (Sc.int IntKind.i64 t_2_0_3),
            D.sc (Sc.int IntKind.i64 t_2_0_4)])],
  V.any, V.any, V.any, V.any, V.any, V.v false [C.d (.sc (.int .i64 t_8_0))], V.v false [C.d (.sc (.int .i64 v.t_9_0))], V.any, V.any, V.any, V.any, V.any,
  V.any, V.any, V.any, V.any, V.any, V.any, V.any, V.any, V.any, V.any, V.any, V.any], [some
    (Blk.box 45
      [C.d (.sl qI qJ ET.step qK), C.d (.sc (.int .i64 qL)), C.d (.sc (.int .i64 qM)), C.d (.sc (.int .i64 qN)),
        C.d (.sc (.int .i64 qO))]),
  none, some (Blk.box 73 [C.own 16 ET.mat v.h_2_0f 0 v.h_2_0l]), none, none, none, none, some (Blk.box 3 [C.d (.sc (.int .i64 qH))]), none, none, none, none,
  some
    (Blk.lp 5
      [V.any, V.any, V.any, V.any, V.any, V.any, V.any, V.v false [C.ptr 2 0], V.v false [C.ptr 7 0], V.any, V.any, V.any, V.any, V.any, V.any, V.any, V.any, V.any, V.any, V.any,
        V.any, V.any, V.any, V.any, V.any, V.any, V.any, V.any, V.any, V.any, V.any, V.any, V.any]
      0 none),
  none, none, none, some (Blk.arr 81 ET.mat v.h_16)], 13⟩
def ex_all2_1 (t_1_0_0n : Option Bool) (t_1_0_0f : Bool) (t_1_0_0 : List (Ty .evt)) (t_2_0_0n : Option Bool) (t_2_0_0f : Bool) (t_2_0_0 : List (Ty .step)) (t_2_0_1 : Int) (t_2_0_2 : Int) (t_2_0_3 : Int) (t_2_0_4 : Int) (t_8_0 : Int) (qI : Option Bool) (qJ : Bool) (qK : List (Ty .step)) (qL : Int) (qM : Int) (qN : Int) (qO : Int) (qH : Int) (j : Nat) (v : S.all2_1_V) : Ex × St := match j with
  | 0 => (Ex.ret, ⟨[V.any, V.any, V.any, V.any, V.any, V.any, V.any, V.any, V.any, V.any, V.any, V.any, V.any, V.any, V.any, V.any, V.any, V.any, V.any, V.any, V.any, V.any, V.any, V.any, V.any,
  V.any, V.any], [some
    (Blk.box 45
      [C.d (.sl qI qJ ET.step qK), C.d (.sc (.int .i64 qL)), C.d (.sc (.int .i64 qM)), C.d (.sc (.int .i64 qN)),
        C.d (.sc (.int .i64 qO))]),
  none, some (Blk.box 73 [C.own (47 + 3) ET.mat false 0 (v.h_2_0l + 1)]), none, none, none, none, some (Blk.box 3 [C.d (.sc (.int .i64 qH))]), none, none, none, none,
  some
    (Blk.lp 5
      [V.any, V.any, V.any, V.any, V.any, V.any, V.any, V.v false [C.ptr 2 0], V.v false [C.ptr 7 0], V.any, V.any, V.any, V.any, V.any, V.any, V.any, V.any, V.any, V.any, V.any,
        V.any, V.any, V.any, V.any, V.any, V.any, V.any, V.any, V.any, V.any, V.any, V.any, V.any]
      0 none),
  none, none, none, none, none, none, none, none, none, none, none, none, none, none,
  some
    (Blk.box 81
      [C.d (.sc (.int .i64 (S.zqbu_o t_2_0_0 t_2_0_1 t_2_0_2 t_2_0_3 t_2_0_4 t_1_0_0 v.t_9_0).x0)),
        C.d (.sc (.int .i64 (S.zqbu_o t_2_0_0 t_2_0_1 t_2_0_2 t_2_0_3 t_2_0_4 t_1_0_0 v.t_9_0).x1)),
        C.d (.sc (.int .i64 (S.zqbu_o t_2_0_0 t_2_0_1 t_2_0_2 t_2_0_3 t_2_0_4 t_1_0_0 v.t_9_0).x2)),
        C.d (.sc (.bool (S.zqbu_o t_2_0_0 t_2_0_1 t_2_0_2 t_2_0_3 t_2_0_4 t_1_0_0 v.t_9_0).x3))]),
  none, none, none, none, none, none, none, none, none,
  some
    (Blk.box 81
      [C.d (.sc (.int .i64 (S.zqbu_o t_2_0_0 t_2_0_1 t_2_0_2 t_2_0_3 t_2_0_4 t_1_0_0 v.t_9_0).x0)),
        C.d (.sc (.int .i64 (S.zqbu_o t_2_0_0 t_2_0_1 t_2_0_2 t_2_0_3 t_2_0_4 t_1_0_0 v.t_9_0).x1)),
        C.d (.sc (.int .i64 (S.zqbu_o t_2_0_0 t_2_0_1 t_2_0_2 t_2_0_3 t_2_0_4 t_1_0_0 v.t_9_0).x2)),
        C.d (.sc (.bool (S.zqbu_o t_2_0_0 t_2_0_1 t_2_0_2 t_2_0_3 t_2_0_4 t_1_0_0 v.t_9_0).x3))]),
  none, none, none, none, none, none, none, none, none, none, none,
  some
    (Blk.arr 81 ET.mat
      ((List.replicate 1 (dflt ET.mat)).set 0
        { start := (S.zqbu_o t_2_0_0 t_2_0_1 t_2_0_2 t_2_0_3 t_2_0_4 t_1_0_0 v.t_9_0).x0, fin := (S.zqbu_o t_2_0_0 t_2_0_1 t_2_0_2 t_2_0_3 t_2_0_4 t_1_0_0 v.t_9_0).x1,
          agg := (S.zqbu_o t_2_0_0 t_2_0_1 t_2_0_2 t_2_0_3 t_2_0_4 t_1_0_0 v.t_9_0).x2, bad := (S.zqbu_o t_2_0_0 t_2_0_1 t_2_0_2 t_2_0_3 t_2_0_4 t_1_0_0 v.t_9_0).x3 :
          Mat })),
  some
    (Blk.arr 81 ET.mat
      (List.take v.h_2_0l v.h_16 ++
        [{ start := (S.zqbu_o t_2_0_0 t_2_0_1 t_2_0_2 t_2_0_3 t_2_0_4 t_1_0_0 v.t_9_0).x0, fin := (S.zqbu_o t_2_0_0 t_2_0_1 t_2_0_2 t_2_0_3 t_2_0_4 t_1_0_0 v.t_9_0).x1,
            agg := (S.zqbu_o t_2_0_0 t_2_0_1 t_2_0_2 t_2_0_3 t_2_0_4 t_1_0_0 v.t_9_0).x2, bad := (S.zqbu_o t_2_0_0 t_2_0_1 t_2_0_2 t_2_0_3 t_2_0_4 t_1_0_0 v.t_9_0).x3 :
            Mat }])),
  none], 13⟩)
  | 1 => (Ex.ret, ⟨[V.any, V.any, V.any, V.any, V.any, V.any, V.any, V.any, V.any, V.any, V.any, V.any, V.any, V.any, V.any, V.any, V.any, V.any, V.any, V.any, V.any, V.any, V.any, V.any, V.any,
  V.any, V.any], [some
    (Blk.box 45
      [C.d (.sl qI qJ ET.step qK), C.d (.sc (.int .i64 qL)), C.d (.sc (.int .i64 qM)), C.d (.sc (.int .i64 qN)),
        C.d (.sc (.int .i64 qO))]),
  none, some (Blk.box 73 [C.own 16 ET.mat v.h_2_0f 0 v.h_2_0l]), none, none, none, none, some (Blk.box 3 [C.d (.sc (.int .i64 qH))]), none, none, none, none,
  some
    (Blk.lp 5
      [V.any, V.any, V.any, V.any, V.any, V.any, V.any, V.v false [C.ptr 2 0], V.v false [C.ptr 7 0], V.any, V.any, V.any, V.any, V.any, V.any, V.any, V.any, V.any, V.any, V.any,
        V.any, V.any, V.any, V.any, V.any, V.any, V.any, V.any, V.any, V.any, V.any, V.any, V.any]
      0 none),
  none, none, none, some (Blk.arr 81 ET.mat v.h_16), none, none, none, none, none, none, none, none, none, none,
  some
    (Blk.box 81
      [C.d (.sc (.int .i64 (S.zqbu_o t_2_0_0 t_2_0_1 t_2_0_2 t_2_0_3 t_2_0_4 t_1_0_0 v.t_9_0).x0)),
        C.d (.sc (.int .i64 (S.zqbu_o t_2_0_0 t_2_0_1 t_2_0_2 t_2_0_3 t_2_0_4 t_1_0_0 v.t_9_0).x1)),
        C.d (.sc (.int .i64 (S.zqbu_o t_2_0_0 t_2_0_1 t_2_0_2 t_2_0_3 t_2_0_4 t_1_0_0 v.t_9_0).x2)),
        C.d (.sc (.bool (S.zqbu_o t_2_0_0 t_2_0_1 t_2_0_2 t_2_0_3 t_2_0_4 t_1_0_0 v.t_9_0).x3))]),
  none, none, none, none, none, none, none, none, none,
  some
    (Blk.box 81
      [C.d (.sc (.int .i64 (S.zqbu_o t_2_0_0 t_2_0_1 t_2_0_2 t_2_0_3 t_2_0_4 t_1_0_0 v.t_9_0).x0)),
        C.d (.sc (.int .i64 (S.zqbu_o t_2_0_0 t_2_0_1 t_2_0_2 t_2_0_3 t_2_0_4 t_1_0_0 v.t_9_0).x1)),
        C.d (.sc (.int .i64 (S.zqbu_o t_2_0_0 t_2_0_1 t_2_0_2 t_2_0_3 t_2_0_4 t_1_0_0 v.t_9_0).x2)),
        C.d (.sc (.bool (S.zqbu_o t_2_0_0 t_2_0_1 t_2_0_2 t_2_0_3 t_2_0_4 t_1_0_0 v.t_9_0).x3))]),
  none, none, none, none, none, none, none, none, none], 13⟩)
  | 2 => (Ex.exit 0, ⟨[V.any, V.any, V.any, V.any, V.any, V.any, V.any, V.any, V.any, V.any, V.any, V.any, V.any, V.any, V.any, V.any, V.any, V.any, V.any, V.any, V.any, V.any, V.any, V.any, V.any,
  V.any, V.any], [some
    (Blk.box 45
      [C.d (.sl qI qJ ET.step qK), C.d (.sc (.int .i64 qL)), C.d (.sc (.int .i64 qM)), C.d (.sc (.int .i64 qN)),
        C.d (.sc (.int .i64 qO))]),
  none, some (Blk.box 73 [C.own 16 ET.mat v.h_2_0f 0 v.h_2_0l]), none, none, none, none, some (Blk.box 3 [C.d (.sc (.int .i64 qH))]), none, none, none, none,
  some
    (Blk.lp 5
      [V.any, V.any, V.any, V.any, V.any, V.any, V.any, V.v false [C.ptr 2 0], V.v false [C.ptr 7 0], V.any, V.any, V.any, V.any, V.any, V.any, V.any, V.any, V.any, V.any, V.any,
        V.any, V.any, V.any, V.any, V.any, V.any, V.any, V.any, V.any, V.any, V.any, V.any, V.any]
      0 none),
  none, none, none, some (Blk.arr 81 ET.mat v.h_16), none], 13⟩)
  | _ => (.ret, ⟨[], [], 0⟩)
def U_all2_1_e0 (x : V) (K : Tree) : Tree := match x with
  | V.v false [C.yld 12] => K
  | _ => .bad
def U_all2_1_e1 (x : V) (K : (Option Bool) → Bool → (List (Ty .evt)) → Tree) : Tree := match x with
  | V.v false [C.d (D.ref [D.sl t_1_0_0n t_1_0_0f ET.evt t_1_0_0])] => K t_1_0_0n t_1_0_0f t_1_0_0
  | _ => .bad
def U_all2_1_e2 (x : V) (K : (Option Bool) → Bool → (List (Ty .step)) → Int → Int → Int → Int → Tree) : Tree := match x with
  | V.v false [C.d (D.ref [D.sl t_2_0_0n t_2_0_0f ET.step t_2_0_0, D.sc (Sc.int IntKind.i64 t_2_0_1), D.sc (Sc.int IntKind.i64 t_2_0_2), D.sc (Sc.int IntKind.i64 t_2_0_3), D.sc (Sc.int IntKind.i64 t_2_0_4)])] => K t_2_0_0n t_2_0_0f t_2_0_0 t_2_0_1 t_2_0_2 t_2_0_3 t_2_0_4
  | _ => .bad
def U_all2_1_e8 (x : V) (K : Int → Tree) : Tree := match x with
  | V.v false [C.d (.sc (.int .i64 t_8_0))] => K t_8_0
  | _ => .bad
def U_all2_1_e9 (x : V) (K : Int → Tree) : Tree := match x with
  | V.v false [C.d (.sc (.int .i64 t_9_0))] => K t_9_0
  | _ => .bad
def U_all2_1_h0 (x : Option Blk) (K : (Option Bool) → Bool → (List (Ty .step)) → Int → Int → Int → Int → Tree) : Tree := match x with
  | some (Blk.box 45 [C.d (.sl qI qJ ET.step qK), C.d (.sc (.int .i64 qL)), C.d (.sc (.int .i64 qM)), C.d (.sc (.int .i64 qN)), C.d (.sc (.int .i64 qO))]) => K qI qJ qK qL qM qN qO
  | _ => .bad
def U_all2_1_h2 (x : Option Blk) (K : Bool → Nat → Tree) : Tree := match x with
  | some (Blk.box 73 [C.own 16 ET.mat h_2_0f 0 h_2_0l]) => K h_2_0f h_2_0l
  | _ => .bad
def U_all2_1_h7 (x : Option Blk) (K : Int → Tree) : Tree := match x with
  | some (Blk.box 3 [C.d (.sc (.int .i64 qH))]) => K qH
  | _ => .bad
def U_all2_1_h12 (x : Option Blk) (K : Tree) : Tree := match x with
  | some (Blk.lp 5 (V.any :: V.any :: V.any :: V.any :: V.any :: V.any :: V.any :: V.v false [C.ptr 2 0] :: V.v false [C.ptr 7 0] :: V.any :: V.any :: V.any :: V.any :: V.any :: V.any :: V.any :: V.any :: V.any :: V.any :: V.any :: V.any :: V.any :: V.any :: V.any :: V.any :: V.any :: V.any :: V.any :: V.any :: V.any :: V.any :: V.any :: V.any :: []) 0 none) => K
  | _ => .bad
def U_all2_1_h16 (x : Option Blk) (K : (List (Ty .mat)) → Tree) : Tree := match x with
  | some (Blk.arr 81 ET.mat h_16) => K h_16
  | _ => .bad
def T1_all2_1 (e0 : V) (e1 : V) (e2 : V) (e8 : V) (e9 : V) (h0 : Option Blk) (h2 : Option Blk) (h7 : Option Blk) (h12 : Option Blk) (h16 : Option Blk) : Tree := U_all2_1_e0 e0 (U_all2_1_e1 e1 (fun t_1_0_0n t_1_0_0f t_1_0_0 => U_all2_1_e2 e2 (fun t_2_0_0n t_2_0_0f t_2_0_0 t_2_0_1 t_2_0_2 t_2_0_3 t_2_0_4 => U_all2_1_e8 e8 (fun t_8_0 => U_all2_1_e9 e9 (fun t_9_0 => U_all2_1_h0 h0 (fun qI qJ qK qL qM qN qO => U_all2_1_h2 h2 (fun h_2_0f h_2_0l => U_all2_1_h7 h7 (fun qH => U_all2_1_h12 h12 (U_all2_1_h16 h16 (fun h_16 => exT (fun j => ex_all2_1 t_1_0_0n t_1_0_0f t_1_0_0 t_2_0_0n t_2_0_0f t_2_0_0 t_2_0_1 t_2_0_2 t_2_0_3 t_2_0_4 t_8_0 qI qJ qK qL qM qN qO qH j (S.all2_1_v t_1_0_0 t_2_0_0 t_2_0_1 t_2_0_2 t_2_0_3 t_2_0_4 t_8_0 qH ⟨t_9_0, h_2_0f, h_2_0l, h_16⟩)) (S.all2_1_j t_1_0_0 t_2_0_0 t_2_0_1 t_2_0_2 t_2_0_3 t_2_0_4 t_8_0 qH ⟨t_9_0, h_2_0f, h_2_0l, h_16⟩) [0, 1, 2]))))))))))
def T_all2_1 (st : St) : Tree := bif okSt 27 17 13 [0, 2, 7, 12, 16] st then T1_all2_1 (st.env.getD 0 .any) (st.env.getD 1 .any) (st.env.getD 2 .any) (st.env.getD 8 .any) (st.env.getD 9 .any) (lk st.heap 0) (lk st.heap 2) (lk st.heap 7) (lk st.heap 12) (lk st.heap 16) else .bad
def b_all2_1 : Code := loopBy Try.f140 1
theorem rnd_all2_1 (t_1_0_0n : Option Bool) (t_1_0_0f : Bool) (t_1_0_0 : List (Ty .evt)) (t_2_0_0n : Option Bool) (t_2_0_0f : Bool) (t_2_0_0 : List (Ty .step)) (t_2_0_1 : Int) (t_2_0_2 : Int) (t_2_0_3 : Int) (t_2_0_4 : Int) (t_8_0 : Int) (qI : Option Bool) (qJ : Bool) (qK : List (Ty .step)) (qL : Int) (qM : Int) (qN : Int) (qO : Int) (qH : Int) (v : S.all2_1_V) : round2 cx_all2 (hdI cx_all2 (find []) [(140, Try.f140)] none 3) 140 b_all2_1 [16] 17 [] (mk_all2_1 t_1_0_0n t_1_0_0f t_1_0_0 t_2_0_0n t_2_0_0f t_2_0_0 t_2_0_1 t_2_0_2 t_2_0_3 t_2_0_4 t_8_0 qI qJ qK qL qM qN qO qH v) = (S.all2_1_R t_1_0_0 t_2_0_0 t_2_0_1 t_2_0_2 t_2_0_3 t_2_0_4 t_8_0 qH v).go (roundOut (mk_all2_1 t_1_0_0n t_1_0_0f t_1_0_0 t_2_0_0n t_2_0_0f t_2_0_0 t_2_0_1 t_2_0_2 t_2_0_3 t_2_0_4 t_8_0 qI qJ qK qL qM qN qO qH) (ex_all2_1 t_1_0_0n t_1_0_0f t_1_0_0 t_2_0_0n t_2_0_0f t_2_0_0 t_2_0_1 t_2_0_2 t_2_0_3 t_2_0_4 t_8_0 qI qJ qK qL qM qN qO qH)) := by kernel_rfl
theorem bs_all2_1 : loopsOf b_all2_1 ++ loopsInl [(140, Try.f140)] ++ loopsRf [(5, rfAt 73 Try.f73)] = [b_all2_1] := by kernel_rfl
theorem ci_all2_1 (t_1_0_0n : Option Bool) (t_1_0_0f : Bool) (t_1_0_0 : List (Ty .evt)) (t_2_0_0n : Option Bool) (t_2_0_0f : Bool) (t_2_0_0 : List (Ty .step)) (t_2_0_1 : Int) (t_2_0_2 : Int) (t_2_0_3 : Int) (t_2_0_4 : Int) (t_8_0 : Int) (qI : Option Bool) (qJ : Bool) (qK : List (Ty .step)) (qL : Int) (qM : Int) (qN : Int) (qO : Int) (qH : Int) : ∀ v j v2, Lp (S.all2_1_r t_1_0_0 t_2_0_0 t_2_0_1 t_2_0_2 t_2_0_3 t_2_0_4 t_8_0 qH) v = some (j, v2) → Circles Try.prog cx_all2 b_all2_1 (mk_all2_1 t_1_0_0n t_1_0_0f t_1_0_0 t_2_0_0n t_2_0_0f t_2_0_0 t_2_0_1 t_2_0_2 t_2_0_3 t_2_0_4 t_8_0 qI qJ qK qL qM qN qO qH v) (ex_all2_1 t_1_0_0n t_1_0_0f t_1_0_0 t_2_0_0n t_2_0_0f t_2_0_0 t_2_0_1 t_2_0_2 t_2_0_3 t_2_0_4 t_8_0 qI qJ qK qL qM qN qO qH j v2).1 (ex_all2_1 t_1_0_0n t_1_0_0f t_1_0_0 t_2_0_0n t_2_0_0f t_2_0_0 t_2_0_1 t_2_0_2 t_2_0_3 t_2_0_4 t_8_0 qI qJ qK qL qM qN qO qH j v2).2 :=
  loop_ok3 (L := find []) (n := 3) (hints := [(73, 5, { keep := [7, 8], acc := [] }), (140, 1, { keep := [0, 1, 2, 8, 9], acc := [(1002, some 0, .mat, 81)] })]) (cx_ok rfl) rdy_all2 prs_all2 bs_all2_1 (consB (fun T h => by have e : (none : Option (St → Tree)) = some T := h; cases e) nilB) (fun v => (rnd_all2_1 t_1_0_0n t_1_0_0f t_1_0_0 t_2_0_0n t_2_0_0f t_2_0_0 t_2_0_1 t_2_0_2 t_2_0_3 t_2_0_4 t_8_0 qI qJ qK qL qM qN qO qH v).trans (DT.go_run _ _)) (by intro j v; unfold ex_all2_1; split <;> rfl)
theorem mke_all2_1 (t_1_0_0n : Option Bool) (t_1_0_0f : Bool) (t_1_0_0 : List (Ty .evt)) (t_2_0_0n : Option Bool) (t_2_0_0f : Bool) (t_2_0_0 : List (Ty .step)) (t_2_0_1 : Int) (t_2_0_2 : Int) (t_2_0_3 : Int) (t_2_0_4 : Int) (t_8_0 : Int) (qI : Option Bool) (qJ : Bool) (qK : List (Ty .step)) (qL : Int) (qM : Int) (qN : Int) (qO : Int) (qH : Int) (v : S.all2_1_V) : mk_all2_1 t_1_0_0n t_1_0_0f t_1_0_0 t_2_0_0n t_2_0_0f t_2_0_0 t_2_0_1 t_2_0_2 t_2_0_3 t_2_0_4 t_8_0 qI qJ qK qL qM qN qO qH v = ⟨envOf 27 [(0, V.v false [C.yld 12]), (1, V.v false [C.d (D.ref [D.sl t_1_0_0n t_1_0_0f ET.evt t_1_0_0])]), (2, V.v false
  [C.d
      (D.ref
        [D.sl t_2_0_0n t_2_0_0f ET.step t_2_0_0, D.sc (Sc.int IntKind.i64 t_2_0_1), D.sc (Sc.int IntKind.i64 t_2_0_2), D.sc (Sc.int IntKind.i64 t_2_0_3),
          D.sc (Sc.int IntKind.i64 t_2_0_4)])]), (8, V.v false [C.d (.sc (.int .i64 t_8_0))]), (9, V.v false [C.d (.sc (.int .i64 v.t_9_0))])], heapOf 17 [(0, some
  (Blk.box 45
    [C.d (.sl qI qJ ET.step qK), C.d (.sc (.int .i64 qL)), C.d (.sc (.int .i64 qM)), C.d (.sc (.int .i64 qN)),
      C.d (.sc (.int .i64 qO))])), (2, some (Blk.box 73 [C.own 16 ET.mat v.h_2_0f 0 v.h_2_0l])), (7, some (Blk.box 3 [C.d (.sc (.int .i64 qH))])), (12, some
  (Blk.lp 5
    [V.any, V.any, V.any, V.any, V.any, V.any, V.any, V.v false [C.ptr 2 0], V.v false [C.ptr 7 0], V.any, V.any, V.any, V.any, V.any, V.any, V.any, V.any, V.any, V.any, V.any,
      V.any, V.any, V.any, V.any, V.any, V.any, V.any, V.any, V.any, V.any, V.any, V.any, V.any]
    0 none)), (16, some (Blk.arr 81 ET.mat v.h_16))], 13⟩ := by kernel_rfl
theorem Ui_all2_1_e0 {x : V} {K : Tree} {z : Ex × St} (h : (U_all2_1_e0 x K).eval = some z) : x = V.v false [C.yld 12] ∧ (K).eval = some z := by
  unfold U_all2_1_e0 at h
  split at h
  · exact ⟨rfl, h⟩
  · cases h
theorem Ui_all2_1_e1 {x : V} {K : (Option Bool) → Bool → (List (Ty .evt)) → Tree} {z : Ex × St} (h : (U_all2_1_e1 x K).eval = some z) : ∃ (t_1_0_0n : Option Bool) (t_1_0_0f : Bool) (t_1_0_0 : List (Ty .evt)), x = V.v false [C.d (D.ref [D.sl t_1_0_0n t_1_0_0f ET.evt t_1_0_0])] ∧ (K t_1_0_0n t_1_0_0f t_1_0_0).eval = some z := by
  unfold U_all2_1_e1 at h
  split at h
  · exact ⟨_, _, _, rfl, h⟩
  · cases h
theorem Ui_all2_1_e2 {x : V} {K : (Option Bool) → Bool → (List (Ty .step)) → Int → Int → Int → Int → Tree} {z : Ex × St} (h : (U_all2_1_e2 x K).eval = some z) : ∃ (t_2_0_0n : Option Bool) (t_2_0_0f : Bool) (t_2_0_0 : List (Ty .step)) (t_2_0_1 : Int) (t_2_0_2 : Int) (t_2_0_3 : Int) (t_2_0_4 : Int), x = V.v false [C.d (D.ref [D.sl t_2_0_0n t_2_0_0f ET.step t_2_0_0, D.sc (Sc.int IntKind.i64 t_2_0_1), D.sc (Sc.int IntKind.i64 t_2_0_2), D.sc (Sc.int IntKind.i64 t_2_0_3), D.sc (Sc.int IntKind.i64 t_2_0_4)])] ∧ (K t_2_0_0n t_2_0_0f t_2_0_0 t_2_0_1 t_2_0_2 t_2_0_3 t_2_0_4).eval = some z := by
  unfold U_all2_1_e2 at h
  split at h
  · exact ⟨_, _, _, _, _, _, _, rfl, h⟩
  · cases h
theorem Ui_all2_1_e8 {x : V} {K : Int → Tree} {z : Ex × St} (h : (U_all2_1_e8 x K).eval = some z) : ∃ (t_8_0 : Int), x = V.v false [C.d (.sc (.int .i64 t_8_0))] ∧ (K t_8_0).eval = some z := by
  unfold U_all2_1_e8 at h
  split at h
  · exact ⟨_, rfl, h⟩
  · cases h
theorem Ui_all2_1_e9 {x : V} {K : Int → Tree} {z : Ex × St} (h : (U_all2_1_e9 x K).eval = some z) : ∃ (t_9_0 : Int), x = V.v false [C.d (.sc (.int .i64 t_9_0))] ∧ (K t_9_0).eval = some z := by
  unfold U_all2_1_e9 at h
  split at h
  · exact ⟨_, rfl, h⟩
  · cases h
theorem Ui_all2_1_h0 {x : Option Blk} {K : (Option Bool) → Bool → (List (Ty .step)) → Int → Int → Int → Int → Tree} {z : Ex × St} (h : (U_all2_1_h0 x K).eval = some z) : ∃ (qI : Option Bool) (qJ : Bool) (qK : List (Ty .step)) (qL : Int) (qM : Int) (qN : Int) (qO : Int), x = some (Blk.box 45 [C.d (.sl qI qJ ET.step qK), C.d (.sc (.int .i64 qL)), C.d (.sc (.int .i64 qM)), C.d (.sc (.int .i64 qN)), C.d (.sc (.int .i64 qO))]) ∧ (K qI qJ qK qL qM qN qO).eval = some z := by
  unfold U_all2_1_h0 at h
  split at h
  · exact ⟨_, _, _, _, _, _, _, rfl, h⟩
  · cases h
theorem Ui_all2_1_h2 {x : Option Blk} {K : Bool → Nat → Tree} {z : Ex × St} (h : (U_all2_1_h2 x K).eval = some z) : ∃ (h_2_0f : Bool) (h_2_0l : Nat), x = some (Blk.box 73 [C.own 16 ET.mat h_2_0f 0 h_2_0l]) ∧ (K h_2_0f h_2_0l).eval = some z := by
  unfold U_all2_1_h2 at h
  split at h
  · exact ⟨_, _, rfl, h⟩
  · cases h
theorem Ui_all2_1_h7 {x : Option Blk} {K : Int → Tree} {z : Ex × St} (h : (U_all2_1_h7 x K).eval = some z) : ∃ (qH : Int), x = some (Blk.box 3 [C.d (.sc (.int .i64 qH))]) ∧ (K qH).eval = some z := by
  unfold U_all2_1_h7 at h
  split at h
  · exact ⟨_, rfl, h⟩
  · cases h
theorem Ui_all2_1_h12 {x : Option Blk} {K : Tree} {z : Ex × St} (h : (U_all2_1_h12 x K).eval = some z) : x = some (Blk.lp 5 (V.any :: V.any :: V.any :: V.any :: V.any :: V.any :: V.any :: V.v false [C.ptr 2 0] :: V.v false [C.ptr 7 0] :: V.any :: V.any :: V.any :: V.any :: V.any :: V.any :: V.any :: V.any :: V.any :: V.any :: V.any :: V.any :: V.any :: V.any :: V.any :: V.any :: V.any :: V.any :: V.any :: V.any :: V.any :: V.any :: V.any :: V.any :: []) 0 none) ∧ (K).eval = some z := by
  unfold U_all2_1_h12 at h
  split at h
  · exact ⟨rfl, h⟩
  · cases h
theorem Ui_all2_1_h16 {x : Option Blk} {K : (List (Ty .mat)) → Tree} {z : Ex × St} (h : (U_all2_1_h16 x K).eval = some z) : ∃ (h_16 : List (Ty .mat)), x = some (Blk.arr 81 ET.mat h_16) ∧ (K h_16).eval = some z := by
  unfold U_all2_1_h16 at h
  split at h
  · exact ⟨_, rfl, h⟩
  · cases h
theorem lo1_all2_1 (e0 : V) (e1 : V) (e2 : V) (e8 : V) (e9 : V) (h0 : Option Blk) (h2 : Option Blk) (h7 : Option Blk) (h12 : Option Blk) (h16 : Option Blk) e st2 (h : (T1_all2_1 e0 e1 e2 e8 e9 h0 h2 h7 h12 h16).eval = some (e, st2)) : Circles Try.prog cx_all2 b_all2_1 ⟨envOf 27 [(0, e0), (1, e1), (2, e2), (8, e8), (9, e9)], heapOf 17 [(0, h0), (2, h2), (7, h7), (12, h12), (16, h16)], 13⟩ e st2 := by
  unfold T1_all2_1 at h
  obtain ⟨rfl, h⟩ := Ui_all2_1_e0 h
  obtain ⟨t_1_0_0n, t_1_0_0f, t_1_0_0, rfl, h⟩ := Ui_all2_1_e1 h
  obtain ⟨t_2_0_0n, t_2_0_0f, t_2_0_0, t_2_0_1, t_2_0_2, t_2_0_3, t_2_0_4, rfl, h⟩ := Ui_all2_1_e2 h
  obtain ⟨t_8_0, rfl, h⟩ := Ui_all2_1_e8 h
  obtain ⟨t_9_0, rfl, h⟩ := Ui_all2_1_e9 h
  obtain ⟨qI, qJ, qK, qL, qM, qN, qO, rfl, h⟩ := Ui_all2_1_h0 h
  obtain ⟨h_2_0f, h_2_0l, rfl, h⟩ := Ui_all2_1_h2 h
  obtain ⟨qH, rfl, h⟩ := Ui_all2_1_h7 h
  obtain ⟨rfl, h⟩ := Ui_all2_1_h12 h
  obtain ⟨h_16, rfl, h⟩ := Ui_all2_1_h16 h
  have := loop_tree (mk := mk_all2_1 t_1_0_0n t_1_0_0f t_1_0_0 t_2_0_0n t_2_0_0f t_2_0_0 t_2_0_1 t_2_0_2 t_2_0_3 t_2_0_4 t_8_0 qI qJ qK qL qM qN qO qH) (ci_all2_1 t_1_0_0n t_1_0_0f t_1_0_0 t_2_0_0n t_2_0_0f t_2_0_0 t_2_0_1 t_2_0_2 t_2_0_3 t_2_0_4 t_8_0 qI qJ qK qL qM qN qO qH) _ _ e st2 h
  rw [mke_all2_1] at this
  exact this
theorem lok_all2_1 : LoopOk Try.prog cx_all2 b_all2_1 T_all2_1 := by
  intro st e st2 h
  unfold T_all2_1 at h
  cases hk : okSt 27 17 13 [0, 2, 7, 12, 16] st with
  | false => rw [hk] at h; cases h
  | true =>
    rw [hk] at h
    exact circles_keep (ks := [0, 1, 2, 8, 9]) hk (lo1_all2_1 _ _ _ _ _ _ _ _ _ _ e st2 h)
structure S.all2_T where
  x0 : List (Ty .mat)
  x1 : Bool
  x2 : Nat
  deriving Inhabited
def S.all2_R (a0_0n : Option Bool) (a0_0f : Bool) (a0_0 : List (Ty .step)) (a0_1 : Int) (a0_2 : Int) (a0_3 : Int) (a0_4 : Int) (a1n : Option Bool) (a1f : Bool) (a1 : List (Ty .evt)) (a2 : Int) : DT S.all2_T :=
let y0 : S.zqav_T := S.zqav_o a0_0n a0_0f a0_0 a0_1 a0_2 a0_3 a0_4 a1n a1f a1
let y1 : List (Ty .evt) := y0.x2
let y2 : List (Ty .step) := y0.x5
let y3 : Int := y0.x6
let y4 : Int := y0.x7
let y5 : Int := y0.x8
let y6 : Int := y0.x9
let y7 : Int := (↑y1.length : Int)
let y8 : Int := (S.zqbg_o a0_0 a0_1 a0_2 a0_3 a0_4 a1 a2).x0
let y9 : S.all2_1_V := { t_9_0 := 0, h_2_0f := true, h_2_0l := 0, h_16 := [] : S.all2_1_V }
let y10 : S.all2_1_V := S.all2_1_v y1 y2 y3 y4 y5 y6 y7 y8 y9
let y11 : Nat := y10.h_2_0l
let y12 : Nat := y11 + 1
let y13 : List (Ty .mat) := y10.h_16
let y14 : S.zqbu_T := S.zqbu_o y2 y3 y4 y5 y6 y1 y10.t_9_0
let y15 : List (Ty .mat) := List.take y11 y13 ++ [{ start := y14.x0, fin := y14.x1, agg := y14.x2, bad := y14.x3 : Mat }]
let y16 : Bool := xdec (y11 = y13.length) && S.sort2_is y13
let y17 : List (Ty .mat) := (S.sort2_o y13).x0
let y18 : Bool := y10.h_2_0f
(.br (S.zqbg_is a0_0 a0_1 a0_2 a0_3 a0_4 a1 a2)
(.br (S.all2_1_j y1 y2 y3 y4 y5 y6 y7 y8 y9 0)
(.br (xdec (y12 = y15.length) && S.sort2_is y15)
(.leaf ⟨(S.sort2_o y15).x0, false, y12⟩)
.fail)
(.br (S.all2_1_j y1 y2 y3 y4 y5 y6 y7 y8 y9 1)
(.br (y16)
(.leaf ⟨y17, y18, y11⟩)
.fail)
(.br (S.all2_1_j y1 y2 y3 y4 y5 y6 y7 y8 y9 2)
(.br (y16)
(.leaf ⟨y17, y18, y11⟩)
.fail)
.fail)))
.fail)
def S.all2 (a0_0n : Option Bool) (a0_0f : Bool) (a0_0 : List (Ty .step)) (a0_1 : Int) (a0_2 : Int) (a0_3 : Int) (a0_4 : Int) (a1n : Option Bool) (a1f : Bool) (a1 : List (Ty .evt)) (a2 : Int) : Option S.all2_T := (S.all2_R a0_0n a0_0f a0_0 a0_1 a0_2 a0_3 a0_4 a1n a1f a1 a2).run
def S.all2_is (a0_0n : Option Bool) (a0_0f : Bool) (a0_0 : List (Ty .step)) (a0_1 : Int) (a0_2 : Int) (a0_3 : Int) (a0_4 : Int) (a1n : Option Bool) (a1f : Bool) (a1 : List (Ty .evt)) (a2 : Int) : Bool := (S.all2 a0_0n a0_0f a0_0 a0_1 a0_2 a0_3 a0_4 a1n a1f a1 a2).isSome
def S.all2_o (a0_0n : Option Bool) (a0_0f : Bool) (a0_0 : List (Ty .step)) (a0_1 : Int) (a0_2 : Int) (a0_3 : Int) (a0_4 : Int) (a1n : Option Bool) (a1f : Bool) (a1 : List (Ty .evt)) (a2 : Int) : S.all2_T := (S.all2 a0_0n a0_0f a0_0 a0_1 a0_2 a0_3 a0_4 a1n a1f a1 a2).getD default
def ret_all2 (b : Bool) (r : S.all2_T) : Ret := ⟨b, some (81, (⟨ET.mat, r.x0⟩ : (t : ET) × List (Ty t))), [(false, [C.own 0 ET.mat r.x1 0 r.x2])]⟩
def g_all2 : Con
  | [(true, [.sl a0_0n a0_0f .step a0_0, .sc (.int .i64 a0_1), .sc (.int .i64 a0_2), .sc (.int .i64 a0_3), .sc (.int .i64 a0_4)]), (false, [.sl a1n a1f .evt a1]), (false, [.sc (.int .i64 a2)])] => some (ret_all2 (S.all2_is a0_0n a0_0f a0_0 a0_1 a0_2 a0_3 a0_4 a1n a1f a1 a2) (S.all2_o a0_0n a0_0f a0_0 a0_1 a0_2 a0_3 a0_4 a1n a1f a1 a2))
  | _ => none
theorem raw_all2 (a0_0n : Option Bool) (a0_0f : Bool) (a0_0 : List (Ty .step)) (a0_1 : Int) (a0_2 : Int) (a0_3 : Int) (a0_4 : Int) (a1n : Option Bool) (a1f : Bool) (a1 : List (Ty .evt)) (a2 : Int) : evR4 cx_all2 (hdT cx_all2 (find [(1, T_all2_1)]) [(140, Try.f140)] none 3) none Try.f73 73 (some 81) [(true, [.sl a0_0n a0_0f .step a0_0, .sc (.int .i64 a0_1), .sc (.int .i64 a0_2), .sc (.int .i64 a0_3), .sc (.int .i64 a0_4)]), (false, [.sl a1n a1f .evt a1]), (false, [.sc (.int .i64 a2)])] some = (S.all2_R a0_0n a0_0f a0_0 a0_1 a0_2 a0_3 a0_4 a1n a1f a1 a2).go (ret_all2 true) := by kernel_rfl
theorem bs_all2 : loopsIn Try.f73 [(140, Try.f140)] ++ loopsRf [(5, rfAt 73 Try.f73)] = [b_all2_1] := by kernel_rfl
theorem all2_ok : Stands Try.prog tyTab 73 g_all2 := by
  refine stands4 (L := find [(1, T_all2_1)]) (n := 3) (hints := [(73, 5, { keep := [7, 8], acc := [] }), (140, 1, { keep := [0, 1, 2, 8, 9], acc := [(1002, some 0, .mat, 81)] })]) (cx_ok rfl) rdy_all2 prs_all2 ⟨by kernel_rfl, by kernel_rfl, by kernel_rfl⟩ (rfsOk_one (by kernel_rfl) (by kernel_rfl)) bs_all2 (consB (fun T h => by have e : T_all2_1 = T := Option.some.inj (show some T_all2_1 = some T from h); exact e ▸ lok_all2_1) nilB) (fun das r hG hr => ?_)
  unfold g_all2 at hG
  split at hG
  · rename_i a0_0n a0_0f a0_0 a0_1 a0_2 a0_3 a0_4 a1n a1f a1 a2
    injection hG with hG; subst hG
    exact ⟨(some 81), true, win default ((raw_all2 a0_0n a0_0f a0_0 a0_1 a0_2 a0_3 a0_4 a1n a1f a1 a2).trans (DT.go_run _ _)) hr⟩
  · cases hG
end
end Go.Eng
