/- Contracts, laid by program. -/
import Derived.Test.YtoohnjneocohnaaGreatZG12
import Derived.Test.YtoohnjneocohnaaGreatZE3
set_option maxHeartbeats 2000000
set_option maxRecDepth 10000
set_option linter.unusedVariables false
namespace Go.Eng
noncomputable section
open Go Go.Eng Go.Proofs Go.Eng.Tab
abbrev cx_zh7k : Cx := mkCx3 tyTab [(23, g_zxni)] [] [(74, 1, { keep := [0, 1, 2, 3, 10], acc := [] })] [] [] []
theorem rdy_zh7k : Ready Tryz.prog tyTab [(23, g_zxni)] [] [] := ⟨consG2 zxni_ok (noneG2), noneI2, noneF2⟩
theorem prs_zh7k : PrsOk Tryz.prog tyTab [] := noneP
structure S.zh7k_1_V where
 t10_ : Int
 h_0 : Lm
def S.zh7k_1_R (t0_l : Nat) (qA qB qC : Int) (v : S.zh7k_1_V) : DT (Option Nat × S.zh7k_1_V) :=
let y0 : Int := xwrap .i64 (qB + v.t10_)
let y1 : Int := (↑t0_l : Int)
let y2 : Bool := xdec (0 ≤ y0) && xdec (y0 < y1)
let y3 : Nat := 0 + y0.toNat
let y4 : Nat := v.h_0.length
let y5 : Int := xwrap .i64 (qA + v.t10_)
let y6 : Bool := xdec (0 ≤ y5) && xdec (y5 < y1)
let y7 : Nat := 0 + y5.toNat
let y8 : Bool := xdec (y7 < y4)
let y9 : Ty .mat := v.h_0.getD y3 (dflt .mat)
let y10 : Lm := v.h_0.set y7 { start := y9.start, fin := y9.fin, agg := y9.agg, bad := y9.bad : Mat }
let y11 : Ty .mat := v.h_0.getD y7 (dflt .mat)
(.br (xdec (v.t10_ < qC))
(.br (y2)
(.br (xdec (y3 < y4))
(.br (y6)
(.br (y8)
(.br (y6)
(.br (y8)
(.br (y2)
(.br (xdec (y3 < y10.length))
(.leaf (none, ⟨xwrap .i64 (v.t10_ + 1), y10.set y3 { start := y11.start, fin := y11.fin, agg := y11.agg, bad := y11.bad : Mat }⟩))
.fail)
.fail)
.fail)
.fail)
.fail)
.fail)
.fail)
.fail)
(.leaf (some 0, v)))
def S.zh7k_1_r (t0_l : Nat) (qA qB qC : Int) (v : S.zh7k_1_V) : Option (Option Nat × S.zh7k_1_V) := (S.zh7k_1_R t0_l qA qB qC v).run
def S.zh7k_1_j (t0_l : Nat) (qA qB qC : Int) (v : S.zh7k_1_V) (j : Nat) : Bool := Lp_j (S.zh7k_1_r t0_l qA qB qC) v j
def S.zh7k_1_v (t0_l : Nat) (qA qB qC : Int) (v : S.zh7k_1_V) : S.zh7k_1_V := Lp_v (S.zh7k_1_r t0_l qA qB qC) v
def mk_zh7k_1 (qD : Bool) (t0_l : Nat) (qA qB qC : Int) (v : S.zh7k_1_V) : St := ⟨(V.v false [C.own 0 .mat qD 0 t0_l] :: ((cV qA) :: ((cV qB) :: ((cV qC) :: (vs 6 ((cV v.t10_) :: (vs 27 []))))))), [some (Blk.arr 45 .mat v.h_0), none], 1⟩
def ex_zh7k_1 (qD : Bool) (t0_l : Nat) (qA qB qC : Int) (j : Nat) (v : S.zh7k_1_V) : Ex × St := match j with
 | 0 => (Ex.exit 0, ⟨(vs 38 []), (some (Blk.arr 45 .mat v.h_0) :: (ns 4 [])), 1⟩)
 | _ => (.ret, ⟨[], [], 0⟩)
def T1_zh7k_1 : V → V → V → V → V → Option Blk → Tree
 | V.v false [C.own 0 .mat qD 0 t0_l], V.v false [C.d (.sc (.int .i64 qA))], V.v false [C.d (.sc (.int .i64 qB))], V.v false [C.d (.sc (.int .i64 qC))], V.v false [C.d (.sc (.int .i64 t10_))], some (Blk.arr 45 .mat h_0) => exT (fun j => ex_zh7k_1 qD t0_l qA qB qC j (S.zh7k_1_v t0_l qA qB qC ⟨t10_, h_0⟩)) (S.zh7k_1_j t0_l qA qB qC ⟨t10_, h_0⟩) [0]
 | _, _, _, _, _, _ => .bad
def T_zh7k_1 (st : St) : Tree := bif okSt 38 2 1 [0] st then T1_zh7k_1 (st.env.getD 0 .any) (st.env.getD 1 .any) (st.env.getD 2 .any) (st.env.getD 3 .any) (st.env.getD 10 .any) (lk st.heap 0) else .bad
def b_zh7k_1 : Code := loopBy Tryz.f74 1
theorem rnd_zh7k_1 (qD : Bool) (t0_l : Nat) (qA qB qC : Int) (v : S.zh7k_1_V) : round2 cx_zh7k (hdI cx_zh7k (find []) [] none 0) 74 b_zh7k_1 [] 2 [] (mk_zh7k_1 qD t0_l qA qB qC v) = (S.zh7k_1_R t0_l qA qB qC v).go (roundOut (mk_zh7k_1 qD t0_l qA qB qC) (ex_zh7k_1 qD t0_l qA qB qC)) := by kernel_rfl
theorem bs_zh7k_1 : loopsOf b_zh7k_1 ++ loopsInl [] ++ loopsRf [] = [] := by kernel_rfl
theorem ci_zh7k_1 (qD : Bool) (t0_l : Nat) (qA qB qC : Int) : ∀ v j v2, Lp (S.zh7k_1_r t0_l qA qB qC) v = some (j, v2) → Circles Tryz.prog cx_zh7k b_zh7k_1 (mk_zh7k_1 qD t0_l qA qB qC v) (ex_zh7k_1 qD t0_l qA qB qC j v2).1 (ex_zh7k_1 qD t0_l qA qB qC j v2).2 :=
 loop_ok3 (L := find []) (n := 0) (hints := [(74, 1, { keep := [0, 1, 2, 3, 10], acc := [] })]) (cx_ok rfl) rdy_zh7k prs_zh7k bs_zh7k_1 nilB (fun v => (rnd_zh7k_1 qD t0_l qA qB qC v).trans (DT.go_run _ _)) (by intro j v; unfold ex_zh7k_1; split <;> rfl)
theorem mke_zh7k_1 (qD : Bool) (t0_l : Nat) (qA qB qC : Int) (v : S.zh7k_1_V) : mk_zh7k_1 qD t0_l qA qB qC v = ⟨envOf 38 [(0, V.v false [C.own 0 .mat qD 0 t0_l]), (1, (cV qA)), (2, (cV qB)), (3, (cV qC)), (10, (cV v.t10_))], heapOf 2 [(0, some (Blk.arr 45 .mat v.h_0))], 1⟩ := by kernel_rfl
theorem lo1_zh7k_1 (e0 e1 e2 e3 e10 : V) (h0 : Option Blk) e st2 (h : (T1_zh7k_1 e0 e1 e2 e3 e10 h0).eval = some (e, st2)) : Circles Tryz.prog cx_zh7k b_zh7k_1 ⟨envOf 38 [(0, e0), (1, e1), (2, e2), (3, e3), (10, e10)], heapOf 2 [(0, h0)], 1⟩ e st2 := by
 unfold T1_zh7k_1 at h
 split at h
 ·have := loop_tree (mk := mk_zh7k_1 _ _ _ _ _) (ci_zh7k_1 _ _ _ _ _) _ _ e st2 h
  rw [mke_zh7k_1] at this
  exact this
 ·cases h
theorem lok_zh7k_1 : LoopOk Tryz.prog cx_zh7k b_zh7k_1 T_zh7k_1 := by
 intro st e st2 h
 unfold T_zh7k_1 at h
 cases hk : okSt 38 2 1 [0] st with
 | false => rw [hk] at h; cases h
 | true =>
  rw [hk] at h
  exact circles_keep (ks := [0, 1, 2, 3, 10]) hk (lo1_zh7k_1 _ _ _ _ _ _ e st2 h)
structure S.zh7k_T where
 x0 : Lm
 deriving Inhabited
def S.zh7k_R (a0 : Lm) (a1 a2 a3 : Int) : DT S.zh7k_T :=
let y0 : Nat := a0.length
let y1 : S.zh7k_1_V := { t10_ := 0, h_0 := a0 : S.zh7k_1_V }
(.br (S.zh7k_1_j y0 a1 a2 a3 y1 0)
(.leaf ⟨(S.zh7k_1_v y0 a1 a2 a3 y1).h_0⟩)
.fail)
def S.zh7k (a0 : Lm) (a1 a2 a3 : Int) : Option S.zh7k_T := (S.zh7k_R a0 a1 a2 a3).run
def S.zh7k_is (a0 : Lm) (a1 a2 a3 : Int) : Bool := (S.zh7k a0 a1 a2 a3).isSome
def S.zh7k_o (a0 : Lm) (a1 a2 a3 : Int) : S.zh7k_T := (S.zh7k a0 a1 a2 a3).getD default
def ret_zh7k (b : Bool) (r : S.zh7k_T) : Ret := ⟨b, some (45, (⟨.mat, r.x0⟩ : (t : ET) × List (Ty t))), []⟩
def si_zh7k (a0f : Bool) (a0 : Lm) : List DArg → Bool
 | [(false, [.sc (.int .i64 a1)]), (false, [.sc (.int .i64 a2)]), (false, [.sc (.int .i64 a3)]), (false, [.fn 23 [] []])] => S.zh7k_is a0 a1 a2 a3
 | _ => false
def so_zh7k (a0f : Bool) (a0 : Lm) : List DArg → Lm
 | [(false, [.sc (.int .i64 a1)]), (false, [.sc (.int .i64 a2)]), (false, [.sc (.int .i64 a3)]), (false, [.fn 23 [] []])] => (S.zh7k_o a0 a1 a2 a3).x0
 | _ => a0
def p_zh7k : Proc := rowProc 45 .mat si_zh7k so_zh7k
theorem raw_zh7k (a0f : Bool) (a0 : Lm) (a1 a2 a3 : Int) : evP cx_zh7k (hdI cx_zh7k (find [(1, T_zh7k_1)]) [] none 0) none Tryz.f74 74 (some 45) [(false, [.sl none a0f .mat a0]), (false, [dI a1]), (false, [dI a2]), (false, [dI a3]), (false, [.fn 23 [] []])] some = (S.zh7k_R a0 a1 a2 a3).go (ret_zh7k true) := by kernel_rfl
theorem bs_zh7k : loopsIn Tryz.f74 [] = [b_zh7k_1] := by kernel_rfl
theorem zh7k_ok : StandsP Tryz.prog tyTab 74 p_zh7k := by
 refine standsP (L := find [(1, T_zh7k_1)]) (n := 0) (hints := [(74, 1, { keep := [0, 1, 2, 3, 10], acc := [] })]) (cx_ok rfl) rdy_zh7k prs_zh7k ⟨by kernel_rfl, by kernel_rfl, by kernel_rfl⟩ bs_zh7k (consB (fun T h => by have e : T_zh7k_1 = T := Option.some.inj (show some T_zh7k_1 = some T from h); exact e ▸ lok_zh7k_1) nilB) (by kernel_rfl) rfl (fun a0f a0 ds h => ?_)
 unfold si_zh7k at h
 split at h
 ·rename_i a1 a2 a3
  exact ⟨true, win default ((raw_zh7k a0f a0 a1 a2 a3).trans (DT.go_run _ _)) h⟩
 ·cases h
abbrev cx_z2ob : Cx := mkCx3 tyTab [(23, g_zxni)] [] [(70, 2, { keep := [0, 2, 4, 10, 11], acc := [] })] [] [] [(74, (Tryz.f74, p_zh7k))]
theorem rdy_z2ob : Ready Tryz.prog tyTab [(23, g_zxni)] [] [] := ⟨consG2 zxni_ok (noneG2), noneI2, noneF2⟩
theorem prs_z2ob : PrsOk Tryz.prog tyTab [(74, (Tryz.f74, p_zh7k))] := consP ⟨by kernel_rfl, by kernel_rfl, by kernel_rfl⟩ zh7k_ok (noneP)
structure S.z2ob_2_V where
 t10_ : Int
 t11_ : Int
 h_0 : Lm
def S.z2ob_2_R (t0_l : Nat) (qB : Int) (v : S.z2ob_2_V) : DT (Option Nat × S.z2ob_2_V) :=
let y0 : Bool := xdec (t0_l = v.h_0.length)
let y1 : Int := xwrap .i64 (qB - v.t10_)
let y2 : Int := xwrap .i64 (xwrap .i64 (qB + v.t11_) - v.t10_)
(.br (xneI v.t10_ v.t11_)
(.br (xdec (v.t10_ > v.t11_))
(.br (y0 && S.zh7k_is v.h_0 y1 qB v.t11_)
(.leaf (none, ⟨xwrap .i64 (v.t10_ - v.t11_), v.t11_, (S.zh7k_o v.h_0 y1 qB v.t11_).x0⟩))
.fail)
(.br (y0 && S.zh7k_is v.h_0 y1 y2 v.t10_)
(.leaf (none, ⟨v.t10_, xwrap .i64 (v.t11_ - v.t10_), (S.zh7k_o v.h_0 y1 y2 v.t10_).x0⟩))
.fail))
(.leaf (some 0, v)))
def S.z2ob_2_r (t0_l : Nat) (qB : Int) (v : S.z2ob_2_V) : Option (Option Nat × S.z2ob_2_V) := (S.z2ob_2_R t0_l qB v).run
def S.z2ob_2_j (t0_l : Nat) (qB : Int) (v : S.z2ob_2_V) (j : Nat) : Bool := Lp_j (S.z2ob_2_r t0_l qB) v j
def S.z2ob_2_v (t0_l : Nat) (qB : Int) (v : S.z2ob_2_V) : S.z2ob_2_V := Lp_v (S.z2ob_2_r t0_l qB) v
def mk_z2ob_2 (qD : Bool) (t0_l : Nat) (qB : Int) (v : S.z2ob_2_V) : St := ⟨(V.v false [C.own 0 .mat qD 0 t0_l] :: (V.any :: ((cV qB) :: (V.any :: (V.v false [C.d (D.fn 23 [] [])] :: (vs 5 ((cV v.t10_) :: ((cV v.t11_) :: (vs 46 []))))))))), (some (Blk.arr 45 .mat v.h_0) :: (ns 8 [])), 1⟩
def ex_z2ob_2 (qD : Bool) (t0_l : Nat) (qB : Int) (j : Nat) (v : S.z2ob_2_V) : Ex × St := match j with
 | 0 => (Ex.exit 0, ⟨(V.v false [C.own 0 .mat qD 0 t0_l] :: (V.any :: ((cV qB) :: (V.any :: (V.v false [C.d (D.fn 23 [] [])] :: (vs 5 ((cV v.t10_) :: (vs 47 [])))))))), (some (Blk.arr 45 .mat v.h_0) :: (ns 11 [])), 1⟩)
 | _ => (.ret, ⟨[], [], 0⟩)
def T1_z2ob_2 : V → V → V → V → V → Option Blk → Tree
 | V.v false [C.own 0 .mat qD 0 t0_l], V.v false [C.d (.sc (.int .i64 qB))], V.v false [C.d (D.fn 23 [] [])], V.v false [C.d (.sc (.int .i64 t10_))], V.v false [C.d (.sc (.int .i64 t11_))], some (Blk.arr 45 .mat h_0) => exT (fun j => ex_z2ob_2 qD t0_l qB j (S.z2ob_2_v t0_l qB ⟨t10_, t11_, h_0⟩)) (S.z2ob_2_j t0_l qB ⟨t10_, t11_, h_0⟩) [0]
 | _, _, _, _, _, _ => .bad
def T_z2ob_2 (st : St) : Tree := bif okSt 58 9 1 [0] st then T1_z2ob_2 (st.env.getD 0 .any) (st.env.getD 2 .any) (st.env.getD 4 .any) (st.env.getD 10 .any) (st.env.getD 11 .any) (lk st.heap 0) else .bad
def b_z2ob_2 : Code := loopBy Tryz.f70 2
theorem rnd_z2ob_2 (qD : Bool) (t0_l : Nat) (qB : Int) (v : S.z2ob_2_V) : round2 cx_z2ob (hdI cx_z2ob (find []) [] none 3) 70 b_z2ob_2 [] 9 [0, 2, 4, 10] (mk_z2ob_2 qD t0_l qB v) = (S.z2ob_2_R t0_l qB v).go (roundOut (mk_z2ob_2 qD t0_l qB) (ex_z2ob_2 qD t0_l qB)) := by kernel_rfl
theorem bs_z2ob_2 : loopsOf b_z2ob_2 ++ loopsInl [] ++ loopsRf [] = [] := by kernel_rfl
theorem ci_z2ob_2 (qD : Bool) (t0_l : Nat) (qB : Int) : ∀ v j v2, Lp (S.z2ob_2_r t0_l qB) v = some (j, v2) → Circles Tryz.prog cx_z2ob b_z2ob_2 (mk_z2ob_2 qD t0_l qB v) (ex_z2ob_2 qD t0_l qB j v2).1 (ex_z2ob_2 qD t0_l qB j v2).2 :=
 loop_ok3 (L := find []) (n := 3) (hints := [(70, 2, { keep := [0, 2, 4, 10, 11], acc := [] })]) (cx_ok rfl) rdy_z2ob prs_z2ob bs_z2ob_2 nilB (fun v => (rnd_z2ob_2 qD t0_l qB v).trans (DT.go_run _ _)) (by intro j v; unfold ex_z2ob_2; split <;> rfl)
theorem mke_z2ob_2 (qD : Bool) (t0_l : Nat) (qB : Int) (v : S.z2ob_2_V) : mk_z2ob_2 qD t0_l qB v = ⟨envOf 58 [(0, V.v false [C.own 0 .mat qD 0 t0_l]), (2, (cV qB)), (4, V.v false [C.d (D.fn 23 [] [])]), (10, (cV v.t10_)), (11, (cV v.t11_))], heapOf 9 [(0, some (Blk.arr 45 .mat v.h_0))], 1⟩ := by kernel_rfl
theorem lo1_z2ob_2 (e0 e2 e4 e10 e11 : V) (h0 : Option Blk) e st2 (h : (T1_z2ob_2 e0 e2 e4 e10 e11 h0).eval = some (e, st2)) : Circles Tryz.prog cx_z2ob b_z2ob_2 ⟨envOf 58 [(0, e0), (2, e2), (4, e4), (10, e10), (11, e11)], heapOf 9 [(0, h0)], 1⟩ e st2 := by
 unfold T1_z2ob_2 at h
 split at h
 ·have := loop_tree (mk := mk_z2ob_2 _ _ _) (ci_z2ob_2 _ _ _) _ _ e st2 h
  rw [mke_z2ob_2] at this
  exact this
 ·cases h
theorem lok_z2ob_2 : LoopOk Tryz.prog cx_z2ob b_z2ob_2 T_z2ob_2 := by
 intro st e st2 h
 unfold T_z2ob_2 at h
 cases hk : okSt 58 9 1 [0] st with
 | false => rw [hk] at h; cases h
 | true =>
  rw [hk] at h
  exact circles_keep (ks := [0, 2, 4, 10, 11]) hk (lo1_z2ob_2 _ _ _ _ _ _ e st2 h)
structure S.z2ob_T where
 x0 : Lm
 deriving Inhabited
def S.z2ob_R (a0 : Lm) (a1 a2 a3 : Int) : DT S.z2ob_T :=
let y0 : Nat := a0.length
let y1 : S.z2ob_2_V := { t10_ := xwrap .i64 (a2 - a1), t11_ := xwrap .i64 (a3 - a2), h_0 := a0 : S.z2ob_2_V }
let y2 := S.z2ob_2_v y0 a2 y1
let y3 := y2.h_0
let y4 := y2.t10_
let y5 : Int := xwrap .i64 (a2 - y4)
(.br (S.z2ob_2_j y0 a2 y1 0)
(.br (xdec (y0 = y3.length) && S.zh7k_is y3 y5 a2 y4)
(.leaf ⟨(S.zh7k_o y3 y5 a2 y4).x0⟩)
.fail)
.fail)
def S.z2ob (a0 : Lm) (a1 a2 a3 : Int) : Option S.z2ob_T := (S.z2ob_R a0 a1 a2 a3).run
def S.z2ob_is (a0 : Lm) (a1 a2 a3 : Int) : Bool := (S.z2ob a0 a1 a2 a3).isSome
def S.z2ob_o (a0 : Lm) (a1 a2 a3 : Int) : S.z2ob_T := (S.z2ob a0 a1 a2 a3).getD default
def ret_z2ob (b : Bool) (r : S.z2ob_T) : Ret := ⟨b, some (45, (⟨.mat, r.x0⟩ : (t : ET) × List (Ty t))), []⟩
def si_z2ob (a0f : Bool) (a0 : Lm) : List DArg → Bool
 | [(false, [.sc (.int .i64 a1)]), (false, [.sc (.int .i64 a2)]), (false, [.sc (.int .i64 a3)]), (false, [.fn 23 [] []])] => S.z2ob_is a0 a1 a2 a3
 | _ => false
def so_z2ob (a0f : Bool) (a0 : Lm) : List DArg → Lm
 | [(false, [.sc (.int .i64 a1)]), (false, [.sc (.int .i64 a2)]), (false, [.sc (.int .i64 a3)]), (false, [.fn 23 [] []])] => (S.z2ob_o a0 a1 a2 a3).x0
 | _ => a0
def p_z2ob : Proc := rowProc 45 .mat si_z2ob so_z2ob
theorem raw_z2ob (a0f : Bool) (a0 : Lm) (a1 a2 a3 : Int) : evP cx_z2ob (hdI cx_z2ob (find [(2, T_z2ob_2)]) [] none 3) none Tryz.f70 70 (some 45) [(false, [.sl none a0f .mat a0]), (false, [dI a1]), (false, [dI a2]), (false, [dI a3]), (false, [.fn 23 [] []])] some = (S.z2ob_R a0 a1 a2 a3).go (ret_z2ob true) := by kernel_rfl
theorem bs_z2ob : loopsIn Tryz.f70 [] = [b_z2ob_2] := by kernel_rfl
theorem z2ob_ok : StandsP Tryz.prog tyTab 70 p_z2ob := by
 refine standsP (L := find [(2, T_z2ob_2)]) (n := 3) (hints := [(70, 2, { keep := [0, 2, 4, 10, 11], acc := [] })]) (cx_ok rfl) rdy_z2ob prs_z2ob ⟨by kernel_rfl, by kernel_rfl, by kernel_rfl⟩ bs_z2ob (consB (fun T h => by have e : T_z2ob_2 = T := Option.some.inj (show some T_z2ob_2 = some T from h); exact e ▸ lok_z2ob_2) nilB) (by kernel_rfl) rfl (fun a0f a0 ds h => ?_)
 unfold si_z2ob at h
 split at h
 ·rename_i a1 a2 a3
  exact ⟨true, win default ((raw_z2ob a0f a0 a1 a2 a3).trans (DT.go_run _ _)) h⟩
 ·cases h
/-X-/
set_option linter.unusedSectionVars false
def siOf (is : Lm → Int → Int → Int → Bool) (a0f : Bool) (a0 : Lm) : List DArg → Bool
 | [(false, [.sc (.int .i64 a1)]), (false, [.sc (.int .i64 a2)]), (false, [.sc (.int .i64 a3)]), (false, [.fn 23 [] []])] => is a0 a1 a2 a3
 | _ => false
def soOf (o : Lm → Int → Int → Int → Lm) (a0f : Bool) (a0 : Lm) : List DArg → Lm
 | [(false, [.sc (.int .i64 a1)]), (false, [.sc (.int .i64 a2)]), (false, [.sc (.int .i64 a3)]), (false, [.fn 23 [] []])] => o a0 a1 a2 a3
 | _ => a0
class SymRec where
 is : Lm → Int → Int → Int → Bool
 o : Lm → Int → Int → Int → Lm
 ok : StandsP Tryz.prog tyTab 61 (rowProc 45 .mat (siOf is) (soOf o))
section SymSec
variable [SymRec]
def S.symRec_is (a0 : Lm) (a1 a2 a3 : Int) : Bool := SymRec.is a0 a1 a2 a3
def S.symRec_o (a0 : Lm) (a1 a2 a3 : Int) : Lm := SymRec.o a0 a1 a2 a3
def p_symRec : Proc := rowProc 45 .mat (siOf S.symRec_is) (soOf S.symRec_o)
theorem symRec_ok : StandsP Tryz.prog tyTab 61 p_symRec := SymRec.ok
/-Y-/

abbrev cx_zxyf : Cx := mkCx3 tyTab [(23, g_zxni)] [] [(61, 33, { keep := [0, 1, 2, 3, 4, 18, 19, 20, 21, 22], acc := [] }), (61, 21, { keep := [0, 14, 17], acc := [] }), (61, 15, { keep := [0, 2, 4, 14, 15], acc := [] }), (61, 9, { keep := [0, 10, 13], acc := [] }), (61, 3, { keep := [0, 1, 4, 10, 11], acc := [] })] [] [] [(61, (Tryz.f61, p_symRec)), (70, (Tryz.f70, p_z2ob))]
theorem rdy_zxyf : Ready Tryz.prog tyTab [(23, g_zxni)] [] [] := ⟨consG2 zxni_ok (noneG2), noneI2, noneF2⟩
theorem prs_zxyf : PrsOk Tryz.prog tyTab [(61, (Tryz.f61, p_symRec)), (70, (Tryz.f70, p_z2ob))] := consP ⟨by kernel_rfl, by kernel_rfl, by kernel_rfl⟩ symRec_ok (consP ⟨by kernel_rfl, by kernel_rfl, by kernel_rfl⟩ z2ob_ok (noneP))
def b_zxyf_c32 : Code := tailOf 32 (bodyOf Tryz.f61)
structure S.zxyf_3_V where
 t10_ : Int
 t11_ : Int
def S.zxyf_3_R (t0_l : Nat) (qA : Int) (h_0 : Lm) (v : S.zxyf_3_V) : DT (Option Nat × S.zxyf_3_V) :=
let y0 : Int := IntKind.i64.wrap ((IntKind.u64.wrap (xwrap .i64 (v.t10_ + v.t11_))).fdiv 2)
let y1 : Int := (↑t0_l : Int)
let y2 : Nat := 0 + y0.toNat
let y3 : Nat := h_0.length
let y4 : Nat := 0 + qA.toNat
let y5 : Int := (h_0.getD y2 (dflt .mat)).fin
let y6 : Int := (h_0.getD y4 (dflt .mat)).fin
(.br (xdec (v.t10_ < v.t11_))
(.br (xdec (0 ≤ y0) && xdec (y0 < y1))
(.br (xdec (y2 < y3))
(.br (xdec (0 ≤ qA) && xdec (qA < y1))
(.br (xdec (y4 < y3))
(.br (S.zxni_is y5 y6)
(.br (xdec ((S.zxni_o y5 y6).x0 < 0))
(.leaf (none, ⟨xwrap .i64 (y0 + 1), v.t11_⟩))
(.leaf (none, ⟨v.t10_, y0⟩)))
.fail)
.fail)
.fail)
.fail)
.fail)
(.leaf (some 0, v)))
def S.zxyf_3_r (t0_l : Nat) (qA : Int) (h_0 : Lm) (v : S.zxyf_3_V) : Option (Option Nat × S.zxyf_3_V) := (S.zxyf_3_R t0_l qA h_0 v).run
def S.zxyf_3_j (t0_l : Nat) (qA : Int) (h_0 : Lm) (v : S.zxyf_3_V) (j : Nat) : Bool := Lp_j (S.zxyf_3_r t0_l qA h_0) v j
def S.zxyf_3_v (t0_l : Nat) (qA : Int) (h_0 : Lm) (v : S.zxyf_3_V) : S.zxyf_3_V := Lp_v (S.zxyf_3_r t0_l qA h_0) v
def mk_zxyf_3 (qD : Bool) (t0_l : Nat) (qA : Int) (h_0 : Lm) (v : S.zxyf_3_V) : St := ⟨(V.v false [C.own 0 .mat qD 0 t0_l] :: ((cV qA) :: (V.any :: (V.any :: (V.v false [C.d (D.fn 23 [] [])] :: (vs 5 ((cV v.t10_) :: ((cV v.t11_) :: (vs 208 []))))))))), (some (Blk.arr 45 .mat h_0) :: (ns 8 [])), 1⟩
def ex_zxyf_3 (qD : Bool) (t0_l : Nat) (qA : Int) (h_0 : Lm) (j : Nat) (v : S.zxyf_3_V) : Ex × St := match j with
 | 0 => (Ex.exit 0, ⟨(V.v false [C.own 0 .mat qD 0 t0_l] :: ((cV qA) :: (vs 8 ((cV v.t10_) :: (vs 209 []))))), (some (Blk.arr 45 .mat h_0) :: (ns 11 [])), 1⟩)
 | _ => (.ret, ⟨[], [], 0⟩)
def T1_zxyf_3 (e0 e1 e4 e10 e11 : V) (h0 : Option Blk) : Tree := Uz10 e0 (fun qD t0_l => Uz3 e1 (fun qA => Uz11 e4 (Uz3 e10 (fun t10_ => Uz3 e11 (fun t11_ => Uz7 h0 (fun h_0 => exT (fun j => ex_zxyf_3 qD t0_l qA h_0 j (S.zxyf_3_v t0_l qA h_0 ⟨t10_, t11_⟩)) (S.zxyf_3_j t0_l qA h_0 ⟨t10_, t11_⟩) [0]))))))
def T_zxyf_3 (st : St) : Tree := bif okSt 220 9 1 [0] st then T1_zxyf_3 (st.env.getD 0 .any) (st.env.getD 1 .any) (st.env.getD 4 .any) (st.env.getD 10 .any) (st.env.getD 11 .any) (lk st.heap 0) else .bad
def b_zxyf_3 : Code := loopBy Tryz.f61 3
theorem rnd_zxyf_3 (qD : Bool) (t0_l : Nat) (qA : Int) (h_0 : Lm) (v : S.zxyf_3_V) : round2 cx_zxyf (hdI cx_zxyf (find []) [] none 3) 61 b_zxyf_3 [] 9 [0, 1, 10] (mk_zxyf_3 qD t0_l qA h_0 v) = (S.zxyf_3_R t0_l qA h_0 v).go (roundOut (mk_zxyf_3 qD t0_l qA h_0) (ex_zxyf_3 qD t0_l qA h_0)) := by kernel_rfl
theorem bs_zxyf_3 : loopsOf b_zxyf_3 ++ loopsInl [] ++ loopsRf [] = [] := by kernel_rfl
theorem ci_zxyf_3 (qD : Bool) (t0_l : Nat) (qA : Int) (h_0 : Lm) : ∀ v j v2, Lp (S.zxyf_3_r t0_l qA h_0) v = some (j, v2) → Circles Tryz.prog cx_zxyf b_zxyf_3 (mk_zxyf_3 qD t0_l qA h_0 v) (ex_zxyf_3 qD t0_l qA h_0 j v2).1 (ex_zxyf_3 qD t0_l qA h_0 j v2).2 :=
 loop_ok3 (L := find []) (n := 3) (hints := [(61, 33, { keep := [0, 1, 2, 3, 4, 18, 19, 20, 21, 22], acc := [] }), (61, 21, { keep := [0, 14, 17], acc := [] }), (61, 15, { keep := [0, 2, 4, 14, 15], acc := [] }), (61, 9, { keep := [0, 10, 13], acc := [] }), (61, 3, { keep := [0, 1, 4, 10, 11], acc := [] })]) (cx_ok rfl) rdy_zxyf prs_zxyf bs_zxyf_3 nilB (fun v => (rnd_zxyf_3 qD t0_l qA h_0 v).trans (DT.go_run _ _)) (by intro j v; unfold ex_zxyf_3; split <;> rfl)
theorem mke_zxyf_3 (qD : Bool) (t0_l : Nat) (qA : Int) (h_0 : Lm) (v : S.zxyf_3_V) : mk_zxyf_3 qD t0_l qA h_0 v = ⟨envOf 220 [(0, V.v false [C.own 0 .mat qD 0 t0_l]), (1, (cV qA)), (4, V.v false [C.d (D.fn 23 [] [])]), (10, (cV v.t10_)), (11, (cV v.t11_))], heapOf 9 [(0, some (Blk.arr 45 .mat h_0))], 1⟩ := by kernel_rfl
theorem lo1_zxyf_3 (e0 e1 e4 e10 e11 : V) (h0 : Option Blk) e st2 (h : (T1_zxyf_3 e0 e1 e4 e10 e11 h0).eval = some (e, st2)) : Circles Tryz.prog cx_zxyf b_zxyf_3 ⟨envOf 220 [(0, e0), (1, e1), (4, e4), (10, e10), (11, e11)], heapOf 9 [(0, h0)], 1⟩ e st2 := by
 unfold T1_zxyf_3 at h
 obtain ⟨qD, t0_l, rfl, h⟩ := Uz10i h
 obtain ⟨qA, rfl, h⟩ := Uz3i h
 obtain ⟨rfl, h⟩ := Uz11i h
 obtain ⟨t10_, rfl, h⟩ := Uz3i h
 obtain ⟨t11_, rfl, h⟩ := Uz3i h
 obtain ⟨h_0, rfl, h⟩ := Uz7i h
 have := loop_tree (mk := mk_zxyf_3 qD t0_l qA h_0) (ci_zxyf_3 qD t0_l qA h_0) _ _ e st2 h
 rw [mke_zxyf_3] at this
 exact this
theorem lok_zxyf_3 : LoopOk Tryz.prog cx_zxyf b_zxyf_3 T_zxyf_3 := by
 intro st e st2 h
 unfold T_zxyf_3 at h
 cases hk : okSt 220 9 1 [0] st with
 | false => rw [hk] at h; cases h
 | true =>
  rw [hk] at h
  exact circles_keep (ks := [0, 1, 4, 10, 11]) hk (lo1_zxyf_3 _ _ _ _ _ _ e st2 h)
structure S.zxyf_9_V where
 t13_ : Int
 h_0 : Lm
def S.zxyf_9_R (t0_l : Nat) (t10_ : Int) (v : S.zxyf_9_V) : DT (Option Nat × S.zxyf_9_V) :=
let y0 : Int := xwrap .i64 (v.t13_ + 1)
let y1 : Int := (↑t0_l : Int)
let y2 : Bool := xdec (0 ≤ y0) && xdec (y0 < y1)
let y3 : Nat := 0 + y0.toNat
let y4 : Nat := v.h_0.length
let y5 : Bool := xdec (0 ≤ v.t13_) && xdec (v.t13_ < y1)
let y6 : Nat := 0 + v.t13_.toNat
let y7 : Bool := xdec (y6 < y4)
let y8 : Ty .mat := v.h_0.getD y3 (dflt .mat)
let y9 : Lm := v.h_0.set y6 { start := y8.start, fin := y8.fin, agg := y8.agg, bad := y8.bad : Mat }
let y10 : Ty .mat := v.h_0.getD y6 (dflt .mat)
(.br (xdec (v.t13_ < xwrap .i64 (t10_ - 1)))
(.br (y2)
(.br (xdec (y3 < y4))
(.br (y5)
(.br (y7)
(.br (y5)
(.br (y7)
(.br (y2)
(.br (xdec (y3 < y9.length))
(.leaf (none, ⟨y0, y9.set y3 { start := y10.start, fin := y10.fin, agg := y10.agg, bad := y10.bad : Mat }⟩))
.fail)
.fail)
.fail)
.fail)
.fail)
.fail)
.fail)
.fail)
(.leaf (some 0, v)))
def S.zxyf_9_r (t0_l : Nat) (t10_ : Int) (v : S.zxyf_9_V) : Option (Option Nat × S.zxyf_9_V) := (S.zxyf_9_R t0_l t10_ v).run
def S.zxyf_9_j (t0_l : Nat) (t10_ : Int) (v : S.zxyf_9_V) (j : Nat) : Bool := Lp_j (S.zxyf_9_r t0_l t10_) v j
def S.zxyf_9_v (t0_l : Nat) (t10_ : Int) (v : S.zxyf_9_V) : S.zxyf_9_V := Lp_v (S.zxyf_9_r t0_l t10_) v
def mk_zxyf_9 (qD : Bool) (t0_l : Nat) (t10_ : Int) (v : S.zxyf_9_V) : St := ⟨(V.v false [C.own 0 .mat qD 0 t0_l] :: (vs 9 ((cV t10_) :: (V.any :: (V.any :: ((cV v.t13_) :: (vs 206 []))))))), (some (Blk.arr 45 .mat v.h_0) :: (ns 13 [])), 1⟩
def ex_zxyf_9 (qD : Bool) (t0_l : Nat) (t10_ : Int) (j : Nat) (v : S.zxyf_9_V) : Ex × St := match j with
 | 0 => (Ex.exit 2, ⟨(vs 220 []), (some (Blk.arr 45 .mat v.h_0) :: (ns 17 [])), 1⟩)
 | _ => (.ret, ⟨[], [], 0⟩)
def T1_zxyf_9 (e0 e10 e13 : V) (h0 : Option Blk) : Tree := Uz10 e0 (fun qD t0_l => Uz3 e10 (fun t10_ => Uz3 e13 (fun t13_ => Uz7 h0 (fun h_0 => exT (fun j => ex_zxyf_9 qD t0_l t10_ j (S.zxyf_9_v t0_l t10_ ⟨t13_, h_0⟩)) (S.zxyf_9_j t0_l t10_ ⟨t13_, h_0⟩) [0]))))
def T_zxyf_9 (st : St) : Tree := bif okSt 220 14 1 [0] st then T1_zxyf_9 (st.env.getD 0 .any) (st.env.getD 10 .any) (st.env.getD 13 .any) (lk st.heap 0) else .bad
def b_zxyf_9 : Code := loopBy Tryz.f61 9
theorem rnd_zxyf_9 (qD : Bool) (t0_l : Nat) (t10_ : Int) (v : S.zxyf_9_V) : round2 cx_zxyf (hdI cx_zxyf (find [(3, T_zxyf_3)]) [] none 3) 61 b_zxyf_9 [] 14 [] (mk_zxyf_9 qD t0_l t10_ v) = (S.zxyf_9_R t0_l t10_ v).go (roundOut (mk_zxyf_9 qD t0_l t10_) (ex_zxyf_9 qD t0_l t10_)) := by kernel_rfl
theorem bs_zxyf_9 : loopsOf b_zxyf_9 ++ loopsInl [] ++ loopsRf [] = [] := by kernel_rfl
theorem ci_zxyf_9 (qD : Bool) (t0_l : Nat) (t10_ : Int) : ∀ v j v2, Lp (S.zxyf_9_r t0_l t10_) v = some (j, v2) → Circles Tryz.prog cx_zxyf b_zxyf_9 (mk_zxyf_9 qD t0_l t10_ v) (ex_zxyf_9 qD t0_l t10_ j v2).1 (ex_zxyf_9 qD t0_l t10_ j v2).2 :=
 loop_ok3 (L := find [(3, T_zxyf_3)]) (n := 3) (hints := [(61, 33, { keep := [0, 1, 2, 3, 4, 18, 19, 20, 21, 22], acc := [] }), (61, 21, { keep := [0, 14, 17], acc := [] }), (61, 15, { keep := [0, 2, 4, 14, 15], acc := [] }), (61, 9, { keep := [0, 10, 13], acc := [] }), (61, 3, { keep := [0, 1, 4, 10, 11], acc := [] })]) (cx_ok rfl) rdy_zxyf prs_zxyf bs_zxyf_9 nilB (fun v => (rnd_zxyf_9 qD t0_l t10_ v).trans (DT.go_run _ _)) (by intro j v; unfold ex_zxyf_9; split <;> rfl)
theorem mke_zxyf_9 (qD : Bool) (t0_l : Nat) (t10_ : Int) (v : S.zxyf_9_V) : mk_zxyf_9 qD t0_l t10_ v = ⟨envOf 220 [(0, V.v false [C.own 0 .mat qD 0 t0_l]), (10, (cV t10_)), (13, (cV v.t13_))], heapOf 14 [(0, some (Blk.arr 45 .mat v.h_0))], 1⟩ := by kernel_rfl
theorem lo1_zxyf_9 (e0 e10 e13 : V) (h0 : Option Blk) e st2 (h : (T1_zxyf_9 e0 e10 e13 h0).eval = some (e, st2)) : Circles Tryz.prog cx_zxyf b_zxyf_9 ⟨envOf 220 [(0, e0), (10, e10), (13, e13)], heapOf 14 [(0, h0)], 1⟩ e st2 := by
 unfold T1_zxyf_9 at h
 obtain ⟨qD, t0_l, rfl, h⟩ := Uz10i h
 obtain ⟨t10_, rfl, h⟩ := Uz3i h
 obtain ⟨t13_, rfl, h⟩ := Uz3i h
 obtain ⟨h_0, rfl, h⟩ := Uz7i h
 have := loop_tree (mk := mk_zxyf_9 qD t0_l t10_) (ci_zxyf_9 qD t0_l t10_) _ _ e st2 h
 rw [mke_zxyf_9] at this
 exact this
theorem lok_zxyf_9 : LoopOk Tryz.prog cx_zxyf b_zxyf_9 T_zxyf_9 := by
 intro st e st2 h
 unfold T_zxyf_9 at h
 cases hk : okSt 220 14 1 [0] st with
 | false => rw [hk] at h; cases h
 | true =>
  rw [hk] at h
  exact circles_keep (ks := [0, 10, 13]) hk (lo1_zxyf_9 _ _ _ _ e st2 h)
structure S.zxyf_15_V where
 t14_ : Int
 t15_ : Int
def S.zxyf_15_R (t0_l : Nat) (qB : Int) (h_0 : Lm) (v : S.zxyf_15_V) : DT (Option Nat × S.zxyf_15_V) :=
let y0 : Int := (↑t0_l : Int)
let y1 : Nat := 0 + qB.toNat
let y2 : Nat := h_0.length
let y3 : Int := IntKind.i64.wrap ((IntKind.u64.wrap (xwrap .i64 (v.t14_ + v.t15_))).fdiv 2)
let y4 : Nat := 0 + y3.toNat
let y5 : Int := (h_0.getD y1 (dflt .mat)).fin
let y6 : Int := (h_0.getD y4 (dflt .mat)).fin
(.br (xdec (v.t14_ < v.t15_))
(.br (xdec (0 ≤ qB) && xdec (qB < y0))
(.br (xdec (y1 < y2))
(.br (xdec (0 ≤ y3) && xdec (y3 < y0))
(.br (xdec (y4 < y2))
(.br (S.zxni_is y5 y6)
(.br (xnot (xdec ((S.zxni_o y5 y6).x0 < 0)))
(.leaf (none, ⟨xwrap .i64 (y3 + 1), v.t15_⟩))
(.leaf (none, ⟨v.t14_, y3⟩)))
.fail)
.fail)
.fail)
.fail)
.fail)
(.leaf (some 0, v)))
def S.zxyf_15_r (t0_l : Nat) (qB : Int) (h_0 : Lm) (v : S.zxyf_15_V) : Option (Option Nat × S.zxyf_15_V) := (S.zxyf_15_R t0_l qB h_0 v).run
def S.zxyf_15_j (t0_l : Nat) (qB : Int) (h_0 : Lm) (v : S.zxyf_15_V) (j : Nat) : Bool := Lp_j (S.zxyf_15_r t0_l qB h_0) v j
def S.zxyf_15_v (t0_l : Nat) (qB : Int) (h_0 : Lm) (v : S.zxyf_15_V) : S.zxyf_15_V := Lp_v (S.zxyf_15_r t0_l qB h_0) v
def mk_zxyf_15 (qD : Bool) (t0_l : Nat) (qB : Int) (h_0 : Lm) (v : S.zxyf_15_V) : St := ⟨(V.v false [C.own 0 .mat qD 0 t0_l] :: (V.any :: ((cV qB) :: (V.any :: (V.v false [C.d (D.fn 23 [] [])] :: (vs 9 ((cV v.t14_) :: ((cV v.t15_) :: (vs 204 []))))))))), (some (Blk.arr 45 .mat h_0) :: (ns 12 [])), 1⟩
def ex_zxyf_15 (qD : Bool) (t0_l : Nat) (qB : Int) (h_0 : Lm) (j : Nat) (v : S.zxyf_15_V) : Ex × St := match j with
 | 0 => (Ex.exit 4, ⟨(V.v false [C.own 0 .mat qD 0 t0_l] :: (V.any :: ((cV qB) :: (vs 11 ((cV v.t14_) :: (vs 205 [])))))), (some (Blk.arr 45 .mat h_0) :: (ns 15 [])), 1⟩)
 | _ => (.ret, ⟨[], [], 0⟩)
def T1_zxyf_15 (e0 e2 e4 e14 e15 : V) (h0 : Option Blk) : Tree := Uz10 e0 (fun qD t0_l => Uz3 e2 (fun qB => Uz11 e4 (Uz3 e14 (fun t14_ => Uz3 e15 (fun t15_ => Uz7 h0 (fun h_0 => exT (fun j => ex_zxyf_15 qD t0_l qB h_0 j (S.zxyf_15_v t0_l qB h_0 ⟨t14_, t15_⟩)) (S.zxyf_15_j t0_l qB h_0 ⟨t14_, t15_⟩) [0]))))))
def T_zxyf_15 (st : St) : Tree := bif okSt 220 13 1 [0] st then T1_zxyf_15 (st.env.getD 0 .any) (st.env.getD 2 .any) (st.env.getD 4 .any) (st.env.getD 14 .any) (st.env.getD 15 .any) (lk st.heap 0) else .bad
def b_zxyf_15 : Code := loopBy Tryz.f61 15
theorem rnd_zxyf_15 (qD : Bool) (t0_l : Nat) (qB : Int) (h_0 : Lm) (v : S.zxyf_15_V) : round2 cx_zxyf (hdI cx_zxyf (find [(3, T_zxyf_3), (9, T_zxyf_9)]) [] none 3) 61 b_zxyf_15 [] 13 [0, 2, 14] (mk_zxyf_15 qD t0_l qB h_0 v) = (S.zxyf_15_R t0_l qB h_0 v).go (roundOut (mk_zxyf_15 qD t0_l qB h_0) (ex_zxyf_15 qD t0_l qB h_0)) := by kernel_rfl
theorem bs_zxyf_15 : loopsOf b_zxyf_15 ++ loopsInl [] ++ loopsRf [] = [] := by kernel_rfl
theorem ci_zxyf_15 (qD : Bool) (t0_l : Nat) (qB : Int) (h_0 : Lm) : ∀ v j v2, Lp (S.zxyf_15_r t0_l qB h_0) v = some (j, v2) → Circles Tryz.prog cx_zxyf b_zxyf_15 (mk_zxyf_15 qD t0_l qB h_0 v) (ex_zxyf_15 qD t0_l qB h_0 j v2).1 (ex_zxyf_15 qD t0_l qB h_0 j v2).2 :=
 loop_ok3 (L := find [(3, T_zxyf_3), (9, T_zxyf_9)]) (n := 3) (hints := [(61, 33, { keep := [0, 1, 2, 3, 4, 18, 19, 20, 21, 22], acc := [] }), (61, 21, { keep := [0, 14, 17], acc := [] }), (61, 15, { keep := [0, 2, 4, 14, 15], acc := [] }), (61, 9, { keep := [0, 10, 13], acc := [] }), (61, 3, { keep := [0, 1, 4, 10, 11], acc := [] })]) (cx_ok rfl) rdy_zxyf prs_zxyf bs_zxyf_15 nilB (fun v => (rnd_zxyf_15 qD t0_l qB h_0 v).trans (DT.go_run _ _)) (by intro j v; unfold ex_zxyf_15; split <;> rfl)
theorem mke_zxyf_15 (qD : Bool) (t0_l : Nat) (qB : Int) (h_0 : Lm) (v : S.zxyf_15_V) : mk_zxyf_15 qD t0_l qB h_0 v = ⟨envOf 220 [(0, V.v false [C.own 0 .mat qD 0 t0_l]), (2, (cV qB)), (4, V.v false [C.d (D.fn 23 [] [])]), (14, (cV v.t14_)), (15, (cV v.t15_))], heapOf 13 [(0, some (Blk.arr 45 .mat h_0))], 1⟩ := by kernel_rfl
theorem lo1_zxyf_15 (e0 e2 e4 e14 e15 : V) (h0 : Option Blk) e st2 (h : (T1_zxyf_15 e0 e2 e4 e14 e15 h0).eval = some (e, st2)) : Circles Tryz.prog cx_zxyf b_zxyf_15 ⟨envOf 220 [(0, e0), (2, e2), (4, e4), (14, e14), (15, e15)], heapOf 13 [(0, h0)], 1⟩ e st2 := by
 unfold T1_zxyf_15 at h
 obtain ⟨qD, t0_l, rfl, h⟩ := Uz10i h
 obtain ⟨qB, rfl, h⟩ := Uz3i h
 obtain ⟨rfl, h⟩ := Uz11i h
 obtain ⟨t14_, rfl, h⟩ := Uz3i h
 obtain ⟨t15_, rfl, h⟩ := Uz3i h
 obtain ⟨h_0, rfl, h⟩ := Uz7i h
 have := loop_tree (mk := mk_zxyf_15 qD t0_l qB h_0) (ci_zxyf_15 qD t0_l qB h_0) _ _ e st2 h
 rw [mke_zxyf_15] at this
 exact this
theorem lok_zxyf_15 : LoopOk Tryz.prog cx_zxyf b_zxyf_15 T_zxyf_15 := by
 intro st e st2 h
 unfold T_zxyf_15 at h
 cases hk : okSt 220 13 1 [0] st with
 | false => rw [hk] at h; cases h
 | true =>
  rw [hk] at h
  exact circles_keep (ks := [0, 2, 4, 14, 15]) hk (lo1_zxyf_15 _ _ _ _ _ _ e st2 h)
structure S.zxyf_21_V where
 t17_ : Int
 h_0 : Lm
def S.zxyf_21_R (t0_l : Nat) (t14_ : Int) (v : S.zxyf_21_V) : DT (Option Nat × S.zxyf_21_V) :=
let y0 : Int := xwrap .i64 (v.t17_ - 1)
let y1 : Int := (↑t0_l : Int)
let y2 : Bool := xdec (0 ≤ y0) && xdec (y0 < y1)
let y3 : Nat := 0 + y0.toNat
let y4 : Nat := v.h_0.length
let y5 : Bool := xdec (0 ≤ v.t17_) && xdec (v.t17_ < y1)
let y6 : Nat := 0 + v.t17_.toNat
let y7 : Bool := xdec (y6 < y4)
let y8 : Ty .mat := v.h_0.getD y3 (dflt .mat)
let y9 : Lm := v.h_0.set y6 { start := y8.start, fin := y8.fin, agg := y8.agg, bad := y8.bad : Mat }
let y10 : Ty .mat := v.h_0.getD y6 (dflt .mat)
(.br (xdec (v.t17_ > t14_))
(.br (y2)
(.br (xdec (y3 < y4))
(.br (y5)
(.br (y7)
(.br (y5)
(.br (y7)
(.br (y2)
(.br (xdec (y3 < y9.length))
(.leaf (none, ⟨y0, y9.set y3 { start := y10.start, fin := y10.fin, agg := y10.agg, bad := y10.bad : Mat }⟩))
.fail)
.fail)
.fail)
.fail)
.fail)
.fail)
.fail)
.fail)
(.leaf (some 0, v)))
def S.zxyf_21_r (t0_l : Nat) (t14_ : Int) (v : S.zxyf_21_V) : Option (Option Nat × S.zxyf_21_V) := (S.zxyf_21_R t0_l t14_ v).run
def S.zxyf_21_j (t0_l : Nat) (t14_ : Int) (v : S.zxyf_21_V) (j : Nat) : Bool := Lp_j (S.zxyf_21_r t0_l t14_) v j
def S.zxyf_21_v (t0_l : Nat) (t14_ : Int) (v : S.zxyf_21_V) : S.zxyf_21_V := Lp_v (S.zxyf_21_r t0_l t14_) v
def mk_zxyf_21 (qD : Bool) (t0_l : Nat) (t14_ : Int) (v : S.zxyf_21_V) : St := ⟨(V.v false [C.own 0 .mat qD 0 t0_l] :: (vs 13 ((cV t14_) :: (V.any :: (V.any :: ((cV v.t17_) :: (vs 202 []))))))), (some (Blk.arr 45 .mat v.h_0) :: (ns 17 [])), 1⟩
def ex_zxyf_21 (qD : Bool) (t0_l : Nat) (t14_ : Int) (j : Nat) (v : S.zxyf_21_V) : Ex × St := match j with
 | 0 => (Ex.exit 6, ⟨(vs 220 []), (some (Blk.arr 45 .mat v.h_0) :: (ns 20 [])), 1⟩)
 | _ => (.ret, ⟨[], [], 0⟩)
def T1_zxyf_21 (e0 e14 e17 : V) (h0 : Option Blk) : Tree := Uz10 e0 (fun qD t0_l => Uz3 e14 (fun t14_ => Uz3 e17 (fun t17_ => Uz7 h0 (fun h_0 => exT (fun j => ex_zxyf_21 qD t0_l t14_ j (S.zxyf_21_v t0_l t14_ ⟨t17_, h_0⟩)) (S.zxyf_21_j t0_l t14_ ⟨t17_, h_0⟩) [0]))))
def T_zxyf_21 (st : St) : Tree := bif okSt 220 18 1 [0] st then T1_zxyf_21 (st.env.getD 0 .any) (st.env.getD 14 .any) (st.env.getD 17 .any) (lk st.heap 0) else .bad
def b_zxyf_21 : Code := loopBy Tryz.f61 21
theorem rnd_zxyf_21 (qD : Bool) (t0_l : Nat) (t14_ : Int) (v : S.zxyf_21_V) : round2 cx_zxyf (hdI cx_zxyf (find [(3, T_zxyf_3), (9, T_zxyf_9), (15, T_zxyf_15)]) [] none 3) 61 b_zxyf_21 [] 18 [] (mk_zxyf_21 qD t0_l t14_ v) = (S.zxyf_21_R t0_l t14_ v).go (roundOut (mk_zxyf_21 qD t0_l t14_) (ex_zxyf_21 qD t0_l t14_)) := by kernel_rfl
theorem bs_zxyf_21 : loopsOf b_zxyf_21 ++ loopsInl [] ++ loopsRf [] = [] := by kernel_rfl
theorem ci_zxyf_21 (qD : Bool) (t0_l : Nat) (t14_ : Int) : ∀ v j v2, Lp (S.zxyf_21_r t0_l t14_) v = some (j, v2) → Circles Tryz.prog cx_zxyf b_zxyf_21 (mk_zxyf_21 qD t0_l t14_ v) (ex_zxyf_21 qD t0_l t14_ j v2).1 (ex_zxyf_21 qD t0_l t14_ j v2).2 :=
 loop_ok3 (L := find [(3, T_zxyf_3), (9, T_zxyf_9), (15, T_zxyf_15)]) (n := 3) (hints := [(61, 33, { keep := [0, 1, 2, 3, 4, 18, 19, 20, 21, 22], acc := [] }), (61, 21, { keep := [0, 14, 17], acc := [] }), (61, 15, { keep := [0, 2, 4, 14, 15], acc := [] }), (61, 9, { keep := [0, 10, 13], acc := [] }), (61, 3, { keep := [0, 1, 4, 10, 11], acc := [] })]) (cx_ok rfl) rdy_zxyf prs_zxyf bs_zxyf_21 nilB (fun v => (rnd_zxyf_21 qD t0_l t14_ v).trans (DT.go_run _ _)) (by intro j v; unfold ex_zxyf_21; split <;> rfl)
theorem mke_zxyf_21 (qD : Bool) (t0_l : Nat) (t14_ : Int) (v : S.zxyf_21_V) : mk_zxyf_21 qD t0_l t14_ v = ⟨envOf 220 [(0, V.v false [C.own 0 .mat qD 0 t0_l]), (14, (cV t14_)), (17, (cV v.t17_))], heapOf 18 [(0, some (Blk.arr 45 .mat v.h_0))], 1⟩ := by kernel_rfl
theorem lo1_zxyf_21 (e0 e14 e17 : V) (h0 : Option Blk) e st2 (h : (T1_zxyf_21 e0 e14 e17 h0).eval = some (e, st2)) : Circles Tryz.prog cx_zxyf b_zxyf_21 ⟨envOf 220 [(0, e0), (14, e14), (17, e17)], heapOf 18 [(0, h0)], 1⟩ e st2 := by
 unfold T1_zxyf_21 at h
 obtain ⟨qD, t0_l, rfl, h⟩ := Uz10i h
 obtain ⟨t14_, rfl, h⟩ := Uz3i h
 obtain ⟨t17_, rfl, h⟩ := Uz3i h
 obtain ⟨h_0, rfl, h⟩ := Uz7i h
 have := loop_tree (mk := mk_zxyf_21 qD t0_l t14_) (ci_zxyf_21 qD t0_l t14_) _ _ e st2 h
 rw [mke_zxyf_21] at this
 exact this
theorem lok_zxyf_21 : LoopOk Tryz.prog cx_zxyf b_zxyf_21 T_zxyf_21 := by
 intro st e st2 h
 unfold T_zxyf_21 at h
 cases hk : okSt 220 18 1 [0] st with
 | false => rw [hk] at h; cases h
 | true =>
  rw [hk] at h
  exact circles_keep (ks := [0, 14, 17]) hk (lo1_zxyf_21 _ _ _ _ e st2 h)
structure S.zxyf_33_V where
 t20_ : Int
 t21_ : Int
def S.zxyf_33_R (t0_l : Nat) (qE : Int) (h_0 : Lm) (v : S.zxyf_33_V) : DT (Option Nat × S.zxyf_33_V) :=
let y0 : Int := IntKind.i64.wrap ((IntKind.u64.wrap (xwrap .i64 (v.t20_ + v.t21_))).fdiv 2)
let y1 : Int := xwrap .i64 (qE - y0)
let y2 : Int := (↑t0_l : Int)
let y3 : Nat := 0 + y1.toNat
let y4 : Nat := h_0.length
let y5 : Nat := 0 + y0.toNat
let y6 : Int := (h_0.getD y3 (dflt .mat)).fin
let y7 : Int := (h_0.getD y5 (dflt .mat)).fin
(.br (xdec (v.t20_ < v.t21_))
(.br (xdec (0 ≤ y1) && xdec (y1 < y2))
(.br (xdec (y3 < y4))
(.br (xdec (0 ≤ y0) && xdec (y0 < y2))
(.br (xdec (y5 < y4))
(.br (S.zxni_is y6 y7)
(.br (xnot (xdec ((S.zxni_o y6 y7).x0 < 0)))
(.leaf (none, ⟨xwrap .i64 (y0 + 1), v.t21_⟩))
(.leaf (none, ⟨v.t20_, y0⟩)))
.fail)
.fail)
.fail)
.fail)
.fail)
(.leaf (some 0, v)))
def S.zxyf_33_r (t0_l : Nat) (qE : Int) (h_0 : Lm) (v : S.zxyf_33_V) : Option (Option Nat × S.zxyf_33_V) := (S.zxyf_33_R t0_l qE h_0 v).run
def S.zxyf_33_j (t0_l : Nat) (qE : Int) (h_0 : Lm) (v : S.zxyf_33_V) (j : Nat) : Bool := Lp_j (S.zxyf_33_r t0_l qE h_0) v j
def S.zxyf_33_v (t0_l : Nat) (qE : Int) (h_0 : Lm) (v : S.zxyf_33_V) : S.zxyf_33_V := Lp_v (S.zxyf_33_r t0_l qE h_0) v
def mk_zxyf_33 (qD : Bool) (t0_l : Nat) (qA qB qC qF qG qE : Int) (h_0 : Lm) (v : S.zxyf_33_V) : St := ⟨(V.v false [C.own 0 .mat qD 0 t0_l] :: ((cV qA) :: ((cV qB) :: ((cV qC) :: (V.v false [C.d (D.fn 23 [] [])] :: (vs 13 ((cV qF) :: ((cV qG) :: ((cV v.t20_) :: ((cV v.t21_) :: ((cV qE) :: (vs 197 [])))))))))))), (some (Blk.arr 45 .mat h_0) :: (ns 3 [])), 1⟩
def ex_zxyf_33 (qD : Bool) (t0_l : Nat) (qA qB qC qF qG qE : Int) (h_0 : Lm) (j : Nat) (v : S.zxyf_33_V) : Ex × St := match j with
 | 0 => (Ex.exit 8, ⟨(V.v false [C.own 0 .mat qD 0 t0_l] :: ((cV qA) :: ((cV qB) :: ((cV qC) :: (V.v false [C.d (D.fn 23 [] [])] :: (vs 13 ((cV qF) :: ((cV qG) :: ((cV v.t20_) :: (vs 199 [])))))))))), (some (Blk.arr 45 .mat h_0) :: (ns 6 [])), 1⟩)
 | _ => (.ret, ⟨[], [], 0⟩)
def T1_zxyf_33 (e0 e1 e2 e3 e4 e18 e19 e20 e21 e22 : V) (h0 : Option Blk) : Tree := Uz10 e0 (fun qD t0_l => Uz3 e1 (fun qA => Uz3 e2 (fun qB => Uz3 e3 (fun qC => Uz11 e4 (Uz3 e18 (fun qF => Uz3 e19 (fun qG => Uz3 e20 (fun t20_ => Uz3 e21 (fun t21_ => Uz3 e22 (fun qE => Uz7 h0 (fun h_0 => exT (fun j => ex_zxyf_33 qD t0_l qA qB qC qF qG qE h_0 j (S.zxyf_33_v t0_l qE h_0 ⟨t20_, t21_⟩)) (S.zxyf_33_j t0_l qE h_0 ⟨t20_, t21_⟩) [0])))))))))))
def T_zxyf_33 (st : St) : Tree := bif okSt 220 4 1 [0] st then T1_zxyf_33 (st.env.getD 0 .any) (st.env.getD 1 .any) (st.env.getD 2 .any) (st.env.getD 3 .any) (st.env.getD 4 .any) (st.env.getD 18 .any) (st.env.getD 19 .any) (st.env.getD 20 .any) (st.env.getD 21 .any) (st.env.getD 22 .any) (lk st.heap 0) else .bad
def b_zxyf_33 : Code := loopBy Tryz.f61 33
theorem rnd_zxyf_33 (qD : Bool) (t0_l : Nat) (qA qB qC qF qG qE : Int) (h_0 : Lm) (v : S.zxyf_33_V) : round2 cx_zxyf (hdI cx_zxyf (find [(3, T_zxyf_3), (9, T_zxyf_9), (15, T_zxyf_15), (21, T_zxyf_21)]) [] none 3) 61 b_zxyf_33 [] 4 [0, 1, 2, 3, 4, 18, 19, 20] (mk_zxyf_33 qD t0_l qA qB qC qF qG qE h_0 v) = (S.zxyf_33_R t0_l qE h_0 v).go (roundOut (mk_zxyf_33 qD t0_l qA qB qC qF qG qE h_0) (ex_zxyf_33 qD t0_l qA qB qC qF qG qE h_0)) := by kernel_rfl
theorem bs_zxyf_33 : loopsOf b_zxyf_33 ++ loopsInl [] ++ loopsRf [] = [] := by kernel_rfl
theorem ci_zxyf_33 (qD : Bool) (t0_l : Nat) (qA qB qC qF qG qE : Int) (h_0 : Lm) : ∀ v j v2, Lp (S.zxyf_33_r t0_l qE h_0) v = some (j, v2) → Circles Tryz.prog cx_zxyf b_zxyf_33 (mk_zxyf_33 qD t0_l qA qB qC qF qG qE h_0 v) (ex_zxyf_33 qD t0_l qA qB qC qF qG qE h_0 j v2).1 (ex_zxyf_33 qD t0_l qA qB qC qF qG qE h_0 j v2).2 :=
 loop_ok3 (L := find [(3, T_zxyf_3), (9, T_zxyf_9), (15, T_zxyf_15), (21, T_zxyf_21)]) (n := 3) (hints := [(61, 33, { keep := [0, 1, 2, 3, 4, 18, 19, 20, 21, 22], acc := [] }), (61, 21, { keep := [0, 14, 17], acc := [] }), (61, 15, { keep := [0, 2, 4, 14, 15], acc := [] }), (61, 9, { keep := [0, 10, 13], acc := [] }), (61, 3, { keep := [0, 1, 4, 10, 11], acc := [] })]) (cx_ok rfl) rdy_zxyf prs_zxyf bs_zxyf_33 nilB (fun v => (rnd_zxyf_33 qD t0_l qA qB qC qF qG qE h_0 v).trans (DT.go_run _ _)) (by intro j v; unfold ex_zxyf_33; split <;> rfl)
theorem mke_zxyf_33 (qD : Bool) (t0_l : Nat) (qA qB qC qF qG qE : Int) (h_0 : Lm) (v : S.zxyf_33_V) : mk_zxyf_33 qD t0_l qA qB qC qF qG qE h_0 v = ⟨envOf 220 [(0, V.v false [C.own 0 .mat qD 0 t0_l]), (1, (cV qA)), (2, (cV qB)), (3, (cV qC)), (4, V.v false [C.d (D.fn 23 [] [])]), (18, (cV qF)), (19, (cV qG)), (20, (cV v.t20_)), (21, (cV v.t21_)), (22, (cV qE))], heapOf 4 [(0, some (Blk.arr 45 .mat h_0))], 1⟩ := by kernel_rfl
theorem lo1_zxyf_33 (e0 e1 e2 e3 e4 e18 e19 e20 e21 e22 : V) (h0 : Option Blk) e st2 (h : (T1_zxyf_33 e0 e1 e2 e3 e4 e18 e19 e20 e21 e22 h0).eval = some (e, st2)) : Circles Tryz.prog cx_zxyf b_zxyf_33 ⟨envOf 220 [(0, e0), (1, e1), (2, e2), (3, e3), (4, e4), (18, e18), (19, e19), (20, e20), (21, e21), (22, e22)], heapOf 4 [(0, h0)], 1⟩ e st2 := by
 unfold T1_zxyf_33 at h
 obtain ⟨qD, t0_l, rfl, h⟩ := Uz10i h
 obtain ⟨qA, rfl, h⟩ := Uz3i h
 obtain ⟨qB, rfl, h⟩ := Uz3i h
 obtain ⟨qC, rfl, h⟩ := Uz3i h
 obtain ⟨rfl, h⟩ := Uz11i h
 obtain ⟨qF, rfl, h⟩ := Uz3i h
 obtain ⟨qG, rfl, h⟩ := Uz3i h
 obtain ⟨t20_, rfl, h⟩ := Uz3i h
 obtain ⟨t21_, rfl, h⟩ := Uz3i h
 obtain ⟨qE, rfl, h⟩ := Uz3i h
 obtain ⟨h_0, rfl, h⟩ := Uz7i h
 have := loop_tree (mk := mk_zxyf_33 qD t0_l qA qB qC qF qG qE h_0) (ci_zxyf_33 qD t0_l qA qB qC qF qG qE h_0) _ _ e st2 h
 rw [mke_zxyf_33] at this
 exact this
theorem lok_zxyf_33 : LoopOk Tryz.prog cx_zxyf b_zxyf_33 T_zxyf_33 := by
 intro st e st2 h
 unfold T_zxyf_33 at h
 cases hk : okSt 220 4 1 [0] st with
 | false => rw [hk] at h; cases h
 | true =>
  rw [hk] at h
  exact circles_keep (ks := [0, 1, 2, 3, 4, 18, 19, 20, 21, 22]) hk (lo1_zxyf_33 _ _ _ _ _ _ _ _ _ _ _ e st2 h)
structure S.zxyf_c32_T where
 x0 : Lm
 deriving Inhabited
def S.zxyf_c32_R (t0_l : Nat) (qA qB qC qF qG t20_ t21_ : Int) (h_0 : Lm) : DT S.zxyf_c32_T :=
let y0 : Int := xwrap .i64 (qG - 1)
let y1 : Int := (S.zxyf_33_v t0_l y0 h_0 { t20_ := t20_, t21_ := t21_ : S.zxyf_33_V }).t20_
let y2 : Int := xwrap .i64 (qG - y1)
let y3 : Bool := xdec (t0_l = h_0.length)
let y4 : Bool := xdec (qA < y1)
let y5 : Bool := xdec (y1 < qF)
let y6 : Lm := (S.z2ob_o h_0 y1 qB y2).x0
let y7 : Bool := xdec (t0_l = y6.length)
let y8 : Bool := xdec (qF < y2)
let y9 : Bool := xdec (y2 < qC)
let y10 := S.symRec_o y6 qA y1 qF
let y11 : Bool := y7 && S.symRec_is y6 qF y2 qC
let y12 := S.symRec_o y6 qF y2 qC
let y13 : Bool := y3 && S.symRec_is h_0 qA y1 qF
let y14 := S.symRec_o h_0 qA y1 qF
let y15 : Bool := xdec (t0_l = y14.length) && S.symRec_is y14 qF y2 qC
let y16 := S.symRec_o y14 qF y2 qC
let y17 : Bool := y3 && S.symRec_is h_0 qF y2 qC
let y18 := S.symRec_o h_0 qF y2 qC
(.br (S.zxyf_33_j t0_l y0 h_0 { t20_ := t20_, t21_ := t21_ : S.zxyf_33_V } 0)
(.br (xdec (y1 < qB))
(.br (xdec (qB < y2))
(.br (y3 && S.z2ob_is h_0 y1 qB y2)
(.br (y4)
(.br (y5)
(.br (y7 && S.symRec_is y6 qA y1 qF)
(.br (y8)
(.br (y9)
(.br (xdec (t0_l = y10.length) && S.symRec_is y10 qF y2 qC)
(.leaf ⟨S.symRec_o y10 qF y2 qC⟩)
.fail)
(.leaf ⟨y10⟩))
(.leaf ⟨y10⟩))
.fail)
(.br (y8)
(.br (y9)
(.br (y11)
(.leaf ⟨y12⟩)
.fail)
(.leaf ⟨y6⟩))
(.leaf ⟨y6⟩)))
(.br (y8)
(.br (y9)
(.br (y11)
(.leaf ⟨y12⟩)
.fail)
(.leaf ⟨y6⟩))
(.leaf ⟨y6⟩)))
.fail)
(.br (y4)
(.br (y5)
(.br (y13)
(.br (y8)
(.br (y9)
(.br (y15)
(.leaf ⟨y16⟩)
.fail)
(.leaf ⟨y14⟩))
(.leaf ⟨y14⟩))
.fail)
(.br (y8)
(.br (y9)
(.br (y17)
(.leaf ⟨y18⟩)
.fail)
(.leaf ⟨h_0⟩))
(.leaf ⟨h_0⟩)))
(.br (y8)
(.br (y9)
(.br (y17)
(.leaf ⟨y18⟩)
.fail)
(.leaf ⟨h_0⟩))
(.leaf ⟨h_0⟩))))
(.br (y4)
(.br (y5)
(.br (y13)
(.br (y8)
(.br (y9)
(.br (y15)
(.leaf ⟨y16⟩)
.fail)
(.leaf ⟨y14⟩))
(.leaf ⟨y14⟩))
.fail)
(.br (y8)
(.br (y9)
(.br (y17)
(.leaf ⟨y18⟩)
.fail)
(.leaf ⟨h_0⟩))
(.leaf ⟨h_0⟩)))
(.br (y8)
(.br (y9)
(.br (y17)
(.leaf ⟨y18⟩)
.fail)
(.leaf ⟨h_0⟩))
(.leaf ⟨h_0⟩))))
.fail)
def S.zxyf_c32 (t0_l : Nat) (qA qB qC qF qG t20_ t21_ : Int) (h_0 : Lm) : Option S.zxyf_c32_T := (S.zxyf_c32_R t0_l qA qB qC qF qG t20_ t21_ h_0).run
def S.zxyf_c32_is (t0_l : Nat) (qA qB qC qF qG t20_ t21_ : Int) (h_0 : Lm) : Bool := (S.zxyf_c32 t0_l qA qB qC qF qG t20_ t21_ h_0).isSome
def S.zxyf_c32_o (t0_l : Nat) (qA qB qC qF qG t20_ t21_ : Int) (h_0 : Lm) : S.zxyf_c32_T := (S.zxyf_c32 t0_l qA qB qC qF qG t20_ t21_ h_0).getD default
def mk_zxyf_c32 (qD : Bool) (t0_l : Nat) (qA qB qC qF qG t20_ t21_ : Int) (h_0 : Lm) : St := ⟨(V.v false [C.own 0 .mat qD 0 t0_l] :: ((cV qA) :: ((cV qB) :: ((cV qC) :: (V.v false [C.d (D.fn 23 [] [])] :: (vs 13 ((cV qF) :: ((cV qG) :: ((cV t20_) :: ((cV t21_) :: (vs 198 []))))))))))), [some (Blk.arr 45 .mat h_0)], 1⟩
def out_zxyf_c32 (r : S.zxyf_c32_T) : St := ⟨[V.any, V.any, V.any, V.any, V.any, V.any, V.any, V.any, V.any, V.any, V.any, V.any, V.any, V.any, V.any, V.any, V.any, V.any, V.any, V.any, V.any, V.any, V.any, V.any, V.any,
 V.any, V.any, V.any, V.any, V.any, V.any, V.any, V.any, V.any, V.any, V.any, V.any, V.any, V.any, V.any, V.any, V.any, V.any, V.any, V.any, V.any, V.any, V.any, V.any, V.any,
 V.any, V.any, V.any, V.any, V.any, V.any, V.any, V.any, V.any, V.any, V.any, V.any, V.any, V.any, V.any, V.any, V.any, V.any, V.any, V.any, V.any, V.any, V.any, V.any, V.any,
 V.any, V.any, V.any, V.any, V.any, V.any, V.any, V.any, V.any, V.any, V.any, V.any, V.any, V.any, V.any, V.any, V.any, V.any, V.any, V.any, V.any, V.any, V.any, V.any, V.any,
 V.any, V.any, V.any, V.any, V.any, V.any, V.any, V.any, V.any, V.any, V.any, V.any, V.any, V.any, V.any, V.any, V.any, V.any, V.any, V.any, V.any, V.any, V.any, V.any, V.any,
 V.any, V.any, V.any, V.any, V.any, V.any, V.any, V.any, V.any, V.any, V.any, V.any, V.any, V.any, V.any, V.any, V.any, V.any, V.any, V.any, V.any, V.any, V.any, V.any, V.any,
 V.any, V.any, V.any, V.any, V.any, V.any, V.any, V.any, V.any, V.any, V.any, V.any, V.any, V.any, V.any, V.any, V.any, V.any, V.any, V.any, V.any, V.any, V.any, V.any, V.any,
 V.any, V.any, V.any, V.any, V.any, V.any, V.any, V.any, V.any, V.any, V.any, V.any, V.any, V.any, V.any, V.any, V.any, V.any, V.any, V.any, V.any, V.any, V.any, V.any, V.any,
 V.any, V.any, V.any, V.any, V.any, V.any, V.any, V.any, V.any, V.any, V.any, V.any, V.any, V.any, V.any, V.any, V.any, V.any, V.any, V.any], [some (Blk.arr 45 .mat r.x0)], 1⟩
def T1_zxyf_c32 (e0 e1 e2 e3 e4 e18 e19 e20 e21 : V) (h0 : Option Blk) : Tree := Uz10 e0 (fun qD t0_l => Uz3 e1 (fun qA => Uz3 e2 (fun qB => Uz3 e3 (fun qC => Uz11 e4 (Uz3 e18 (fun qF => Uz3 e19 (fun qG => Uz3 e20 (fun t20_ => Uz3 e21 (fun t21_ => Uz7 h0 (fun h_0 => .br (S.zxyf_c32_is t0_l qA qB qC qF qG t20_ t21_ h_0) (.leaf Ex.normal (out_zxyf_c32 (S.zxyf_c32_o t0_l qA qB qC qF qG t20_ t21_ h_0))) .bad))))))))))
def T_zxyf_c32 (st : St) : Tree := bif okSt 220 1 1 [0] st then T1_zxyf_c32 (st.env.getD 0 .any) (st.env.getD 1 .any) (st.env.getD 2 .any) (st.env.getD 3 .any) (st.env.getD 4 .any) (st.env.getD 18 .any) (st.env.getD 19 .any) (st.env.getD 20 .any) (st.env.getD 21 .any) (lk st.heap 0) else .bad
theorem rnd_zxyf_c32 (qD : Bool) (t0_l : Nat) (qA qB qC qF qG t20_ t21_ : Int) (h_0 : Lm) : tail2 cx_zxyf (hdI cx_zxyf (find [(3, T_zxyf_3), (9, T_zxyf_9), (15, T_zxyf_15), (21, T_zxyf_21), (33, T_zxyf_33)]) [] none 3) (find [(3, T_zxyf_3), (9, T_zxyf_9), (15, T_zxyf_15), (21, T_zxyf_21), (33, T_zxyf_33)]) 61 ⟨999999, [], 0⟩ b_zxyf_c32 [] (mk_zxyf_c32 qD t0_l qA qB qC qF qG t20_ t21_ h_0) = (S.zxyf_c32_R t0_l qA qB qC qF qG t20_ t21_ h_0).go (fun r => (Ex.normal, out_zxyf_c32 r)) := by kernel_rfl
theorem bs_zxyf_c32 : loopsOf b_zxyf_c32 ++ loopsInl [] = [b_zxyf_33] := by kernel_rfl
theorem ci_zxyf_c32 (qD : Bool) (t0_l : Nat) (qA qB qC qF qG t20_ t21_ : Int) (h_0 : Lm) : ∀ x, S.zxyf_c32 t0_l qA qB qC qF qG t20_ t21_ h_0 = some x → Lands Tryz.prog cx_zxyf false b_zxyf_c32 (mk_zxyf_c32 qD t0_l qA qB qC qF qG t20_ t21_ h_0) Ex.normal (out_zxyf_c32 x) :=
 cut_ok (q := ⟨999999, [], 0⟩) (L := find [(3, T_zxyf_3), (9, T_zxyf_9), (15, T_zxyf_15), (21, T_zxyf_21), (33, T_zxyf_33)]) (n := 3) (hints := [(61, 33, { keep := [0, 1, 2, 3, 4, 18, 19, 20, 21, 22], acc := [] }), (61, 21, { keep := [0, 14, 17], acc := [] }), (61, 15, { keep := [0, 2, 4, 14, 15], acc := [] }), (61, 9, { keep := [0, 10, 13], acc := [] }), (61, 3, { keep := [0, 1, 4, 10, 11], acc := [] })]) (cx_ok rfl) rdy_zxyf prs_zxyf bs_zxyf_c32 (consB (fun T h => by have e : T_zxyf_33 = T := Option.some.inj (show some T_zxyf_33 = some T from h); exact e ▸ lok_zxyf_33) nilB) (fun T h => by have e : (none : Option (St → Tree)) = some T := h; cases e) (rnd_zxyf_c32 qD t0_l qA qB qC qF qG t20_ t21_ h_0)
theorem mke_zxyf_c32 (qD : Bool) (t0_l : Nat) (qA qB qC qF qG t20_ t21_ : Int) (h_0 : Lm) : mk_zxyf_c32 qD t0_l qA qB qC qF qG t20_ t21_ h_0 = ⟨envOf 220 [(0, V.v false [C.own 0 .mat qD 0 t0_l]), (1, (cV qA)), (2, (cV qB)), (3, (cV qC)), (4, V.v false [C.d (D.fn 23 [] [])]), (18, (cV qF)), (19, (cV qG)), (20, (cV t20_)), (21, (cV t21_))], heapOf 1 [(0, some (Blk.arr 45 .mat h_0))], 1⟩ := by kernel_rfl
theorem lo1_zxyf_c32 (e0 e1 e2 e3 e4 e18 e19 e20 e21 : V) (h0 : Option Blk) e st2 (h : (T1_zxyf_c32 e0 e1 e2 e3 e4 e18 e19 e20 e21 h0).eval = some (e, st2)) : Lands Tryz.prog cx_zxyf false b_zxyf_c32 ⟨envOf 220 [(0, e0), (1, e1), (2, e2), (3, e3), (4, e4), (18, e18), (19, e19), (20, e20), (21, e21)], heapOf 1 [(0, h0)], 1⟩ e st2 := by
 unfold T1_zxyf_c32 at h
 obtain ⟨qD, t0_l, rfl, h⟩ := Uz10i h
 obtain ⟨qA, rfl, h⟩ := Uz3i h
 obtain ⟨qB, rfl, h⟩ := Uz3i h
 obtain ⟨qC, rfl, h⟩ := Uz3i h
 obtain ⟨rfl, h⟩ := Uz11i h
 obtain ⟨qF, rfl, h⟩ := Uz3i h
 obtain ⟨qG, rfl, h⟩ := Uz3i h
 obtain ⟨t20_, rfl, h⟩ := Uz3i h
 obtain ⟨t21_, rfl, h⟩ := Uz3i h
 obtain ⟨h_0, rfl, h⟩ := Uz7i h
 have := cut_tree (ci_zxyf_c32 qD t0_l qA qB qC qF qG t20_ t21_ h_0) h
 rw [mke_zxyf_c32] at this
 exact this
theorem lok_zxyf_c32 : CutOk Tryz.prog cx_zxyf b_zxyf_c32 T_zxyf_c32 := by
 intro st e st2 h
 unfold T_zxyf_c32 at h
 cases hk : okSt 220 1 1 [0] st with
 | false => rw [hk] at h; cases h
 | true =>
  rw [hk] at h
  exact lands_keep (ks := [0, 1, 2, 3, 4, 18, 19, 20, 21]) hk (lo1_zxyf_c32 _ _ _ _ _ _ _ _ _ _ e st2 h)
structure S.zxyf_T where
 x0 : Lm
 deriving Inhabited
def S.zxyf_R (a0 : Lm) (a1 a2 a3 : Int) : DT S.zxyf_T :=
let y0 : Nat := a0.length
let y1 : Int := (S.zxyf_3_v y0 a1 a0 { t10_ := a2, t11_ := a3 : S.zxyf_3_V }).t10_
let y2 : Int := (S.zxyf_15_v y0 a2 a0 { t14_ := a1, t15_ := a2 : S.zxyf_15_V }).t14_
let y3 : Int := IntKind.i64.wrap ((IntKind.u64.wrap (xwrap .i64 (a1 + a3))).fdiv 2)
let y4 : Int := xwrap .i64 (y3 + a2)
let y5 : Int := xwrap .i64 (y4 - a3)
(.br (xeqI (xwrap .i64 (a2 - a1)) 1)
(.br (S.zxyf_3_j y0 a1 a0 { t10_ := a2, t11_ := a3 : S.zxyf_3_V } 0)
(.br (S.zxyf_9_j y0 y1 { t13_ := a1, h_0 := a0 : S.zxyf_9_V } 0)
(.leaf ⟨(S.zxyf_9_v y0 y1 { t13_ := a1, h_0 := a0 : S.zxyf_9_V }).h_0⟩)
.fail)
.fail)
(.br (xeqI (xwrap .i64 (a3 - a2)) 1)
(.br (S.zxyf_15_j y0 a2 a0 { t14_ := a1, t15_ := a2 : S.zxyf_15_V } 0)
(.br (S.zxyf_21_j y0 y2 { t17_ := a2, h_0 := a0 : S.zxyf_21_V } 0)
(.leaf ⟨(S.zxyf_21_v y0 y2 { t17_ := a2, h_0 := a0 : S.zxyf_21_V }).h_0⟩)
.fail)
.fail)
(.br (xdec (a2 > y3))
(.br (S.zxyf_c32_is y0 a1 a2 a3 y3 y4 y5 y3 a0)
(.leaf ⟨(S.zxyf_c32_o y0 a1 a2 a3 y3 y4 y5 y3 a0).x0⟩)
.fail)
(.br (S.zxyf_c32_is y0 a1 a2 a3 y3 y4 a1 a2 a0)
(.leaf ⟨(S.zxyf_c32_o y0 a1 a2 a3 y3 y4 a1 a2 a0).x0⟩)
.fail))))
def S.zxyf (a0 : Lm) (a1 a2 a3 : Int) : Option S.zxyf_T := (S.zxyf_R a0 a1 a2 a3).run
def S.zxyf_is (a0 : Lm) (a1 a2 a3 : Int) : Bool := (S.zxyf a0 a1 a2 a3).isSome
def S.zxyf_o (a0 : Lm) (a1 a2 a3 : Int) : S.zxyf_T := (S.zxyf a0 a1 a2 a3).getD default
def ret_zxyf (b : Bool) (r : S.zxyf_T) : Ret := ⟨b, some (45, (⟨.mat, r.x0⟩ : (t : ET) × List (Ty t))), []⟩
def si_zxyf (a0f : Bool) (a0 : Lm) : List DArg → Bool
 | [(false, [.sc (.int .i64 a1)]), (false, [.sc (.int .i64 a2)]), (false, [.sc (.int .i64 a3)]), (false, [.fn 23 [] []])] => S.zxyf_is a0 a1 a2 a3
 | _ => false
def so_zxyf (a0f : Bool) (a0 : Lm) : List DArg → Lm
 | [(false, [.sc (.int .i64 a1)]), (false, [.sc (.int .i64 a2)]), (false, [.sc (.int .i64 a3)]), (false, [.fn 23 [] []])] => (S.zxyf_o a0 a1 a2 a3).x0
 | _ => a0
def p_zxyf : Proc := rowProc 45 .mat si_zxyf so_zxyf
theorem raw_zxyf (a0f : Bool) (a0 : Lm) (a1 a2 a3 : Int) : evPC cx_zxyf (hdI cx_zxyf (find [(3, T_zxyf_3), (9, T_zxyf_9), (15, T_zxyf_15), (21, T_zxyf_21), (33, T_zxyf_33), (1000032, T_zxyf_c32)]) [] none 3) (find [(3, T_zxyf_3), (9, T_zxyf_9), (15, T_zxyf_15), (21, T_zxyf_21), (33, T_zxyf_33), (1000032, T_zxyf_c32)]) (⟨32, [0, 1, 2, 3, 4, 18, 19, 20, 21], 1⟩) none Tryz.f61 61 (some 45) [(false, [.sl none a0f .mat a0]), (false, [dI a1]), (false, [dI a2]), (false, [dI a3]), (false, [.fn 23 [] []])] some = (S.zxyf_R a0 a1 a2 a3).go (ret_zxyf true) := by kernel_rfl
theorem bs_zxyf : loopsIn Tryz.f61 [] = [b_zxyf_3, b_zxyf_9, b_zxyf_15, b_zxyf_21, b_zxyf_33] := by kernel_rfl
theorem zxyf_ok : StandsP Tryz.prog tyTab 61 p_zxyf := by
 refine standsPC (q := ⟨32, [0, 1, 2, 3, 4, 18, 19, 20, 21], 1⟩) (L := find [(3, T_zxyf_3), (9, T_zxyf_9), (15, T_zxyf_15), (21, T_zxyf_21), (33, T_zxyf_33), (1000032, T_zxyf_c32)]) (n := 3) (hints := [(61, 33, { keep := [0, 1, 2, 3, 4, 18, 19, 20, 21, 22], acc := [] }), (61, 21, { keep := [0, 14, 17], acc := [] }), (61, 15, { keep := [0, 2, 4, 14, 15], acc := [] }), (61, 9, { keep := [0, 10, 13], acc := [] }), (61, 3, { keep := [0, 1, 4, 10, 11], acc := [] })]) (cx_ok rfl) rdy_zxyf prs_zxyf ⟨by kernel_rfl, by kernel_rfl, by kernel_rfl⟩ bs_zxyf (consB (fun T h => by have e : T_zxyf_3 = T := Option.some.inj (show some T_zxyf_3 = some T from h); exact e ▸ lok_zxyf_3) (consB (fun T h => by have e : T_zxyf_9 = T := Option.some.inj (show some T_zxyf_9 = some T from h); exact e ▸ lok_zxyf_9) (consB (fun T h => by have e : T_zxyf_15 = T := Option.some.inj (show some T_zxyf_15 = some T from h); exact e ▸ lok_zxyf_15) (consB (fun T h => by have e : T_zxyf_21 = T := Option.some.inj (show some T_zxyf_21 = some T from h); exact e ▸ lok_zxyf_21) (consB (fun T h => by have e : T_zxyf_33 = T := Option.some.inj (show some T_zxyf_33 = some T from h); exact e ▸ lok_zxyf_33) nilB))))) (fun T h b hb => by have e : T_zxyf_c32 = T := Option.some.inj (show some T_zxyf_c32 = some T from h); subst e; obtain rfl := tailOf_eq hb; exact lok_zxyf_c32) rfl (fun a0f a0 ds h => ?_)
 unfold si_zxyf at h
 split at h
 ·rename_i a1 a2 a3
  exact ⟨true, win default ((raw_zxyf a0f a0 a1 a2 a3).trans (DT.go_run _ _)) h⟩
 ·cases h
/-X-/
end SymSec
theorem siOf_false (f : Bool) (l : Lm) (ds : List DArg) : siOf (fun _ _ _ _ => false) f l ds = false := by
 unfold siOf; split <;> rfl
theorem sym_none : StandsP Tryz.prog tyTab 61 (rowProc 45 .mat (siOf fun _ _ _ _ => false) (soOf fun l _ _ _ => l)) := by
 intro cx htt fn al hp rs h' hf hM
 unfold rowProc at hM
 simp only [siOf_false, Bool.and_false] at hM
 split at hM
 ·split at hM
  ·split at hM
   ·split at hM
    ·injection hM with hM; injection hM with hM _; cases hM
    ·cases hM
   ·cases hM
  ·cases hM
 ·cases hM
set_option warn.classDefReducibility false in
def symS : Nat → SymRec
 | 0 => { is := fun _ _ _ _ => false, o := fun l _ _ _ => l, ok := sym_none }
 | k + 1 => letI := symS k; { is := fun l a m b => S.zxyf_is l a m b, o := fun l a m b => (S.zxyf_o l a m b).x0, ok := zxyf_ok }
def S.zovx_is (a0 : Lm) (a1 a2 a3 : Int) : Bool := (symS 6).is a0 a1 a2 a3
def S.zovx_o (a0 : Lm) (a1 a2 a3 : Int) : Lm := (symS 6).o a0 a1 a2 a3
def p_zovx : Proc := rowProc 45 .mat (siOf S.zovx_is) (soOf S.zovx_o)
theorem zovx_ok : StandsP Tryz.prog tyTab 61 p_zovx := (symS 6).ok
/-Y-/

abbrev cx_zcqk : Cx := mkCx3 tyTab [(23, g_zxni)] [] [(40, 9, { keep := [0, 1, 2, 6, 7, 8], acc := [] }), (40, 7, { keep := [0, 1, 2, 6], acc := [] }), (40, 2, { keep := [0, 1, 2, 6, 7, 8], acc := [] })] [] [] [(60, (Tryz.f60, p_zztx)), (61, (Tryz.f61, p_zovx))]
theorem rdy_zcqk : Ready Tryz.prog tyTab [(23, g_zxni)] [] [] := ⟨consG2 zxni_ok (noneG2), noneI2, noneF2⟩
theorem prs_zcqk : PrsOk Tryz.prog tyTab [(60, (Tryz.f60, p_zztx)), (61, (Tryz.f61, p_zovx))] := consP ⟨by kernel_rfl, by kernel_rfl, by kernel_rfl⟩ zztx_ok (consP ⟨by kernel_rfl, by kernel_rfl, by kernel_rfl⟩ zovx_ok (noneP))
structure S.zcqk_2_V where
 t7_ : Int
 t8_ : Int
 h_0 : Lm
def S.zcqk_2_R (t0_l : Nat) (qA t6_ : Int) (v : S.zcqk_2_V) : DT (Option Nat × S.zcqk_2_V) :=
(.br (xdec (v.t8_ ≤ qA))
(.br (xdec (t0_l = v.h_0.length) && S.zztx_is v.h_0 v.t7_ v.t8_)
(.leaf (none, ⟨v.t8_, xwrap .i64 (v.t8_ + t6_), (S.zztx_o v.h_0 v.t7_ v.t8_).x0⟩))
.fail)
(.leaf (some 0, v)))
def S.zcqk_2_r (t0_l : Nat) (qA t6_ : Int) (v : S.zcqk_2_V) : Option (Option Nat × S.zcqk_2_V) := (S.zcqk_2_R t0_l qA t6_ v).run
def S.zcqk_2_j (t0_l : Nat) (qA t6_ : Int) (v : S.zcqk_2_V) (j : Nat) : Bool := Lp_j (S.zcqk_2_r t0_l qA t6_) v j
def S.zcqk_2_v (t0_l : Nat) (qA t6_ : Int) (v : S.zcqk_2_V) : S.zcqk_2_V := Lp_v (S.zcqk_2_r t0_l qA t6_) v
def mk_zcqk_2 (qD : Bool) (t0_l : Nat) (qA t6_ : Int) (v : S.zcqk_2_V) : St := ⟨(V.v false [C.own 0 .mat qD 0 t0_l] :: ((cV qA) :: (V.v false [C.d (D.fn 23 [] [])] :: (vs 3 ((cV t6_) :: ((cV v.t7_) :: ((cV v.t8_) :: (vs 54 [])))))))), (some (Blk.arr 45 .mat v.h_0) :: (ns 4 [])), 1⟩
def ex_zcqk_2 (qD : Bool) (t0_l : Nat) (qA t6_ : Int) (j : Nat) (v : S.zcqk_2_V) : Ex × St := match j with
 | 0 => (Ex.exit 0, ⟨(V.v false [C.own 0 .mat qD 0 t0_l] :: ((cV qA) :: (V.v false [C.d (D.fn 23 [] [])] :: (vs 3 ((cV t6_) :: ((cV v.t7_) :: (vs 55 []))))))), (some (Blk.arr 45 .mat v.h_0) :: (ns 7 [])), 1⟩)
 | _ => (.ret, ⟨[], [], 0⟩)
def T1_zcqk_2 : V → V → V → V → V → V → Option Blk → Tree
 | V.v false [C.own 0 .mat qD 0 t0_l], V.v false [C.d (.sc (.int .i64 qA))], V.v false [C.d (D.fn 23 [] [])], V.v false [C.d (.sc (.int .i64 t6_))], V.v false [C.d (.sc (.int .i64 t7_))], V.v false [C.d (.sc (.int .i64 t8_))], some (Blk.arr 45 .mat h_0) => exT (fun j => ex_zcqk_2 qD t0_l qA t6_ j (S.zcqk_2_v t0_l qA t6_ ⟨t7_, t8_, h_0⟩)) (S.zcqk_2_j t0_l qA t6_ ⟨t7_, t8_, h_0⟩) [0]
 | _, _, _, _, _, _, _ => .bad
def T_zcqk_2 (st : St) : Tree := bif okSt 63 5 1 [0] st then T1_zcqk_2 (st.env.getD 0 .any) (st.env.getD 1 .any) (st.env.getD 2 .any) (st.env.getD 6 .any) (st.env.getD 7 .any) (st.env.getD 8 .any) (lk st.heap 0) else .bad
def b_zcqk_2 : Code := loopBy Tryz.f40 2
theorem rnd_zcqk_2 (qD : Bool) (t0_l : Nat) (qA t6_ : Int) (v : S.zcqk_2_V) : round2 cx_zcqk (hdI cx_zcqk (find []) [] none 3) 40 b_zcqk_2 [] 5 [0, 1, 2, 6, 7] (mk_zcqk_2 qD t0_l qA t6_ v) = (S.zcqk_2_R t0_l qA t6_ v).go (roundOut (mk_zcqk_2 qD t0_l qA t6_) (ex_zcqk_2 qD t0_l qA t6_)) := by kernel_rfl
theorem bs_zcqk_2 : loopsOf b_zcqk_2 ++ loopsInl [] ++ loopsRf [] = [] := by kernel_rfl
theorem ci_zcqk_2 (qD : Bool) (t0_l : Nat) (qA t6_ : Int) : ∀ v j v2, Lp (S.zcqk_2_r t0_l qA t6_) v = some (j, v2) → Circles Tryz.prog cx_zcqk b_zcqk_2 (mk_zcqk_2 qD t0_l qA t6_ v) (ex_zcqk_2 qD t0_l qA t6_ j v2).1 (ex_zcqk_2 qD t0_l qA t6_ j v2).2 :=
 loop_ok3 (L := find []) (n := 3) (hints := [(40, 9, { keep := [0, 1, 2, 6, 7, 8], acc := [] }), (40, 7, { keep := [0, 1, 2, 6], acc := [] }), (40, 2, { keep := [0, 1, 2, 6, 7, 8], acc := [] })]) (cx_ok rfl) rdy_zcqk prs_zcqk bs_zcqk_2 nilB (fun v => (rnd_zcqk_2 qD t0_l qA t6_ v).trans (DT.go_run _ _)) (by intro j v; unfold ex_zcqk_2; split <;> rfl)
theorem mke_zcqk_2 (qD : Bool) (t0_l : Nat) (qA t6_ : Int) (v : S.zcqk_2_V) : mk_zcqk_2 qD t0_l qA t6_ v = ⟨envOf 63 [(0, V.v false [C.own 0 .mat qD 0 t0_l]), (1, (cV qA)), (2, V.v false [C.d (D.fn 23 [] [])]), (6, (cV t6_)), (7, (cV v.t7_)), (8, (cV v.t8_))], heapOf 5 [(0, some (Blk.arr 45 .mat v.h_0))], 1⟩ := by kernel_rfl
theorem lo1_zcqk_2 (e0 e1 e2 e6 e7 e8 : V) (h0 : Option Blk) e st2 (h : (T1_zcqk_2 e0 e1 e2 e6 e7 e8 h0).eval = some (e, st2)) : Circles Tryz.prog cx_zcqk b_zcqk_2 ⟨envOf 63 [(0, e0), (1, e1), (2, e2), (6, e6), (7, e7), (8, e8)], heapOf 5 [(0, h0)], 1⟩ e st2 := by
 unfold T1_zcqk_2 at h
 split at h
 ·have := loop_tree (mk := mk_zcqk_2 _ _ _ _) (ci_zcqk_2 _ _ _ _) _ _ e st2 h
  rw [mke_zcqk_2] at this
  exact this
 ·cases h
theorem lok_zcqk_2 : LoopOk Tryz.prog cx_zcqk b_zcqk_2 T_zcqk_2 := by
 intro st e st2 h
 unfold T_zcqk_2 at h
 cases hk : okSt 63 5 1 [0] st with
 | false => rw [hk] at h; cases h
 | true =>
  rw [hk] at h
  exact circles_keep (ks := [0, 1, 2, 6, 7, 8]) hk (lo1_zcqk_2 _ _ _ _ _ _ _ e st2 h)
structure S.zcqk_9_V where
 t7_ : Int
 t8_ : Int
 h_0 : Lm
def S.zcqk_9_R (t0_l : Nat) (qA t6_ : Int) (v : S.zcqk_9_V) : DT (Option Nat × S.zcqk_9_V) :=
let y0 : Int := xwrap .i64 (v.t7_ + t6_)
(.br (xdec (v.t8_ ≤ qA))
(.br (xdec (t0_l = v.h_0.length) && S.zovx_is v.h_0 v.t7_ y0 v.t8_)
(.leaf (none, ⟨v.t8_, xwrap .i64 (v.t8_ + xwrap .i64 (2 * t6_)), S.zovx_o v.h_0 v.t7_ y0 v.t8_⟩))
.fail)
(.leaf (some 0, v)))
def S.zcqk_9_r (t0_l : Nat) (qA t6_ : Int) (v : S.zcqk_9_V) : Option (Option Nat × S.zcqk_9_V) := (S.zcqk_9_R t0_l qA t6_ v).run
def S.zcqk_9_j (t0_l : Nat) (qA t6_ : Int) (v : S.zcqk_9_V) (j : Nat) : Bool := Lp_j (S.zcqk_9_r t0_l qA t6_) v j
def S.zcqk_9_v (t0_l : Nat) (qA t6_ : Int) (v : S.zcqk_9_V) : S.zcqk_9_V := Lp_v (S.zcqk_9_r t0_l qA t6_) v
def mk_zcqk_9 (qD : Bool) (t0_l : Nat) (qA t6_ : Int) (v : S.zcqk_9_V) : St := ⟨(V.v false [C.own 0 .mat qD 0 t0_l] :: ((cV qA) :: (V.v false [C.d (D.fn 23 [] [])] :: (vs 3 ((cV t6_) :: ((cV v.t7_) :: ((cV v.t8_) :: (vs 54 [])))))))), (some (Blk.arr 45 .mat v.h_0) :: (ns 19 [])), 1⟩
def ex_zcqk_9 (qD : Bool) (t0_l : Nat) (qA t6_ : Int) (j : Nat) (v : S.zcqk_9_V) : Ex × St := match j with
 | 0 => (Ex.exit 4, ⟨(V.v false [C.own 0 .mat qD 0 t0_l] :: ((cV qA) :: (V.v false [C.d (D.fn 23 [] [])] :: (vs 3 ((cV t6_) :: ((cV v.t7_) :: (vs 55 []))))))), (some (Blk.arr 45 .mat v.h_0) :: (ns 22 [])), 1⟩)
 | _ => (.ret, ⟨[], [], 0⟩)
def T1_zcqk_9 : V → V → V → V → V → V → Option Blk → Tree
 | V.v false [C.own 0 .mat qD 0 t0_l], V.v false [C.d (.sc (.int .i64 qA))], V.v false [C.d (D.fn 23 [] [])], V.v false [C.d (.sc (.int .i64 t6_))], V.v false [C.d (.sc (.int .i64 t7_))], V.v false [C.d (.sc (.int .i64 t8_))], some (Blk.arr 45 .mat h_0) => exT (fun j => ex_zcqk_9 qD t0_l qA t6_ j (S.zcqk_9_v t0_l qA t6_ ⟨t7_, t8_, h_0⟩)) (S.zcqk_9_j t0_l qA t6_ ⟨t7_, t8_, h_0⟩) [0]
 | _, _, _, _, _, _, _ => .bad
def T_zcqk_9 (st : St) : Tree := bif okSt 63 20 1 [0] st then T1_zcqk_9 (st.env.getD 0 .any) (st.env.getD 1 .any) (st.env.getD 2 .any) (st.env.getD 6 .any) (st.env.getD 7 .any) (st.env.getD 8 .any) (lk st.heap 0) else .bad
def b_zcqk_9 : Code := loopBy Tryz.f40 9
theorem rnd_zcqk_9 (qD : Bool) (t0_l : Nat) (qA t6_ : Int) (v : S.zcqk_9_V) : round2 cx_zcqk (hdI cx_zcqk (find [(2, T_zcqk_2)]) [] none 3) 40 b_zcqk_9 [] 20 [0, 1, 2, 6, 7] (mk_zcqk_9 qD t0_l qA t6_ v) = (S.zcqk_9_R t0_l qA t6_ v).go (roundOut (mk_zcqk_9 qD t0_l qA t6_) (ex_zcqk_9 qD t0_l qA t6_)) := by kernel_rfl
theorem bs_zcqk_9 : loopsOf b_zcqk_9 ++ loopsInl [] ++ loopsRf [] = [] := by kernel_rfl
theorem ci_zcqk_9 (qD : Bool) (t0_l : Nat) (qA t6_ : Int) : ∀ v j v2, Lp (S.zcqk_9_r t0_l qA t6_) v = some (j, v2) → Circles Tryz.prog cx_zcqk b_zcqk_9 (mk_zcqk_9 qD t0_l qA t6_ v) (ex_zcqk_9 qD t0_l qA t6_ j v2).1 (ex_zcqk_9 qD t0_l qA t6_ j v2).2 :=
 loop_ok3 (L := find [(2, T_zcqk_2)]) (n := 3) (hints := [(40, 9, { keep := [0, 1, 2, 6, 7, 8], acc := [] }), (40, 7, { keep := [0, 1, 2, 6], acc := [] }), (40, 2, { keep := [0, 1, 2, 6, 7, 8], acc := [] })]) (cx_ok rfl) rdy_zcqk prs_zcqk bs_zcqk_9 nilB (fun v => (rnd_zcqk_9 qD t0_l qA t6_ v).trans (DT.go_run _ _)) (by intro j v; unfold ex_zcqk_9; split <;> rfl)
theorem mke_zcqk_9 (qD : Bool) (t0_l : Nat) (qA t6_ : Int) (v : S.zcqk_9_V) : mk_zcqk_9 qD t0_l qA t6_ v = ⟨envOf 63 [(0, V.v false [C.own 0 .mat qD 0 t0_l]), (1, (cV qA)), (2, V.v false [C.d (D.fn 23 [] [])]), (6, (cV t6_)), (7, (cV v.t7_)), (8, (cV v.t8_))], heapOf 20 [(0, some (Blk.arr 45 .mat v.h_0))], 1⟩ := by kernel_rfl
theorem lo1_zcqk_9 (e0 e1 e2 e6 e7 e8 : V) (h0 : Option Blk) e st2 (h : (T1_zcqk_9 e0 e1 e2 e6 e7 e8 h0).eval = some (e, st2)) : Circles Tryz.prog cx_zcqk b_zcqk_9 ⟨envOf 63 [(0, e0), (1, e1), (2, e2), (6, e6), (7, e7), (8, e8)], heapOf 20 [(0, h0)], 1⟩ e st2 := by
 unfold T1_zcqk_9 at h
 split at h
 ·have := loop_tree (mk := mk_zcqk_9 _ _ _ _) (ci_zcqk_9 _ _ _ _) _ _ e st2 h
  rw [mke_zcqk_9] at this
  exact this
 ·cases h
theorem lok_zcqk_9 : LoopOk Tryz.prog cx_zcqk b_zcqk_9 T_zcqk_9 := by
 intro st e st2 h
 unfold T_zcqk_9 at h
 cases hk : okSt 63 20 1 [0] st with
 | false => rw [hk] at h; cases h
 | true =>
  rw [hk] at h
  exact circles_keep (ks := [0, 1, 2, 6, 7, 8]) hk (lo1_zcqk_9 _ _ _ _ _ _ _ e st2 h)
structure S.zcqk_7_V where
 t6_ : Int
 h_0 : Lm
def S.zcqk_7_R (t0_l : Nat) (qA : Int) (v : S.zcqk_7_V) : DT (Option Nat × S.zcqk_7_V) :=
let y0 : S.zcqk_9_V := { t7_ := 0, t8_ := xwrap .i64 (2 * v.t6_), h_0 := v.h_0 : S.zcqk_9_V }
let y1 := S.zcqk_9_v t0_l qA v.t6_ y0
let y2 := y1.t7_
let y3 : Int := xwrap .i64 (y2 + v.t6_)
let y4 := y1.h_0
let y5 : Int := xwrap .i64 (v.t6_ * 2)
(.br (xdec (v.t6_ < qA))
(.br (S.zcqk_9_j t0_l qA v.t6_ y0 0)
(.br (xdec (y3 < qA))
(.br (xdec (t0_l = y4.length) && S.zovx_is y4 y2 y3 qA)
(.leaf (none, ⟨y5, S.zovx_o y4 y2 y3 qA⟩))
.fail)
(.leaf (none, ⟨y5, y4⟩)))
.fail)
(.leaf (some 0, v)))
def S.zcqk_7_r (t0_l : Nat) (qA : Int) (v : S.zcqk_7_V) : Option (Option Nat × S.zcqk_7_V) := (S.zcqk_7_R t0_l qA v).run
def S.zcqk_7_j (t0_l : Nat) (qA : Int) (v : S.zcqk_7_V) (j : Nat) : Bool := Lp_j (S.zcqk_7_r t0_l qA) v j
def S.zcqk_7_v (t0_l : Nat) (qA : Int) (v : S.zcqk_7_V) : S.zcqk_7_V := Lp_v (S.zcqk_7_r t0_l qA) v
def mk_zcqk_7 (qD : Bool) (t0_l : Nat) (qA : Int) (v : S.zcqk_7_V) : St := ⟨(V.v false [C.own 0 .mat qD 0 t0_l] :: ((cV qA) :: (V.v false [C.d (D.fn 23 [] [])] :: (vs 3 ((cV v.t6_) :: (vs 56 [])))))), (some (Blk.arr 45 .mat v.h_0) :: (ns 12 [])), 1⟩
def ex_zcqk_7 (qD : Bool) (t0_l : Nat) (qA : Int) (j : Nat) (v : S.zcqk_7_V) : Ex × St := match j with
 | 0 => (Ex.exit 2, ⟨(vs 63 []), (some (Blk.arr 45 .mat v.h_0) :: (ns 15 [])), 1⟩)
 | _ => (.ret, ⟨[], [], 0⟩)
def T1_zcqk_7 : V → V → V → V → Option Blk → Tree
 | V.v false [C.own 0 .mat qD 0 t0_l], V.v false [C.d (.sc (.int .i64 qA))], V.v false [C.d (D.fn 23 [] [])], V.v false [C.d (.sc (.int .i64 t6_))], some (Blk.arr 45 .mat h_0) => exT (fun j => ex_zcqk_7 qD t0_l qA j (S.zcqk_7_v t0_l qA ⟨t6_, h_0⟩)) (S.zcqk_7_j t0_l qA ⟨t6_, h_0⟩) [0]
 | _, _, _, _, _ => .bad
def T_zcqk_7 (st : St) : Tree := bif okSt 63 13 1 [0] st then T1_zcqk_7 (st.env.getD 0 .any) (st.env.getD 1 .any) (st.env.getD 2 .any) (st.env.getD 6 .any) (lk st.heap 0) else .bad
def b_zcqk_7 : Code := loopBy Tryz.f40 7
theorem rnd_zcqk_7 (qD : Bool) (t0_l : Nat) (qA : Int) (v : S.zcqk_7_V) : round2 cx_zcqk (hdI cx_zcqk (find [(2, T_zcqk_2), (9, T_zcqk_9)]) [] none 3) 40 b_zcqk_7 [] 13 [] (mk_zcqk_7 qD t0_l qA v) = (S.zcqk_7_R t0_l qA v).go (roundOut (mk_zcqk_7 qD t0_l qA) (ex_zcqk_7 qD t0_l qA)) := by kernel_rfl
theorem bs_zcqk_7 : loopsOf b_zcqk_7 ++ loopsInl [] ++ loopsRf [] = [b_zcqk_9] := by kernel_rfl
theorem ci_zcqk_7 (qD : Bool) (t0_l : Nat) (qA : Int) : ∀ v j v2, Lp (S.zcqk_7_r t0_l qA) v = some (j, v2) → Circles Tryz.prog cx_zcqk b_zcqk_7 (mk_zcqk_7 qD t0_l qA v) (ex_zcqk_7 qD t0_l qA j v2).1 (ex_zcqk_7 qD t0_l qA j v2).2 :=
 loop_ok3 (L := find [(2, T_zcqk_2), (9, T_zcqk_9)]) (n := 3) (hints := [(40, 9, { keep := [0, 1, 2, 6, 7, 8], acc := [] }), (40, 7, { keep := [0, 1, 2, 6], acc := [] }), (40, 2, { keep := [0, 1, 2, 6, 7, 8], acc := [] })]) (cx_ok rfl) rdy_zcqk prs_zcqk bs_zcqk_7 (consB (fun T h => by have e : T_zcqk_9 = T := Option.some.inj (show some T_zcqk_9 = some T from h); exact e ▸ lok_zcqk_9) nilB) (fun v => (rnd_zcqk_7 qD t0_l qA v).trans (DT.go_run _ _)) (by intro j v; unfold ex_zcqk_7; split <;> rfl)
theorem mke_zcqk_7 (qD : Bool) (t0_l : Nat) (qA : Int) (v : S.zcqk_7_V) : mk_zcqk_7 qD t0_l qA v = ⟨envOf 63 [(0, V.v false [C.own 0 .mat qD 0 t0_l]), (1, (cV qA)), (2, V.v false [C.d (D.fn 23 [] [])]), (6, (cV v.t6_))], heapOf 13 [(0, some (Blk.arr 45 .mat v.h_0))], 1⟩ := by kernel_rfl
theorem lo1_zcqk_7 (e0 e1 e2 e6 : V) (h0 : Option Blk) e st2 (h : (T1_zcqk_7 e0 e1 e2 e6 h0).eval = some (e, st2)) : Circles Tryz.prog cx_zcqk b_zcqk_7 ⟨envOf 63 [(0, e0), (1, e1), (2, e2), (6, e6)], heapOf 13 [(0, h0)], 1⟩ e st2 := by
 unfold T1_zcqk_7 at h
 split at h
 ·have := loop_tree (mk := mk_zcqk_7 _ _ _) (ci_zcqk_7 _ _ _) _ _ e st2 h
  rw [mke_zcqk_7] at this
  exact this
 ·cases h
theorem lok_zcqk_7 : LoopOk Tryz.prog cx_zcqk b_zcqk_7 T_zcqk_7 := by
 intro st e st2 h
 unfold T_zcqk_7 at h
 cases hk : okSt 63 13 1 [0] st with
 | false => rw [hk] at h; cases h
 | true =>
  rw [hk] at h
  exact circles_keep (ks := [0, 1, 2, 6]) hk (lo1_zcqk_7 _ _ _ _ _ e st2 h)
structure S.zcqk_T where
 x0 : Lm
 deriving Inhabited
def S.zcqk_R (a0 : Lm) (a1 : Int) : DT S.zcqk_T :=
let y0 : Nat := a0.length
let y1 : S.zcqk_2_V := { t7_ := 0, t8_ := 20, h_0 := a0 : S.zcqk_2_V }
let y2 := S.zcqk_2_v y0 a1 20 y1
let y3 := y2.h_0
let y4 := y2.t7_
let y5 : S.zcqk_7_V := { t6_ := 20, h_0 := (S.zztx_o y3 y4 a1).x0 : S.zcqk_7_V }
(.br (S.zcqk_2_j y0 a1 20 y1 0)
(.br (xdec (y0 = y3.length) && S.zztx_is y3 y4 a1)
(.br (S.zcqk_7_j y0 a1 y5 0)
(.leaf ⟨(S.zcqk_7_v y0 a1 y5).h_0⟩)
.fail)
.fail)
.fail)
def S.zcqk (a0 : Lm) (a1 : Int) : Option S.zcqk_T := (S.zcqk_R a0 a1).run
def S.zcqk_is (a0 : Lm) (a1 : Int) : Bool := (S.zcqk a0 a1).isSome
def S.zcqk_o (a0 : Lm) (a1 : Int) : S.zcqk_T := (S.zcqk a0 a1).getD default
def ret_zcqk (b : Bool) (r : S.zcqk_T) : Ret := ⟨b, some (45, (⟨.mat, r.x0⟩ : (t : ET) × List (Ty t))), []⟩
def si_zcqk (a0f : Bool) (a0 : Lm) : List DArg → Bool
 | [(false, [.sc (.int .i64 a1)]), (false, [.fn 23 [] []])] => S.zcqk_is a0 a1
 | _ => false
def so_zcqk (a0f : Bool) (a0 : Lm) : List DArg → Lm
 | [(false, [.sc (.int .i64 a1)]), (false, [.fn 23 [] []])] => (S.zcqk_o a0 a1).x0
 | _ => a0
def p_zcqk : Proc := rowProc 45 .mat si_zcqk so_zcqk
theorem raw_zcqk (a0f : Bool) (a0 : Lm) (a1 : Int) : evP cx_zcqk (hdI cx_zcqk (find [(2, T_zcqk_2), (9, T_zcqk_9), (7, T_zcqk_7)]) [] none 3) none Tryz.f40 40 (some 45) [(false, [.sl none a0f .mat a0]), (false, [dI a1]), (false, [.fn 23 [] []])] some = (S.zcqk_R a0 a1).go (ret_zcqk true) := by kernel_rfl
theorem bs_zcqk : loopsIn Tryz.f40 [] = [b_zcqk_2, b_zcqk_7] := by kernel_rfl
theorem zcqk_ok : StandsP Tryz.prog tyTab 40 p_zcqk := by
 refine standsP (L := find [(2, T_zcqk_2), (9, T_zcqk_9), (7, T_zcqk_7)]) (n := 3) (hints := [(40, 9, { keep := [0, 1, 2, 6, 7, 8], acc := [] }), (40, 7, { keep := [0, 1, 2, 6], acc := [] }), (40, 2, { keep := [0, 1, 2, 6, 7, 8], acc := [] })]) (cx_ok rfl) rdy_zcqk prs_zcqk ⟨by kernel_rfl, by kernel_rfl, by kernel_rfl⟩ bs_zcqk (consB (fun T h => by have e : T_zcqk_2 = T := Option.some.inj (show some T_zcqk_2 = some T from h); exact e ▸ lok_zcqk_2) (consB (fun T h => by have e : T_zcqk_7 = T := Option.some.inj (show some T_zcqk_7 = some T from h); exact e ▸ lok_zcqk_7) nilB)) (by kernel_rfl) rfl (fun a0f a0 ds h => ?_)
 unfold si_zcqk at h
 split at h
 ·rename_i a1
  exact ⟨true, win default ((raw_zcqk a0f a0 a1).trans (DT.go_run _ _)) h⟩
 ·cases h
abbrev cx_sort2 : Cx := mkCx3 tyTab [(23, g_zxni)] [] [] [] [] [(40, (Tryz.f40, p_zcqk))]
theorem rdy_sort2 : Ready Tryz.prog tyTab [(23, g_zxni)] [] [] := ⟨consG2 zxni_ok (noneG2), noneI2, noneF2⟩
theorem prs_sort2 : PrsOk Tryz.prog tyTab [(40, (Tryz.f40, p_zcqk))] := consP ⟨by kernel_rfl, by kernel_rfl, by kernel_rfl⟩ zcqk_ok (noneP)
structure S.sort2_T where
 x0 : Lm
 deriving Inhabited
def S.sort2_R (a0 : Lm) : DT S.sort2_T :=
let y0 : Nat := a0.length
let y1 : Int := (↑y0 : Int)
(.br (xdec (y0 = y0) && S.zcqk_is a0 y1)
(.leaf ⟨(S.zcqk_o a0 y1).x0⟩)
.fail)
def S.sort2 (a0 : Lm) : Option S.sort2_T := (S.sort2_R a0).run
def S.sort2_is (a0 : Lm) : Bool := (S.sort2 a0).isSome
def S.sort2_o (a0 : Lm) : S.sort2_T := (S.sort2 a0).getD default
def ret_sort2 (b : Bool) (r : S.sort2_T) : Ret := ⟨b, some (45, (⟨.mat, r.x0⟩ : (t : ET) × List (Ty t))), []⟩
def si_sort2 (a0f : Bool) (a0 : Lm) : List DArg → Bool
 | [(false, [.fn 23 [] []])] => S.sort2_is a0
 | _ => false
def so_sort2 (a0f : Bool) (a0 : Lm) : List DArg → Lm
 | [(false, [.fn 23 [] []])] => (S.sort2_o a0).x0
 | _ => a0
def p_sort2 : Proc := rowProc 45 .mat si_sort2 so_sort2
theorem raw_sort2 (a0f : Bool) (a0 : Lm) : evP cx_sort2 (hdI cx_sort2 (find []) [] none 3) none Tryz.f22 22 (some 45) [(false, [.sl none a0f .mat a0]), (false, [.fn 23 [] []])] some = (S.sort2_R a0).go (ret_sort2 true) := by kernel_rfl
theorem bs_sort2 : loopsIn Tryz.f22 [] = [] := by kernel_rfl
theorem sort2_ok : StandsP Tryz.prog tyTab 22 p_sort2 := by
 refine standsP (L := find []) (n := 3) (hints := []) (cx_ok rfl) rdy_sort2 prs_sort2 ⟨by kernel_rfl, by kernel_rfl, by kernel_rfl⟩ bs_sort2 nilB (by kernel_rfl) rfl (fun a0f a0 ds h => ?_)
 unfold si_sort2 at h
 split at h
 ·exact ⟨true, win default ((raw_sort2 a0f a0).trans (DT.go_run _ _)) h⟩
 ·cases h
abbrev cx_all2 : Cx := mkCx3 tyTab [(10, g_zjsn), (21, g_zpzf), (23, g_zxni), (39, g_znv3)] [] [(9, 5, { keep := [7, 8], acc := [] }), (38, 1, { keep := [0, 1, 2, 8, 9], acc := [(1002, some 0, .mat, 45)] })] [(38, Tryz.f38)] [(5, rfAt 9 Tryz.f9)] [(22, (Tryz.f22, p_sort2))]
theorem rdy_all2 : Ready Tryz.prog tyTab [(10, g_zjsn), (21, g_zpzf), (23, g_zxni), (39, g_znv3)] [] [(38, Tryz.f38)] := ⟨consG2 zjsn_ok (consG2 zpzf_ok (consG2 zxni_ok (consG2 znv3_ok (noneG2)))), noneI2, consF2 ⟨by kernel_rfl, by kernel_rfl, by kernel_rfl⟩ (noneF2)⟩
theorem prs_all2 : PrsOk Tryz.prog tyTab [(22, (Tryz.f22, p_sort2))] := consP ⟨by kernel_rfl, by kernel_rfl, by kernel_rfl⟩ sort2_ok (noneP)
structure S.all2_1_V where
 t9_ : Int
 h2_f : Bool
 h2_l : Nat
 h_16 : Lm
def S.all2_1_R (t_1_0_0 : Le) (t_2_0_0 : Ls) (t_2_0_1 t_2_0_2 t_2_0_3 t_2_0_4 t8_ qH : Int) (v : S.all2_1_V) : DT (Option Nat × S.all2_1_V) :=
let y0 := S.znv3_o t_2_0_0 t_2_0_1 t_2_0_2 t_2_0_3 t_2_0_4 t_1_0_0 v.t9_
let y1 := y0.x1
let y2 : Mat := { start := y0.x0, fin := y1, agg := y0.x2, bad := y0.x3 : Mat }
let y3 : Nat := v.h2_l + 1
let y4 : Bool := xdec (0 + 1 ≤ ((List.replicate 1 (dflt .mat)).set 0 y2).length) && xdec (v.h2_l ≤ v.h_16.length) && xdec (y3 ≤ 1048576)
let y5 : Int := xwrap .i64 (v.t9_ + 1)
let y6 : Lm := List.take v.h2_l v.h_16 ++ [y2]
(.br (xdec (v.t9_ < t8_))
(.br (S.znv3_is t_2_0_0 t_2_0_1 t_2_0_2 t_2_0_3 t_2_0_4 t_1_0_0 v.t9_)
(.br (y0.x4)
(.br (xdec (qH < 0))
(.br (y4)
(.leaf (none, ⟨y5, false, y3, y6⟩))
.fail)
(.br (xdec (y1 ≤ qH))
(.br (y4)
(.leaf (none, ⟨y5, false, y3, y6⟩))
.fail)
(.leaf (none, ⟨y5, v.h2_f, v.h2_l, v.h_16⟩))))
(.leaf (none, ⟨y5, v.h2_f, v.h2_l, v.h_16⟩)))
.fail)
(.leaf (some 0, v)))
def S.all2_1_r (t_1_0_0 : Le) (t_2_0_0 : Ls) (t_2_0_1 t_2_0_2 t_2_0_3 t_2_0_4 t8_ qH : Int) (v : S.all2_1_V) : Option (Option Nat × S.all2_1_V) := (S.all2_1_R t_1_0_0 t_2_0_0 t_2_0_1 t_2_0_2 t_2_0_3 t_2_0_4 t8_ qH v).run
def S.all2_1_j (t_1_0_0 : Le) (t_2_0_0 : Ls) (t_2_0_1 t_2_0_2 t_2_0_3 t_2_0_4 t8_ qH : Int) (v : S.all2_1_V) (j : Nat) : Bool := Lp_j (S.all2_1_r t_1_0_0 t_2_0_0 t_2_0_1 t_2_0_2 t_2_0_3 t_2_0_4 t8_ qH) v j
def S.all2_1_v (t_1_0_0 : Le) (t_2_0_0 : Ls) (t_2_0_1 t_2_0_2 t_2_0_3 t_2_0_4 t8_ qH : Int) (v : S.all2_1_V) : S.all2_1_V := Lp_v (S.all2_1_r t_1_0_0 t_2_0_0 t_2_0_1 t_2_0_2 t_2_0_3 t_2_0_4 t8_ qH) v
def mk_all2_1 (t_1_0_0n : OBz) (t_1_0_0f : Bool) (t_1_0_0 : Le) (t_2_0_0n : OBz) (t_2_0_0f : Bool) (t_2_0_0 : Ls) (t_2_0_1 t_2_0_2 t_2_0_3 t_2_0_4 t8_ : Int) (qI : OBz) (qJ : Bool) (qK : Ls) (qL qM qN qO qH : Int) (v : S.all2_1_V) : St := ⟨(V.v false [C.yld 12] :: (V.v false [C.d (D.ref [D.sl t_1_0_0n t_1_0_0f .evt t_1_0_0])] :: (V.v false [C.d (D.ref [D.sl t_2_0_0n t_2_0_0f .step t_2_0_0, D.sc (Sc.int IntKind.i64 t_2_0_1), D.sc (Sc.int IntKind.i64 t_2_0_2), D.sc (Sc.int IntKind.i64 t_2_0_3), D.sc (Sc.int IntKind.i64 t_2_0_4)])] :: (vs 5 ((cV t8_) :: ((cV v.t9_) :: (vs 17 []))))))), (some (Blk.box 24 [C.d (.sl qI qJ .step qK), (cI qL), (cI qM), (cI qN), (cI qO)]) :: (none :: (some (Blk.box 32 [C.own 16 .mat v.h2_f 0 v.h2_l]) :: (ns 4 (some (Blk.box 3 [(cI qH)]) :: (ns 4 (some (Blk.lp 5 (vs 7 (V.v false [C.ptr 2 0] :: (V.v false [C.ptr 7 0] :: (vs 24 [])))) 0 none) :: (ns 3 (some (Blk.arr 45 .mat v.h_16) :: []))))))))), 13⟩
def ex_all2_1 (t_1_0_0n : OBz) (t_1_0_0f : Bool) (t_1_0_0 : Le) (t_2_0_0n : OBz) (t_2_0_0f : Bool) (t_2_0_0 : Ls) (t_2_0_1 t_2_0_2 t_2_0_3 t_2_0_4 t8_ : Int) (qI : OBz) (qJ : Bool) (qK : Ls) (qL qM qN qO qH : Int) (j : Nat) (v : S.all2_1_V) : Ex × St := match j with
 | 0 => (Ex.exit 0, ⟨(vs 27 []), (some
  (Blk.box 24
   [C.d (.sl qI qJ .step qK), (cI qL), (cI qM), (cI qN),
    (cI qO)]) :: (none :: (some (Blk.box 32 [C.own 16 .mat v.h2_f 0 v.h2_l]) :: (ns 4 (some (Blk.box 3 [(cI qH)]) :: (ns 4 (some
  (Blk.lp 5
   (vs 7 (V.v false [C.ptr 2 0] :: (V.v false [C.ptr 7 0] :: (vs 24 []))))
   0 none) :: (ns 3 (some (Blk.arr 45 .mat v.h_16) :: (none :: [])))))))))), 13⟩)
 | _ => (.ret, ⟨[], [], 0⟩)
def U_all2_1_e0 (x : V) (K : Tree) : Tree := match x with
 | V.v false [C.yld 12] => K
 | _ => .bad
def U_all2_1_e1 (x : V) (K : OBz → Bool → Le → Tree) : Tree := match x with
 | V.v false [C.d (D.ref [D.sl t_1_0_0n t_1_0_0f .evt t_1_0_0])] => K t_1_0_0n t_1_0_0f t_1_0_0
 | _ => .bad
def U_all2_1_e2 (x : V) (K : OBz → Bool → Ls → Int → Int → Int → Int → Tree) : Tree := match x with
 | V.v false [C.d (D.ref [D.sl t_2_0_0n t_2_0_0f .step t_2_0_0, D.sc (Sc.int IntKind.i64 t_2_0_1), D.sc (Sc.int IntKind.i64 t_2_0_2), D.sc (Sc.int IntKind.i64 t_2_0_3), D.sc (Sc.int IntKind.i64 t_2_0_4)])] => K t_2_0_0n t_2_0_0f t_2_0_0 t_2_0_1 t_2_0_2 t_2_0_3 t_2_0_4
 | _ => .bad
def U_all2_1_h2 (x : Option Blk) (K : Bool → Nat → Tree) : Tree := match x with
 | some (Blk.box 32 [C.own 16 .mat h2_f 0 h2_l]) => K h2_f h2_l
 | _ => .bad
def U_all2_1_h12 (x : Option Blk) (K : Tree) : Tree := match x with
 | some (Blk.lp 5 (V.any :: V.any :: V.any :: V.any :: V.any :: V.any :: V.any :: V.v false [C.ptr 2 0] :: V.v false [C.ptr 7 0] :: V.any :: V.any :: V.any :: V.any :: V.any :: V.any :: V.any :: V.any :: V.any :: V.any :: V.any :: V.any :: V.any :: V.any :: V.any :: V.any :: V.any :: V.any :: V.any :: V.any :: V.any :: V.any :: V.any :: V.any :: []) 0 none) => K
 | _ => .bad
def T1_all2_1 (e0 e1 e2 e8 e9 : V) (h0 h2 h7 h12 h16 : Option Blk) : Tree := U_all2_1_e0 e0 (U_all2_1_e1 e1 (fun t_1_0_0n t_1_0_0f t_1_0_0 => U_all2_1_e2 e2 (fun t_2_0_0n t_2_0_0f t_2_0_0 t_2_0_1 t_2_0_2 t_2_0_3 t_2_0_4 => Uz3 e8 (fun t8_ => Uz3 e9 (fun t9_ => Uz9 h0 (fun qI qJ qK qL qM qN qO => U_all2_1_h2 h2 (fun h2_f h2_l => Uz5 h7 (fun qH => U_all2_1_h12 h12 (Uz7 h16 (fun h_16 => exT (fun j => ex_all2_1 t_1_0_0n t_1_0_0f t_1_0_0 t_2_0_0n t_2_0_0f t_2_0_0 t_2_0_1 t_2_0_2 t_2_0_3 t_2_0_4 t8_ qI qJ qK qL qM qN qO qH j (S.all2_1_v t_1_0_0 t_2_0_0 t_2_0_1 t_2_0_2 t_2_0_3 t_2_0_4 t8_ qH ⟨t9_, h2_f, h2_l, h_16⟩)) (S.all2_1_j t_1_0_0 t_2_0_0 t_2_0_1 t_2_0_2 t_2_0_3 t_2_0_4 t8_ qH ⟨t9_, h2_f, h2_l, h_16⟩) [0]))))))))))
def T_all2_1 (st : St) : Tree := bif okSt 27 17 13 [0, 2, 7, 12, 16] st then T1_all2_1 (st.env.getD 0 .any) (st.env.getD 1 .any) (st.env.getD 2 .any) (st.env.getD 8 .any) (st.env.getD 9 .any) (lk st.heap 0) (lk st.heap 2) (lk st.heap 7) (lk st.heap 12) (lk st.heap 16) else .bad
def b_all2_1 : Code := loopBy Tryz.f38 1
theorem rnd_all2_1 (t_1_0_0n : OBz) (t_1_0_0f : Bool) (t_1_0_0 : Le) (t_2_0_0n : OBz) (t_2_0_0f : Bool) (t_2_0_0 : Ls) (t_2_0_1 t_2_0_2 t_2_0_3 t_2_0_4 t8_ : Int) (qI : OBz) (qJ : Bool) (qK : Ls) (qL qM qN qO qH : Int) (v : S.all2_1_V) : round2 cx_all2 (hdI cx_all2 (find []) [(38, Tryz.f38)] none 3) 38 b_all2_1 [16] 17 [] (mk_all2_1 t_1_0_0n t_1_0_0f t_1_0_0 t_2_0_0n t_2_0_0f t_2_0_0 t_2_0_1 t_2_0_2 t_2_0_3 t_2_0_4 t8_ qI qJ qK qL qM qN qO qH v) = (S.all2_1_R t_1_0_0 t_2_0_0 t_2_0_1 t_2_0_2 t_2_0_3 t_2_0_4 t8_ qH v).go (roundOut (mk_all2_1 t_1_0_0n t_1_0_0f t_1_0_0 t_2_0_0n t_2_0_0f t_2_0_0 t_2_0_1 t_2_0_2 t_2_0_3 t_2_0_4 t8_ qI qJ qK qL qM qN qO qH) (ex_all2_1 t_1_0_0n t_1_0_0f t_1_0_0 t_2_0_0n t_2_0_0f t_2_0_0 t_2_0_1 t_2_0_2 t_2_0_3 t_2_0_4 t8_ qI qJ qK qL qM qN qO qH)) := by kernel_rfl
theorem bs_all2_1 : loopsOf b_all2_1 ++ loopsInl [(38, Tryz.f38)] ++ loopsRf [(5, rfAt 9 Tryz.f9)] = [b_all2_1] := by kernel_rfl
theorem ci_all2_1 (t_1_0_0n : OBz) (t_1_0_0f : Bool) (t_1_0_0 : Le) (t_2_0_0n : OBz) (t_2_0_0f : Bool) (t_2_0_0 : Ls) (t_2_0_1 t_2_0_2 t_2_0_3 t_2_0_4 t8_ : Int) (qI : OBz) (qJ : Bool) (qK : Ls) (qL qM qN qO qH : Int) : ∀ v j v2, Lp (S.all2_1_r t_1_0_0 t_2_0_0 t_2_0_1 t_2_0_2 t_2_0_3 t_2_0_4 t8_ qH) v = some (j, v2) → Circles Tryz.prog cx_all2 b_all2_1 (mk_all2_1 t_1_0_0n t_1_0_0f t_1_0_0 t_2_0_0n t_2_0_0f t_2_0_0 t_2_0_1 t_2_0_2 t_2_0_3 t_2_0_4 t8_ qI qJ qK qL qM qN qO qH v) (ex_all2_1 t_1_0_0n t_1_0_0f t_1_0_0 t_2_0_0n t_2_0_0f t_2_0_0 t_2_0_1 t_2_0_2 t_2_0_3 t_2_0_4 t8_ qI qJ qK qL qM qN qO qH j v2).1 (ex_all2_1 t_1_0_0n t_1_0_0f t_1_0_0 t_2_0_0n t_2_0_0f t_2_0_0 t_2_0_1 t_2_0_2 t_2_0_3 t_2_0_4 t8_ qI qJ qK qL qM qN qO qH j v2).2 :=
 loop_ok3 (L := find []) (n := 3) (hints := [(9, 5, { keep := [7, 8], acc := [] }), (38, 1, { keep := [0, 1, 2, 8, 9], acc := [(1002, some 0, .mat, 45)] })]) (cx_ok rfl) rdy_all2 prs_all2 bs_all2_1 (consB (fun T h => by have e : (none : Option (St → Tree)) = some T := h; cases e) nilB) (fun v => (rnd_all2_1 t_1_0_0n t_1_0_0f t_1_0_0 t_2_0_0n t_2_0_0f t_2_0_0 t_2_0_1 t_2_0_2 t_2_0_3 t_2_0_4 t8_ qI qJ qK qL qM qN qO qH v).trans (DT.go_run _ _)) (by intro j v; unfold ex_all2_1; split <;> rfl)
theorem mke_all2_1 (t_1_0_0n : OBz) (t_1_0_0f : Bool) (t_1_0_0 : Le) (t_2_0_0n : OBz) (t_2_0_0f : Bool) (t_2_0_0 : Ls) (t_2_0_1 t_2_0_2 t_2_0_3 t_2_0_4 t8_ : Int) (qI : OBz) (qJ : Bool) (qK : Ls) (qL qM qN qO qH : Int) (v : S.all2_1_V) : mk_all2_1 t_1_0_0n t_1_0_0f t_1_0_0 t_2_0_0n t_2_0_0f t_2_0_0 t_2_0_1 t_2_0_2 t_2_0_3 t_2_0_4 t8_ qI qJ qK qL qM qN qO qH v = ⟨envOf 27 [(0, V.v false [C.yld 12]), (1, V.v false [C.d (D.ref [D.sl t_1_0_0n t_1_0_0f .evt t_1_0_0])]), (2, V.v false
 [C.d
     (D.ref
      [D.sl t_2_0_0n t_2_0_0f .step t_2_0_0, D.sc (Sc.int IntKind.i64 t_2_0_1), D.sc (Sc.int IntKind.i64 t_2_0_2), D.sc (Sc.int IntKind.i64 t_2_0_3),
       D.sc (Sc.int IntKind.i64 t_2_0_4)])]), (8, (cV t8_)), (9, (cV v.t9_))], heapOf 17 [(0, some
 (Blk.box 24
  [C.d (.sl qI qJ .step qK), (cI qL), (cI qM), (cI qN),
   (cI qO)])), (2, some (Blk.box 32 [C.own 16 .mat v.h2_f 0 v.h2_l])), (7, some (Blk.box 3 [(cI qH)])), (12, some
 (Blk.lp 5
  [V.any, V.any, V.any, V.any, V.any, V.any, V.any, V.v false [C.ptr 2 0], V.v false [C.ptr 7 0], V.any, V.any, V.any, V.any, V.any, V.any, V.any, V.any, V.any, V.any, V.any,
   V.any, V.any, V.any, V.any, V.any, V.any, V.any, V.any, V.any, V.any, V.any, V.any, V.any]
  0 none)), (16, some (Blk.arr 45 .mat v.h_16))], 13⟩ := by kernel_rfl
theorem Ui_all2_1_e0 {x : V} {K : Tree} {z : Ex × St} (h : (U_all2_1_e0 x K).eval = some z) : x = V.v false [C.yld 12] ∧ (K).eval = some z := by
 unfold U_all2_1_e0 at h
 split at h
 ·exact ⟨rfl, h⟩
 ·cases h
theorem Ui_all2_1_e1 {x : V} {K : OBz → Bool → Le → Tree} {z : Ex × St} (h : (U_all2_1_e1 x K).eval = some z) : ∃ (t_1_0_0n : OBz) (t_1_0_0f : Bool) (t_1_0_0 : Le), x = V.v false [C.d (D.ref [D.sl t_1_0_0n t_1_0_0f .evt t_1_0_0])] ∧ (K t_1_0_0n t_1_0_0f t_1_0_0).eval = some z := by
 unfold U_all2_1_e1 at h
 split at h
 ·exact ⟨_, _, _, rfl, h⟩
 ·cases h
theorem Ui_all2_1_e2 {x : V} {K : OBz → Bool → Ls → Int → Int → Int → Int → Tree} {z : Ex × St} (h : (U_all2_1_e2 x K).eval = some z) : ∃ (t_2_0_0n : OBz) (t_2_0_0f : Bool) (t_2_0_0 : Ls) (t_2_0_1 t_2_0_2 t_2_0_3 t_2_0_4 : Int), x = V.v false [C.d (D.ref [D.sl t_2_0_0n t_2_0_0f .step t_2_0_0, D.sc (Sc.int IntKind.i64 t_2_0_1), D.sc (Sc.int IntKind.i64 t_2_0_2), D.sc (Sc.int IntKind.i64 t_2_0_3), D.sc (Sc.int IntKind.i64 t_2_0_4)])] ∧ (K t_2_0_0n t_2_0_0f t_2_0_0 t_2_0_1 t_2_0_2 t_2_0_3 t_2_0_4).eval = some z := by
 unfold U_all2_1_e2 at h
 split at h
 ·exact ⟨_, _, _, _, _, _, _, rfl, h⟩
 ·cases h
theorem Ui_all2_1_h2 {x : Option Blk} {K : Bool → Nat → Tree} {z : Ex × St} (h : (U_all2_1_h2 x K).eval = some z) : ∃ (h2_f : Bool) (h2_l : Nat), x = some (Blk.box 32 [C.own 16 .mat h2_f 0 h2_l]) ∧ (K h2_f h2_l).eval = some z := by
 unfold U_all2_1_h2 at h
 split at h
 ·exact ⟨_, _, rfl, h⟩
 ·cases h
theorem Ui_all2_1_h12 {x : Option Blk} {K : Tree} {z : Ex × St} (h : (U_all2_1_h12 x K).eval = some z) : x = some (Blk.lp 5 (V.any :: V.any :: V.any :: V.any :: V.any :: V.any :: V.any :: V.v false [C.ptr 2 0] :: V.v false [C.ptr 7 0] :: V.any :: V.any :: V.any :: V.any :: V.any :: V.any :: V.any :: V.any :: V.any :: V.any :: V.any :: V.any :: V.any :: V.any :: V.any :: V.any :: V.any :: V.any :: V.any :: V.any :: V.any :: V.any :: V.any :: V.any :: []) 0 none) ∧ (K).eval = some z := by
 unfold U_all2_1_h12 at h
 split at h
 ·exact ⟨rfl, h⟩
 ·cases h
theorem lo1_all2_1 (e0 e1 e2 e8 e9 : V) (h0 h2 h7 h12 h16 : Option Blk) e st2 (h : (T1_all2_1 e0 e1 e2 e8 e9 h0 h2 h7 h12 h16).eval = some (e, st2)) : Circles Tryz.prog cx_all2 b_all2_1 ⟨envOf 27 [(0, e0), (1, e1), (2, e2), (8, e8), (9, e9)], heapOf 17 [(0, h0), (2, h2), (7, h7), (12, h12), (16, h16)], 13⟩ e st2 := by
 unfold T1_all2_1 at h
 obtain ⟨rfl, h⟩ := Ui_all2_1_e0 h
 obtain ⟨t_1_0_0n, t_1_0_0f, t_1_0_0, rfl, h⟩ := Ui_all2_1_e1 h
 obtain ⟨t_2_0_0n, t_2_0_0f, t_2_0_0, t_2_0_1, t_2_0_2, t_2_0_3, t_2_0_4, rfl, h⟩ := Ui_all2_1_e2 h
 obtain ⟨t8_, rfl, h⟩ := Uz3i h
 obtain ⟨t9_, rfl, h⟩ := Uz3i h
 obtain ⟨qI, qJ, qK, qL, qM, qN, qO, rfl, h⟩ := Uz9i h
 obtain ⟨h2_f, h2_l, rfl, h⟩ := Ui_all2_1_h2 h
 obtain ⟨qH, rfl, h⟩ := Uz5i h
 obtain ⟨rfl, h⟩ := Ui_all2_1_h12 h
 obtain ⟨h_16, rfl, h⟩ := Uz7i h
 have := loop_tree (mk := mk_all2_1 t_1_0_0n t_1_0_0f t_1_0_0 t_2_0_0n t_2_0_0f t_2_0_0 t_2_0_1 t_2_0_2 t_2_0_3 t_2_0_4 t8_ qI qJ qK qL qM qN qO qH) (ci_all2_1 t_1_0_0n t_1_0_0f t_1_0_0 t_2_0_0n t_2_0_0f t_2_0_0 t_2_0_1 t_2_0_2 t_2_0_3 t_2_0_4 t8_ qI qJ qK qL qM qN qO qH) _ _ e st2 h
 rw [mke_all2_1] at this
 exact this
theorem lok_all2_1 : LoopOk Tryz.prog cx_all2 b_all2_1 T_all2_1 := by
 intro st e st2 h
 unfold T_all2_1 at h
 cases hk : okSt 27 17 13 [0, 2, 7, 12, 16] st with
 | false => rw [hk] at h; cases h
 | true =>
  rw [hk] at h
  exact circles_keep (ks := [0, 1, 2, 8, 9]) hk (lo1_all2_1 _ _ _ _ _ _ _ _ _ _ e st2 h)
structure S.all2_T where
 x0 : Lm
 x1 : Bool
 x2 : Nat
 deriving Inhabited
def S.all2_R (a0_0n : OBz) (a0_0f : Bool) (a0_0 : Ls) (a0_1 a0_2 a0_3 a0_4 : Int) (a1n : OBz) (a1f : Bool) (a1 : Le) (a2 : Int) : DT S.all2_T :=
let y0 := S.zpzf_o a0_0n a0_0f a0_0 a0_1 a0_2 a0_3 a0_4 a1n a1f a1
let y1 := y0.x2
let y2 := y0.x5
let y3 := y0.x6
let y4 := y0.x7
let y5 := y0.x8
let y6 := y0.x9
let y7 : Int := (↑y1.length : Int)
let y8 : Int := (S.zjsn_o a0_0 a0_1 a0_2 a0_3 a0_4 a1 a2).x0
let y9 : S.all2_1_V := { t9_ := 0, h2_f := true, h2_l := 0, h_16 := [] : S.all2_1_V }
let y10 := S.all2_1_v y1 y2 y3 y4 y5 y6 y7 y8 y9
let y11 := y10.h2_l
let y12 := y10.h_16
(.br (S.zjsn_is a0_0 a0_1 a0_2 a0_3 a0_4 a1 a2)
(.br (S.all2_1_j y1 y2 y3 y4 y5 y6 y7 y8 y9 0)
(.br (xdec (y11 = y12.length) && S.sort2_is y12)
(.leaf ⟨(S.sort2_o y12).x0, y10.h2_f, y11⟩)
.fail)
.fail)
.fail)
def S.all2 (a0_0n : OBz) (a0_0f : Bool) (a0_0 : Ls) (a0_1 a0_2 a0_3 a0_4 : Int) (a1n : OBz) (a1f : Bool) (a1 : Le) (a2 : Int) : Option S.all2_T := (S.all2_R a0_0n a0_0f a0_0 a0_1 a0_2 a0_3 a0_4 a1n a1f a1 a2).run
def S.all2_is (a0_0n : OBz) (a0_0f : Bool) (a0_0 : Ls) (a0_1 a0_2 a0_3 a0_4 : Int) (a1n : OBz) (a1f : Bool) (a1 : Le) (a2 : Int) : Bool := (S.all2 a0_0n a0_0f a0_0 a0_1 a0_2 a0_3 a0_4 a1n a1f a1 a2).isSome
def S.all2_o (a0_0n : OBz) (a0_0f : Bool) (a0_0 : Ls) (a0_1 a0_2 a0_3 a0_4 : Int) (a1n : OBz) (a1f : Bool) (a1 : Le) (a2 : Int) : S.all2_T := (S.all2 a0_0n a0_0f a0_0 a0_1 a0_2 a0_3 a0_4 a1n a1f a1 a2).getD default
def ret_all2 (b : Bool) (r : S.all2_T) : Ret := ⟨b, some (45, (⟨.mat, r.x0⟩ : (t : ET) × List (Ty t))), [(false, [C.own 0 .mat r.x1 0 r.x2])]⟩
def g_all2 : Con
 | [(true, [.sl a0_0n a0_0f .step a0_0, .sc (.int .i64 a0_1), .sc (.int .i64 a0_2), .sc (.int .i64 a0_3), .sc (.int .i64 a0_4)]), (false, [.sl a1n a1f .evt a1]), (false, [.sc (.int .i64 a2)])] => some (ret_all2 (S.all2_is a0_0n a0_0f a0_0 a0_1 a0_2 a0_3 a0_4 a1n a1f a1 a2) (S.all2_o a0_0n a0_0f a0_0 a0_1 a0_2 a0_3 a0_4 a1n a1f a1 a2))
 | _ => none
theorem raw_all2 (a0_0n : OBz) (a0_0f : Bool) (a0_0 : Ls) (a0_1 a0_2 a0_3 a0_4 : Int) (a1n : OBz) (a1f : Bool) (a1 : Le) (a2 : Int) : evR4 cx_all2 (hdT cx_all2 (find [(1, T_all2_1)]) [(38, Tryz.f38)] none 3) none Tryz.f9 9 (some 45) [(true, [.sl a0_0n a0_0f .step a0_0, dI a0_1, dI a0_2, dI a0_3, dI a0_4]), (false, [.sl a1n a1f .evt a1]), (false, [dI a2])] some = (S.all2_R a0_0n a0_0f a0_0 a0_1 a0_2 a0_3 a0_4 a1n a1f a1 a2).go (ret_all2 true) := by kernel_rfl
theorem bs_all2 : loopsIn Tryz.f9 [(38, Tryz.f38)] ++ loopsRf [(5, rfAt 9 Tryz.f9)] = [b_all2_1] := by kernel_rfl
theorem all2_ok : Stands Tryz.prog tyTab 9 g_all2 := by
 refine stands4 (L := find [(1, T_all2_1)]) (n := 3) (hints := [(9, 5, { keep := [7, 8], acc := [] }), (38, 1, { keep := [0, 1, 2, 8, 9], acc := [(1002, some 0, .mat, 45)] })]) (cx_ok rfl) rdy_all2 prs_all2 ⟨by kernel_rfl, by kernel_rfl, by kernel_rfl⟩ (rfsOk_one (by kernel_rfl) (by kernel_rfl)) bs_all2 (consB (fun T h => by have e : T_all2_1 = T := Option.some.inj (show some T_all2_1 = some T from h); exact e ▸ lok_all2_1) nilB) (fun das r hG hr => ?_)
 unfold g_all2 at hG
 split at hG
 ·rename_i a0_0n a0_0f a0_0 a0_1 a0_2 a0_3 a0_4 a1n a1f a1 a2
  injection hG with hG; subst hG
  exact ⟨(some 45), true, win default ((raw_all2 a0_0n a0_0f a0_0 a0_1 a0_2 a0_3 a0_4 a1n a1f a1 a2).trans (DT.go_run _ _)) hr⟩
 ·cases hG
end
end Go.Eng
