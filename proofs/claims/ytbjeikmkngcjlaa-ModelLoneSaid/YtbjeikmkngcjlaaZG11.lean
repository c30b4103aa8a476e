/- Contracts, laid by program. -/
import Derived.Test.YtbjeikmkngcjlaaZG10
set_option maxHeartbeats 2000000
set_option maxRecDepth 10000
set_option linter.unusedVariables false
namespace Go.Eng
noncomputable section
open Go Go.Eng Go.Proofs Go.Eng.Tab
abbrev cx_endCmp : Cx := mkCx2 tyTab [(115, g_zlpd)] [] [] []
theorem rdy_endCmp : Ready Try.prog tyTab [(115, g_zlpd)] [] [] := ⟨consG2 zlpd_ok (noneG2), noneI2, noneF2⟩
structure S.endCmp_T where
 x0 : Int
 deriving Inhabited
def S.endCmp_R (a0_1 : Int) (a1_1 : Int) : DT S.endCmp_T :=
(.br (S.zlpd_is a0_1 a1_1)
(.leaf ⟨(S.zlpd_o a0_1 a1_1).x0⟩)
.fail)
def S.endCmp (a0_1 : Int) (a1_1 : Int) : Option S.endCmp_T := (S.endCmp_R a0_1 a1_1).run
def S.endCmp_is (a0_1 : Int) (a1_1 : Int) : Bool := (S.endCmp a0_1 a1_1).isSome
def S.endCmp_o (a0_1 : Int) (a1_1 : Int) : S.endCmp_T := (S.endCmp a0_1 a1_1).getD default
def ret_endCmp (b : Bool) (r : S.endCmp_T) : Ret := ⟨b, none, [(false, [C.d (.sc (.int .i64 r.x0))])]⟩
def g_endCmp : Con
 | [(true, [.sc (.int .i64 a0_0), .sc (.int .i64 a0_1), .sc (.int .i64 a0_2), .sc (.bool a0_3)]), (true, [.sc (.int .i64 a1_0), .sc (.int .i64 a1_1), .sc (.int .i64 a1_2), .sc (.bool a1_3)])] => some (ret_endCmp (S.endCmp_is a0_1 a1_1) (S.endCmp_o a0_1 a1_1))
 | _ => none
theorem raw_endCmp (a0_0 : Int) (a0_1 : Int) (a0_2 : Int) (a0_3 : Bool) (a1_0 : Int) (a1_1 : Int) (a1_2 : Int) (a1_3 : Bool) : evR2 cx_endCmp (hdI cx_endCmp (find []) [] none 0) none Try.f114 114 none [(true, [.sc (.int .i64 a0_0), .sc (.int .i64 a0_1), .sc (.int .i64 a0_2), .sc (.bool a0_3)]), (true, [.sc (.int .i64 a1_0), .sc (.int .i64 a1_1), .sc (.int .i64 a1_2), .sc (.bool a1_3)])] some = (S.endCmp_R a0_1 a1_1).go (ret_endCmp true) := by kernel_rfl
theorem bs_endCmp : loopsIn Try.f114 [] = [] := by kernel_rfl
theorem endCmp_ok : Stands Try.prog tyTab 114 g_endCmp := by
 refine stands3 (L := find []) (n := 0) (hints := []) (cx_ok rfl) rdy_endCmp ⟨by kernel_rfl, by kernel_rfl, by kernel_rfl⟩ bs_endCmp nilB (fun das r hG hr => ?_)
 unfold g_endCmp at hG
 split at hG
 ·rename_i a0_0 a0_1 a0_2 a0_3 a1_0 a1_1 a1_2 a1_3
  injection hG with hG; subst hG
  exact ⟨none, true, win default ((raw_endCmp a0_0 a0_1 a0_2 a0_3 a1_0 a1_1 a1_2 a1_3).trans (DT.go_run _ _)) hr⟩
 ·cases hG
abbrev cx_zztx : Cx := mkCx3 tyTab [(114, g_endCmp)] [] [(159, 4, { keep := [0, 1, 2, 3, 8, 9], acc := [] }), (159, 1, { keep := [0, 1, 2, 3, 8], acc := [] })] [] [] []
theorem rdy_zztx : Ready Try.prog tyTab [(114, g_endCmp)] [] [] := ⟨consG2 endCmp_ok (noneG2), noneI2, noneF2⟩
theorem prs_zztx : PrsOk Try.prog tyTab [] := noneP
structure S.zztx_4_V where
 t9_ : Int
 h_0 : List (Ty .mat)
def S.zztx_4_R (t0_l : Nat) (qA : Int) (v : S.zztx_4_V) : DT (Option Nat × S.zztx_4_V) :=
let y0 : Int := (↑t0_l : Int)
let y1 : Bool := xdec (0 ≤ v.t9_) && xdec (v.t9_ < y0)
let y2 : Nat := 0 + v.t9_.toNat
let y3 : Nat := v.h_0.length
let y4 : Bool := xdec (y2 < y3)
let y5 : Int := xwrap .i64 (v.t9_ - 1)
let y6 : Bool := xdec (0 ≤ y5) && xdec (y5 < y0)
let y7 : Nat := 0 + y5.toNat
let y8 : Bool := xdec (y7 < y3)
let y9 : Ty .mat := v.h_0.getD y2 (dflt .mat)
let y10 : Int := y9.fin
let y11 : Ty .mat := v.h_0.getD y7 (dflt .mat)
let y12 : Int := y11.fin
let y13 : List (Ty .mat) := v.h_0.set y2 { start := y11.start, fin := y12, agg := y11.agg, bad := y11.bad : Mat }
(.br (xdec (v.t9_ > qA))
(.br (y1)
(.br (y4)
(.br (y6)
(.br (y8)
(.br (S.endCmp_is y10 y12)
(.br (xdec ((S.endCmp_o y10 y12).x0 < 0))
(.br (y6)
(.br (y8)
(.br (y1)
(.br (y4)
(.br (y1)
(.br (y4)
(.br (y6)
(.br (xdec (y7 < y13.length))
(.leaf (none, ⟨y5, y13.set y7 { start := y9.start, fin := y10, agg := y9.agg, bad := y9.bad : Mat }⟩))
.fail)
.fail)
.fail)
.fail)
.fail)
.fail)
.fail)
.fail)
(.leaf (some 0, v)))
.fail)
.fail)
.fail)
.fail)
.fail)
(.leaf (some 0, v)))
def S.zztx_4_r (t0_l : Nat) (qA : Int) (v : S.zztx_4_V) : Option (Option Nat × S.zztx_4_V) := (S.zztx_4_R t0_l qA v).run
def S.zztx_4_j (t0_l : Nat) (qA : Int) (v : S.zztx_4_V) (j : Nat) : Bool := Lp_j (S.zztx_4_r t0_l qA) v j
def S.zztx_4_v (t0_l : Nat) (qA : Int) (v : S.zztx_4_V) : S.zztx_4_V := Lp_v (S.zztx_4_r t0_l qA) v
def mk_zztx_4 (qB : Bool) (t0_l : Nat) (qA : Int) (qC : Int) (t8_ : Int) (v : S.zztx_4_V) : St := ⟨(V.v false [C.own 0 .mat qB 0 t0_l] :: ((cV qA) :: ((cV qC) :: (V.v false [C.d (D.fn 114 [] [])] :: (vs 4 ((cV t8_) :: ((cV v.t9_) :: (vs 43 [])))))))), (some (Blk.arr 81 .mat v.h_0) :: (ns 8 [])), 1⟩
def ex_zztx_4 (qB : Bool) (t0_l : Nat) (qA : Int) (qC : Int) (t8_ : Int) (j : Nat) (v : S.zztx_4_V) : Ex × St := match j with
 | 0 => (Ex.exit 2, ⟨(V.v false [C.own 0 .mat qB 0 t0_l] :: ((cV qA) :: ((cV qC) :: (V.v false [C.d (D.fn 114 [] [])] :: (vs 4 ((cV t8_) :: (vs 44 []))))))), (some (Blk.arr 81 .mat v.h_0) :: (ns 25 [])), 1⟩)
 | _ => (.ret, ⟨[], [], 0⟩)
def T1_zztx_4 : V → V → V → V → V → V → Option Blk → Tree
 | V.v false [C.own 0 .mat qB 0 t0_l], V.v false [C.d (.sc (.int .i64 qA))], V.v false [C.d (.sc (.int .i64 qC))], V.v false [C.d (D.fn 114 [] [])], V.v false [C.d (.sc (.int .i64 t8_))], V.v false [C.d (.sc (.int .i64 t9_))], some (Blk.arr 81 .mat h_0) => exT (fun j => ex_zztx_4 qB t0_l qA qC t8_ j (S.zztx_4_v t0_l qA ⟨t9_, h_0⟩)) (S.zztx_4_j t0_l qA ⟨t9_, h_0⟩) [0]
 | _, _, _, _, _, _, _ => .bad
def T_zztx_4 (st : St) : Tree := bif okSt 53 9 1 [0] st then T1_zztx_4 (st.env.getD 0 .any) (st.env.getD 1 .any) (st.env.getD 2 .any) (st.env.getD 3 .any) (st.env.getD 8 .any) (st.env.getD 9 .any) (lk st.heap 0) else .bad
def b_zztx_4 : Code := loopBy Try.f159 4
theorem rnd_zztx_4 (qB : Bool) (t0_l : Nat) (qA : Int) (qC : Int) (t8_ : Int) (v : S.zztx_4_V) : round2 cx_zztx (hdI cx_zztx (find []) [] none 0) 159 b_zztx_4 [] 9 [0, 1, 2, 3, 8] (mk_zztx_4 qB t0_l qA qC t8_ v) = (S.zztx_4_R t0_l qA v).go (roundOut (mk_zztx_4 qB t0_l qA qC t8_) (ex_zztx_4 qB t0_l qA qC t8_)) := by kernel_rfl
theorem bs_zztx_4 : loopsOf b_zztx_4 ++ loopsInl [] ++ loopsRf [] = [] := by kernel_rfl
theorem ci_zztx_4 (qB : Bool) (t0_l : Nat) (qA : Int) (qC : Int) (t8_ : Int) : ∀ v j v2, Lp (S.zztx_4_r t0_l qA) v = some (j, v2) → Circles Try.prog cx_zztx b_zztx_4 (mk_zztx_4 qB t0_l qA qC t8_ v) (ex_zztx_4 qB t0_l qA qC t8_ j v2).1 (ex_zztx_4 qB t0_l qA qC t8_ j v2).2 :=
 loop_ok3 (L := find []) (n := 0) (hints := [(159, 4, { keep := [0, 1, 2, 3, 8, 9], acc := [] }), (159, 1, { keep := [0, 1, 2, 3, 8], acc := [] })]) (cx_ok rfl) rdy_zztx prs_zztx bs_zztx_4 nilB (fun v => (rnd_zztx_4 qB t0_l qA qC t8_ v).trans (DT.go_run _ _)) (by intro j v; unfold ex_zztx_4; split <;> rfl)
theorem mke_zztx_4 (qB : Bool) (t0_l : Nat) (qA : Int) (qC : Int) (t8_ : Int) (v : S.zztx_4_V) : mk_zztx_4 qB t0_l qA qC t8_ v = ⟨envOf 53 [(0, V.v false [C.own 0 .mat qB 0 t0_l]), (1, (cV qA)), (2, (cV qC)), (3, V.v false [C.d (D.fn 114 [] [])]), (8, (cV t8_)), (9, (cV v.t9_))], heapOf 9 [(0, some (Blk.arr 81 .mat v.h_0))], 1⟩ := by kernel_rfl
theorem lo1_zztx_4 (e0 : V) (e1 : V) (e2 : V) (e3 : V) (e8 : V) (e9 : V) (h0 : Option Blk) e st2 (h : (T1_zztx_4 e0 e1 e2 e3 e8 e9 h0).eval = some (e, st2)) : Circles Try.prog cx_zztx b_zztx_4 ⟨envOf 53 [(0, e0), (1, e1), (2, e2), (3, e3), (8, e8), (9, e9)], heapOf 9 [(0, h0)], 1⟩ e st2 := by
 unfold T1_zztx_4 at h
 split at h
 ·have := loop_tree (mk := mk_zztx_4 _ _ _ _ _) (ci_zztx_4 _ _ _ _ _) _ _ e st2 h
  rw [mke_zztx_4] at this
  exact this
 ·cases h
theorem lok_zztx_4 : LoopOk Try.prog cx_zztx b_zztx_4 T_zztx_4 := by
 intro st e st2 h
 unfold T_zztx_4 at h
 cases hk : okSt 53 9 1 [0] st with
 | false => rw [hk] at h; cases h
 | true =>
  rw [hk] at h
  exact circles_keep (ks := [0, 1, 2, 3, 8, 9]) hk (lo1_zztx_4 _ _ _ _ _ _ _ e st2 h)
structure S.zztx_1_V where
 t8_ : Int
 h_0 : List (Ty .mat)
def S.zztx_1_R (t0_l : Nat) (qA : Int) (qC : Int) (v : S.zztx_1_V) : DT (Option Nat × S.zztx_1_V) :=
(.br (xdec (v.t8_ < qC))
(.br (S.zztx_4_j t0_l qA { t9_ := v.t8_, h_0 := v.h_0 : S.zztx_4_V } 0)
(.leaf (none, ⟨xwrap .i64 (v.t8_ + 1), (S.zztx_4_v t0_l qA { t9_ := v.t8_, h_0 := v.h_0 : S.zztx_4_V }).h_0⟩))
.fail)
(.leaf (some 0, v)))
def S.zztx_1_r (t0_l : Nat) (qA : Int) (qC : Int) (v : S.zztx_1_V) : Option (Option Nat × S.zztx_1_V) := (S.zztx_1_R t0_l qA qC v).run
def S.zztx_1_j (t0_l : Nat) (qA : Int) (qC : Int) (v : S.zztx_1_V) (j : Nat) : Bool := Lp_j (S.zztx_1_r t0_l qA qC) v j
def S.zztx_1_v (t0_l : Nat) (qA : Int) (qC : Int) (v : S.zztx_1_V) : S.zztx_1_V := Lp_v (S.zztx_1_r t0_l qA qC) v
def mk_zztx_1 (qB : Bool) (t0_l : Nat) (qA : Int) (qC : Int) (v : S.zztx_1_V) : St := ⟨(V.v false [C.own 0 .mat qB 0 t0_l] :: ((cV qA) :: ((cV qC) :: (V.v false [C.d (D.fn 114 [] [])] :: (vs 4 ((cV v.t8_) :: (vs 44 []))))))), (some (Blk.arr 81 .mat v.h_0) :: (ns 3 [])), 1⟩
def ex_zztx_1 (qB : Bool) (t0_l : Nat) (qA : Int) (qC : Int) (j : Nat) (v : S.zztx_1_V) : Ex × St := match j with
 | 0 => (Ex.exit 0, ⟨(vs 53 []), (some (Blk.arr 81 .mat v.h_0) :: (ns 6 [])), 1⟩)
 | _ => (.ret, ⟨[], [], 0⟩)
def T1_zztx_1 : V → V → V → V → V → Option Blk → Tree
 | V.v false [C.own 0 .mat qB 0 t0_l], V.v false [C.d (.sc (.int .i64 qA))], V.v false [C.d (.sc (.int .i64 qC))], V.v false [C.d (D.fn 114 [] [])], V.v false [C.d (.sc (.int .i64 t8_))], some (Blk.arr 81 .mat h_0) => exT (fun j => ex_zztx_1 qB t0_l qA qC j (S.zztx_1_v t0_l qA qC ⟨t8_, h_0⟩)) (S.zztx_1_j t0_l qA qC ⟨t8_, h_0⟩) [0]
 | _, _, _, _, _, _ => .bad
def T_zztx_1 (st : St) : Tree := bif okSt 53 4 1 [0] st then T1_zztx_1 (st.env.getD 0 .any) (st.env.getD 1 .any) (st.env.getD 2 .any) (st.env.getD 3 .any) (st.env.getD 8 .any) (lk st.heap 0) else .bad
def b_zztx_1 : Code := loopBy Try.f159 1
theorem rnd_zztx_1 (qB : Bool) (t0_l : Nat) (qA : Int) (qC : Int) (v : S.zztx_1_V) : round2 cx_zztx (hdI cx_zztx (find [(4, T_zztx_4)]) [] none 0) 159 b_zztx_1 [] 4 [] (mk_zztx_1 qB t0_l qA qC v) = (S.zztx_1_R t0_l qA qC v).go (roundOut (mk_zztx_1 qB t0_l qA qC) (ex_zztx_1 qB t0_l qA qC)) := by kernel_rfl
theorem bs_zztx_1 : loopsOf b_zztx_1 ++ loopsInl [] ++ loopsRf [] = [b_zztx_4] := by kernel_rfl
theorem ci_zztx_1 (qB : Bool) (t0_l : Nat) (qA : Int) (qC : Int) : ∀ v j v2, Lp (S.zztx_1_r t0_l qA qC) v = some (j, v2) → Circles Try.prog cx_zztx b_zztx_1 (mk_zztx_1 qB t0_l qA qC v) (ex_zztx_1 qB t0_l qA qC j v2).1 (ex_zztx_1 qB t0_l qA qC j v2).2 :=
 loop_ok3 (L := find [(4, T_zztx_4)]) (n := 0) (hints := [(159, 4, { keep := [0, 1, 2, 3, 8, 9], acc := [] }), (159, 1, { keep := [0, 1, 2, 3, 8], acc := [] })]) (cx_ok rfl) rdy_zztx prs_zztx bs_zztx_1 (consB (fun T h => by have e : T_zztx_4 = T := Option.some.inj (show some T_zztx_4 = some T from h); exact e ▸ lok_zztx_4) nilB) (fun v => (rnd_zztx_1 qB t0_l qA qC v).trans (DT.go_run _ _)) (by intro j v; unfold ex_zztx_1; split <;> rfl)
theorem mke_zztx_1 (qB : Bool) (t0_l : Nat) (qA : Int) (qC : Int) (v : S.zztx_1_V) : mk_zztx_1 qB t0_l qA qC v = ⟨envOf 53 [(0, V.v false [C.own 0 .mat qB 0 t0_l]), (1, (cV qA)), (2, (cV qC)), (3, V.v false [C.d (D.fn 114 [] [])]), (8, (cV v.t8_))], heapOf 4 [(0, some (Blk.arr 81 .mat v.h_0))], 1⟩ := by kernel_rfl
theorem lo1_zztx_1 (e0 : V) (e1 : V) (e2 : V) (e3 : V) (e8 : V) (h0 : Option Blk) e st2 (h : (T1_zztx_1 e0 e1 e2 e3 e8 h0).eval = some (e, st2)) : Circles Try.prog cx_zztx b_zztx_1 ⟨envOf 53 [(0, e0), (1, e1), (2, e2), (3, e3), (8, e8)], heapOf 4 [(0, h0)], 1⟩ e st2 := by
 unfold T1_zztx_1 at h
 split at h
 ·have := loop_tree (mk := mk_zztx_1 _ _ _ _) (ci_zztx_1 _ _ _ _) _ _ e st2 h
  rw [mke_zztx_1] at this
  exact this
 ·cases h
theorem lok_zztx_1 : LoopOk Try.prog cx_zztx b_zztx_1 T_zztx_1 := by
 intro st e st2 h
 unfold T_zztx_1 at h
 cases hk : okSt 53 4 1 [0] st with
 | false => rw [hk] at h; cases h
 | true =>
  rw [hk] at h
  exact circles_keep (ks := [0, 1, 2, 3, 8]) hk (lo1_zztx_1 _ _ _ _ _ _ e st2 h)
structure S.zztx_T where
 x0 : List (Ty .mat)
 deriving Inhabited
def S.zztx_R (a0 : List (Ty .mat)) (a1 : Int) (a2 : Int) : DT S.zztx_T :=
let y0 : Nat := a0.length
let y1 : S.zztx_1_V := { t8_ := xwrap .i64 (a1 + 1), h_0 := a0 : S.zztx_1_V }
(.br (S.zztx_1_j y0 a1 a2 y1 0)
(.leaf ⟨(S.zztx_1_v y0 a1 a2 y1).h_0⟩)
.fail)
def S.zztx (a0 : List (Ty .mat)) (a1 : Int) (a2 : Int) : Option S.zztx_T := (S.zztx_R a0 a1 a2).run
def S.zztx_is (a0 : List (Ty .mat)) (a1 : Int) (a2 : Int) : Bool := (S.zztx a0 a1 a2).isSome
def S.zztx_o (a0 : List (Ty .mat)) (a1 : Int) (a2 : Int) : S.zztx_T := (S.zztx a0 a1 a2).getD default
def ret_zztx (b : Bool) (r : S.zztx_T) : Ret := ⟨b, some (81, (⟨.mat, r.x0⟩ : (t : ET) × List (Ty t))), []⟩
def si_zztx (a0f : Bool) (a0 : List (Ty .mat)) : List DArg → Bool
 | [(false, [.sc (.int .i64 a1)]), (false, [.sc (.int .i64 a2)]), (false, [.fn 114 [] []])] => S.zztx_is a0 a1 a2
 | _ => false
def so_zztx (a0f : Bool) (a0 : List (Ty .mat)) : List DArg → List (Ty .mat)
 | [(false, [.sc (.int .i64 a1)]), (false, [.sc (.int .i64 a2)]), (false, [.fn 114 [] []])] => (S.zztx_o a0 a1 a2).x0
 | _ => a0
def p_zztx : Proc := rowProc 81 .mat si_zztx so_zztx
theorem raw_zztx (a0f : Bool) (a0 : List (Ty .mat)) (a1 : Int) (a2 : Int) : evP cx_zztx (hdI cx_zztx (find [(4, T_zztx_4), (1, T_zztx_1)]) [] none 0) none Try.f159 159 (some 81) [(false, [.sl none a0f .mat a0]), (false, [.sc (.int .i64 a1)]), (false, [.sc (.int .i64 a2)]), (false, [.fn 114 [] []])] some = (S.zztx_R a0 a1 a2).go (ret_zztx true) := by kernel_rfl
theorem bs_zztx : loopsIn Try.f159 [] = [b_zztx_1] := by kernel_rfl
theorem zztx_ok : StandsP Try.prog tyTab 159 p_zztx := by
 refine standsP (L := find [(4, T_zztx_4), (1, T_zztx_1)]) (n := 0) (hints := [(159, 4, { keep := [0, 1, 2, 3, 8, 9], acc := [] }), (159, 1, { keep := [0, 1, 2, 3, 8], acc := [] })]) (cx_ok rfl) rdy_zztx prs_zztx ⟨by kernel_rfl, by kernel_rfl, by kernel_rfl⟩ bs_zztx (consB (fun T h => by have e : T_zztx_1 = T := Option.some.inj (show some T_zztx_1 = some T from h); exact e ▸ lok_zztx_1) nilB) (by kernel_rfl) rfl (fun a0f a0 ds h => ?_)
 unfold si_zztx at h
 split at h
 ·rename_i a1 a2
  exact ⟨true, win default ((raw_zztx a0f a0 a1 a2).trans (DT.go_run _ _)) h⟩
 ·cases h
abbrev cx_zuks : Cx := mkCx3 tyTab [(114, g_endCmp)] [] [(141, 9, { keep := [0, 1, 2, 6, 7, 8], acc := [] }), (141, 7, { keep := [0, 1, 2, 6], acc := [] }), (141, 2, { keep := [0, 1, 2, 6, 7, 8], acc := [] })] [] [] [(159, (Try.f159, p_zztx))]
theorem rdy_zuks : Ready Try.prog tyTab [(114, g_endCmp)] [] [] := ⟨consG2 endCmp_ok (noneG2), noneI2, noneF2⟩
theorem prs_zuks : PrsOk Try.prog tyTab [(159, (Try.f159, p_zztx))] := consP ⟨by kernel_rfl, by kernel_rfl, by kernel_rfl⟩ zztx_ok (noneP)
structure S.zuks_2_V where
 t7_ : Int
 t8_ : Int
 h_0 : List (Ty .mat)
def S.zuks_2_R (t0_l : Nat) (qA : Int) (t6_ : Int) (v : S.zuks_2_V) : DT (Option Nat × S.zuks_2_V) :=
(.br (xdec (v.t8_ ≤ qA))
(.br (xdec (t0_l = v.h_0.length) && S.zztx_is v.h_0 v.t7_ v.t8_)
(.leaf (none, ⟨v.t8_, xwrap .i64 (v.t8_ + t6_), (S.zztx_o v.h_0 v.t7_ v.t8_).x0⟩))
.fail)
(.leaf (some 0, v)))
def S.zuks_2_r (t0_l : Nat) (qA : Int) (t6_ : Int) (v : S.zuks_2_V) : Option (Option Nat × S.zuks_2_V) := (S.zuks_2_R t0_l qA t6_ v).run
def S.zuks_2_j (t0_l : Nat) (qA : Int) (t6_ : Int) (v : S.zuks_2_V) (j : Nat) : Bool := Lp_j (S.zuks_2_r t0_l qA t6_) v j
def S.zuks_2_v (t0_l : Nat) (qA : Int) (t6_ : Int) (v : S.zuks_2_V) : S.zuks_2_V := Lp_v (S.zuks_2_r t0_l qA t6_) v
def mk_zuks_2 (qB : Bool) (t0_l : Nat) (qA : Int) (t6_ : Int) (v : S.zuks_2_V) : St := ⟨(V.v false [C.own 0 .mat qB 0 t0_l] :: ((cV qA) :: (V.v false [C.d (D.fn 114 [] [])] :: (vs 3 ((cV t6_) :: ((cV v.t7_) :: ((cV v.t8_) :: (vs 54 [])))))))), (some (Blk.arr 81 .mat v.h_0) :: (ns 4 [])), 1⟩
def ex_zuks_2 (qB : Bool) (t0_l : Nat) (qA : Int) (t6_ : Int) (j : Nat) (v : S.zuks_2_V) : Ex × St := match j with
 | 0 => (Ex.exit 0, ⟨(V.v false [C.own 0 .mat qB 0 t0_l] :: ((cV qA) :: (V.v false [C.d (D.fn 114 [] [])] :: (vs 3 ((cV t6_) :: ((cV v.t7_) :: (vs 55 []))))))), (some (Blk.arr 81 .mat v.h_0) :: (ns 7 [])), 1⟩)
 | _ => (.ret, ⟨[], [], 0⟩)
def T1_zuks_2 : V → V → V → V → V → V → Option Blk → Tree
 | V.v false [C.own 0 .mat qB 0 t0_l], V.v false [C.d (.sc (.int .i64 qA))], V.v false [C.d (D.fn 114 [] [])], V.v false [C.d (.sc (.int .i64 t6_))], V.v false [C.d (.sc (.int .i64 t7_))], V.v false [C.d (.sc (.int .i64 t8_))], some (Blk.arr 81 .mat h_0) => exT (fun j => ex_zuks_2 qB t0_l qA t6_ j (S.zuks_2_v t0_l qA t6_ ⟨t7_, t8_, h_0⟩)) (S.zuks_2_j t0_l qA t6_ ⟨t7_, t8_, h_0⟩) [0]
 | _, _, _, _, _, _, _ => .bad
def T_zuks_2 (st : St) : Tree := bif okSt 63 5 1 [0] st then T1_zuks_2 (st.env.getD 0 .any) (st.env.getD 1 .any) (st.env.getD 2 .any) (st.env.getD 6 .any) (st.env.getD 7 .any) (st.env.getD 8 .any) (lk st.heap 0) else .bad
def b_zuks_2 : Code := loopBy Try.f141 2
theorem rnd_zuks_2 (qB : Bool) (t0_l : Nat) (qA : Int) (t6_ : Int) (v : S.zuks_2_V) : round2 cx_zuks (hdI cx_zuks (find []) [] none 3) 141 b_zuks_2 [] 5 [0, 1, 2, 6, 7] (mk_zuks_2 qB t0_l qA t6_ v) = (S.zuks_2_R t0_l qA t6_ v).go (roundOut (mk_zuks_2 qB t0_l qA t6_) (ex_zuks_2 qB t0_l qA t6_)) := by kernel_rfl
theorem bs_zuks_2 : loopsOf b_zuks_2 ++ loopsInl [] ++ loopsRf [] = [] := by kernel_rfl
theorem ci_zuks_2 (qB : Bool) (t0_l : Nat) (qA : Int) (t6_ : Int) : ∀ v j v2, Lp (S.zuks_2_r t0_l qA t6_) v = some (j, v2) → Circles Try.prog cx_zuks b_zuks_2 (mk_zuks_2 qB t0_l qA t6_ v) (ex_zuks_2 qB t0_l qA t6_ j v2).1 (ex_zuks_2 qB t0_l qA t6_ j v2).2 :=
 loop_ok3 (L := find []) (n := 3) (hints := [(141, 9, { keep := [0, 1, 2, 6, 7, 8], acc := [] }), (141, 7, { keep := [0, 1, 2, 6], acc := [] }), (141, 2, { keep := [0, 1, 2, 6, 7, 8], acc := [] })]) (cx_ok rfl) rdy_zuks prs_zuks bs_zuks_2 nilB (fun v => (rnd_zuks_2 qB t0_l qA t6_ v).trans (DT.go_run _ _)) (by intro j v; unfold ex_zuks_2; split <;> rfl)
theorem mke_zuks_2 (qB : Bool) (t0_l : Nat) (qA : Int) (t6_ : Int) (v : S.zuks_2_V) : mk_zuks_2 qB t0_l qA t6_ v = ⟨envOf 63 [(0, V.v false [C.own 0 .mat qB 0 t0_l]), (1, (cV qA)), (2, V.v false [C.d (D.fn 114 [] [])]), (6, (cV t6_)), (7, (cV v.t7_)), (8, (cV v.t8_))], heapOf 5 [(0, some (Blk.arr 81 .mat v.h_0))], 1⟩ := by kernel_rfl
theorem lo1_zuks_2 (e0 : V) (e1 : V) (e2 : V) (e6 : V) (e7 : V) (e8 : V) (h0 : Option Blk) e st2 (h : (T1_zuks_2 e0 e1 e2 e6 e7 e8 h0).eval = some (e, st2)) : Circles Try.prog cx_zuks b_zuks_2 ⟨envOf 63 [(0, e0), (1, e1), (2, e2), (6, e6), (7, e7), (8, e8)], heapOf 5 [(0, h0)], 1⟩ e st2 := by
 unfold T1_zuks_2 at h
 split at h
 ·have := loop_tree (mk := mk_zuks_2 _ _ _ _) (ci_zuks_2 _ _ _ _) _ _ e st2 h
  rw [mke_zuks_2] at this
  exact this
 ·cases h
theorem lok_zuks_2 : LoopOk Try.prog cx_zuks b_zuks_2 T_zuks_2 := by
 intro st e st2 h
 unfold T_zuks_2 at h
 cases hk : okSt 63 5 1 [0] st with
 | false => rw [hk] at h; cases h
 | true =>
  rw [hk] at h
  exact circles_keep (ks := [0, 1, 2, 6, 7, 8]) hk (lo1_zuks_2 _ _ _ _ _ _ _ e st2 h)
structure S.zuks_9_V where
def S.zuks_9_R (qA : Int) (t8_ : Int) (v : S.zuks_9_V) : DT (Option Nat × S.zuks_9_V) :=
(.br (xdec (t8_ ≤ qA))
.fail
(.leaf (some 0, v)))
def S.zuks_9_r (qA : Int) (t8_ : Int) (v : S.zuks_9_V) : Option (Option Nat × S.zuks_9_V) := (S.zuks_9_R qA t8_ v).run
def S.zuks_9_j (qA : Int) (t8_ : Int) (v : S.zuks_9_V) (j : Nat) : Bool := Lp_j (S.zuks_9_r qA t8_) v j
def S.zuks_9_v (qA : Int) (t8_ : Int) (v : S.zuks_9_V) : S.zuks_9_V := Lp_v (S.zuks_9_r qA t8_) v
def mk_zuks_9 (qB : Bool) (t0_l : Nat) (qA : Int) (t6_ : Int) (t7_ : Int) (t8_ : Int) (h_0 : List (Ty .mat)) (v : S.zuks_9_V) : St := ⟨(V.v false [C.own 0 .mat qB 0 t0_l] :: ((cV qA) :: (V.v false [C.d (D.fn 114 [] [])] :: (vs 3 ((cV t6_) :: ((cV t7_) :: ((cV t8_) :: (vs 54 [])))))))), (some (Blk.arr 81 .mat h_0) :: (ns 19 [])), 1⟩
def ex_zuks_9 (qB : Bool) (t0_l : Nat) (qA : Int) (t6_ : Int) (t7_ : Int) (t8_ : Int) (h_0 : List (Ty .mat)) (j : Nat) (v : S.zuks_9_V) : Ex × St := match j with
 | 0 => (Ex.exit 4, ⟨(V.v false [C.own 0 .mat qB 0 t0_l] :: ((cV qA) :: (V.v false [C.d (D.fn 114 [] [])] :: (vs 3 ((cV t6_) :: ((cV t7_) :: (vs 55 []))))))), (some (Blk.arr 81 .mat h_0) :: (ns 22 [])), 1⟩)
 | _ => (.ret, ⟨[], [], 0⟩)
def T1_zuks_9 : V → V → V → V → V → V → Option Blk → Tree
 | V.v false [C.own 0 .mat qB 0 t0_l], V.v false [C.d (.sc (.int .i64 qA))], V.v false [C.d (D.fn 114 [] [])], V.v false [C.d (.sc (.int .i64 t6_))], V.v false [C.d (.sc (.int .i64 t7_))], V.v false [C.d (.sc (.int .i64 t8_))], some (Blk.arr 81 .mat h_0) => exT (fun j => ex_zuks_9 qB t0_l qA t6_ t7_ t8_ h_0 j (S.zuks_9_v qA t8_ ⟨⟩)) (S.zuks_9_j qA t8_ ⟨⟩) [0]
 | _, _, _, _, _, _, _ => .bad
def T_zuks_9 (st : St) : Tree := bif okSt 63 20 1 [0] st then T1_zuks_9 (st.env.getD 0 .any) (st.env.getD 1 .any) (st.env.getD 2 .any) (st.env.getD 6 .any) (st.env.getD 7 .any) (st.env.getD 8 .any) (lk st.heap 0) else .bad
def b_zuks_9 : Code := loopBy Try.f141 9
theorem rnd_zuks_9 (qB : Bool) (t0_l : Nat) (qA : Int) (t6_ : Int) (t7_ : Int) (t8_ : Int) (h_0 : List (Ty .mat)) (v : S.zuks_9_V) : round2 cx_zuks (hdI cx_zuks (find [(2, T_zuks_2)]) [] none 3) 141 b_zuks_9 [] 20 [0, 1, 2, 6, 7] (mk_zuks_9 qB t0_l qA t6_ t7_ t8_ h_0 v) = (S.zuks_9_R qA t8_ v).go (roundOut (mk_zuks_9 qB t0_l qA t6_ t7_ t8_ h_0) (ex_zuks_9 qB t0_l qA t6_ t7_ t8_ h_0)) := by kernel_rfl
theorem bs_zuks_9 : loopsOf b_zuks_9 ++ loopsInl [] ++ loopsRf [] = [] := by kernel_rfl
theorem ci_zuks_9 (qB : Bool) (t0_l : Nat) (qA : Int) (t6_ : Int) (t7_ : Int) (t8_ : Int) (h_0 : List (Ty .mat)) : ∀ v j v2, Lp (S.zuks_9_r qA t8_) v = some (j, v2) → Circles Try.prog cx_zuks b_zuks_9 (mk_zuks_9 qB t0_l qA t6_ t7_ t8_ h_0 v) (ex_zuks_9 qB t0_l qA t6_ t7_ t8_ h_0 j v2).1 (ex_zuks_9 qB t0_l qA t6_ t7_ t8_ h_0 j v2).2 :=
 loop_ok3 (L := find [(2, T_zuks_2)]) (n := 3) (hints := [(141, 9, { keep := [0, 1, 2, 6, 7, 8], acc := [] }), (141, 7, { keep := [0, 1, 2, 6], acc := [] }), (141, 2, { keep := [0, 1, 2, 6, 7, 8], acc := [] })]) (cx_ok rfl) rdy_zuks prs_zuks bs_zuks_9 nilB (fun v => (rnd_zuks_9 qB t0_l qA t6_ t7_ t8_ h_0 v).trans (DT.go_run _ _)) (by intro j v; unfold ex_zuks_9; split <;> rfl)
theorem mke_zuks_9 (qB : Bool) (t0_l : Nat) (qA : Int) (t6_ : Int) (t7_ : Int) (t8_ : Int) (h_0 : List (Ty .mat)) (v : S.zuks_9_V) : mk_zuks_9 qB t0_l qA t6_ t7_ t8_ h_0 v = ⟨envOf 63 [(0, V.v false [C.own 0 .mat qB 0 t0_l]), (1, (cV qA)), (2, V.v false [C.d (D.fn 114 [] [])]), (6, (cV t6_)), (7, (cV t7_)), (8, (cV t8_))], heapOf 20 [(0, some (Blk.arr 81 .mat h_0))], 1⟩ := by kernel_rfl
theorem lo1_zuks_9 (e0 : V) (e1 : V) (e2 : V) (e6 : V) (e7 : V) (e8 : V) (h0 : Option Blk) e st2 (h : (T1_zuks_9 e0 e1 e2 e6 e7 e8 h0).eval = some (e, st2)) : Circles Try.prog cx_zuks b_zuks_9 ⟨envOf 63 [(0, e0), (1, e1), (2, e2), (6, e6), (7, e7), (8, e8)], heapOf 20 [(0, h0)], 1⟩ e st2 := by
 unfold T1_zuks_9 at h
 split at h
 ·have := loop_tree (mk := mk_zuks_9 _ _ _ _ _ _ _) (ci_zuks_9 _ _ _ _ _ _ _) _ _ e st2 h
  rw [mke_zuks_9] at this
  exact this
 ·cases h
theorem lok_zuks_9 : LoopOk Try.prog cx_zuks b_zuks_9 T_zuks_9 := by
 intro st e st2 h
 unfold T_zuks_9 at h
 cases hk : okSt 63 20 1 [0] st with
 | false => rw [hk] at h; cases h
 | true =>
  rw [hk] at h
  exact circles_keep (ks := [0, 1, 2, 6, 7, 8]) hk (lo1_zuks_9 _ _ _ _ _ _ _ e st2 h)
structure S.zuks_7_V where
 t6_ : Int
def S.zuks_7_R (qA : Int) (v : S.zuks_7_V) : DT (Option Nat × S.zuks_7_V) :=
(.br (xdec (v.t6_ < qA))
(.br (S.zuks_9_j qA (xwrap .i64 (2 * v.t6_)) { : S.zuks_9_V } 0)
(.br (xdec (xwrap .i64 (0 + v.t6_) < qA))
.fail
(.leaf (none, ⟨xwrap .i64 (v.t6_ * 2)⟩)))
.fail)
(.leaf (some 0, v)))
def S.zuks_7_r (qA : Int) (v : S.zuks_7_V) : Option (Option Nat × S.zuks_7_V) := (S.zuks_7_R qA v).run
def S.zuks_7_j (qA : Int) (v : S.zuks_7_V) (j : Nat) : Bool := Lp_j (S.zuks_7_r qA) v j
def S.zuks_7_v (qA : Int) (v : S.zuks_7_V) : S.zuks_7_V := Lp_v (S.zuks_7_r qA) v
def mk_zuks_7 (qB : Bool) (t0_l : Nat) (qA : Int) (h_0 : List (Ty .mat)) (v : S.zuks_7_V) : St := ⟨(V.v false [C.own 0 .mat qB 0 t0_l] :: ((cV qA) :: (V.v false [C.d (D.fn 114 [] [])] :: (vs 3 ((cV v.t6_) :: (vs 56 [])))))), (some (Blk.arr 81 .mat h_0) :: (ns 12 [])), 1⟩
def ex_zuks_7 (qB : Bool) (t0_l : Nat) (qA : Int) (h_0 : List (Ty .mat)) (j : Nat) (v : S.zuks_7_V) : Ex × St := match j with
 | 0 => (Ex.exit 2, ⟨(vs 63 []), (some (Blk.arr 81 .mat h_0) :: (ns 15 [])), 1⟩)
 | _ => (.ret, ⟨[], [], 0⟩)
def T1_zuks_7 : V → V → V → V → Option Blk → Tree
 | V.v false [C.own 0 .mat qB 0 t0_l], V.v false [C.d (.sc (.int .i64 qA))], V.v false [C.d (D.fn 114 [] [])], V.v false [C.d (.sc (.int .i64 t6_))], some (Blk.arr 81 .mat h_0) => exT (fun j => ex_zuks_7 qB t0_l qA h_0 j (S.zuks_7_v qA ⟨t6_⟩)) (S.zuks_7_j qA ⟨t6_⟩) [0]
 | _, _, _, _, _ => .bad
def T_zuks_7 (st : St) : Tree := bif okSt 63 13 1 [0] st then T1_zuks_7 (st.env.getD 0 .any) (st.env.getD 1 .any) (st.env.getD 2 .any) (st.env.getD 6 .any) (lk st.heap 0) else .bad
def b_zuks_7 : Code := loopBy Try.f141 7
theorem rnd_zuks_7 (qB : Bool) (t0_l : Nat) (qA : Int) (h_0 : List (Ty .mat)) (v : S.zuks_7_V) : round2 cx_zuks (hdI cx_zuks (find [(2, T_zuks_2), (9, T_zuks_9)]) [] none 3) 141 b_zuks_7 [] 13 [] (mk_zuks_7 qB t0_l qA h_0 v) = (S.zuks_7_R qA v).go (roundOut (mk_zuks_7 qB t0_l qA h_0) (ex_zuks_7 qB t0_l qA h_0)) := by kernel_rfl
theorem bs_zuks_7 : loopsOf b_zuks_7 ++ loopsInl [] ++ loopsRf [] = [b_zuks_9] := by kernel_rfl
theorem ci_zuks_7 (qB : Bool) (t0_l : Nat) (qA : Int) (h_0 : List (Ty .mat)) : ∀ v j v2, Lp (S.zuks_7_r qA) v = some (j, v2) → Circles Try.prog cx_zuks b_zuks_7 (mk_zuks_7 qB t0_l qA h_0 v) (ex_zuks_7 qB t0_l qA h_0 j v2).1 (ex_zuks_7 qB t0_l qA h_0 j v2).2 :=
 loop_ok3 (L := find [(2, T_zuks_2), (9, T_zuks_9)]) (n := 3) (hints := [(141, 9, { keep := [0, 1, 2, 6, 7, 8], acc := [] }), (141, 7, { keep := [0, 1, 2, 6], acc := [] }), (141, 2, { keep := [0, 1, 2, 6, 7, 8], acc := [] })]) (cx_ok rfl) rdy_zuks prs_zuks bs_zuks_7 (consB (fun T h => by have e : T_zuks_9 = T := Option.some.inj (show some T_zuks_9 = some T from h); exact e ▸ lok_zuks_9) nilB) (fun v => (rnd_zuks_7 qB t0_l qA h_0 v).trans (DT.go_run _ _)) (by intro j v; unfold ex_zuks_7; split <;> rfl)
theorem mke_zuks_7 (qB : Bool) (t0_l : Nat) (qA : Int) (h_0 : List (Ty .mat)) (v : S.zuks_7_V) : mk_zuks_7 qB t0_l qA h_0 v = ⟨envOf 63 [(0, V.v false [C.own 0 .mat qB 0 t0_l]), (1, (cV qA)), (2, V.v false [C.d (D.fn 114 [] [])]), (6, (cV v.t6_))], heapOf 13 [(0, some (Blk.arr 81 .mat h_0))], 1⟩ := by kernel_rfl
theorem lo1_zuks_7 (e0 : V) (e1 : V) (e2 : V) (e6 : V) (h0 : Option Blk) e st2 (h : (T1_zuks_7 e0 e1 e2 e6 h0).eval = some (e, st2)) : Circles Try.prog cx_zuks b_zuks_7 ⟨envOf 63 [(0, e0), (1, e1), (2, e2), (6, e6)], heapOf 13 [(0, h0)], 1⟩ e st2 := by
 unfold T1_zuks_7 at h
 split at h
 ·have := loop_tree (mk := mk_zuks_7 _ _ _ _) (ci_zuks_7 _ _ _ _) _ _ e st2 h
  rw [mke_zuks_7] at this
  exact this
 ·cases h
theorem lok_zuks_7 : LoopOk Try.prog cx_zuks b_zuks_7 T_zuks_7 := by
 intro st e st2 h
 unfold T_zuks_7 at h
 cases hk : okSt 63 13 1 [0] st with
 | false => rw [hk] at h; cases h
 | true =>
  rw [hk] at h
  exact circles_keep (ks := [0, 1, 2, 6]) hk (lo1_zuks_7 _ _ _ _ _ e st2 h)
structure S.zuks_T where
 x0 : List (Ty .mat)
 deriving Inhabited
def S.zuks_R (a0 : List (Ty .mat)) (a1 : Int) : DT S.zuks_T :=
let y0 : Nat := a0.length
let y1 : S.zuks_2_V := { t7_ := 0, t8_ := 20, h_0 := a0 : S.zuks_2_V }
let y2 : S.zuks_2_V := S.zuks_2_v y0 a1 20 y1
let y3 : List (Ty .mat) := y2.h_0
let y4 : Int := y2.t7_
(.br (S.zuks_2_j y0 a1 20 y1 0)
(.br (xdec (y0 = y3.length) && S.zztx_is y3 y4 a1)
(.br (S.zuks_7_j a1 { t6_ := 20 : S.zuks_7_V } 0)
(.leaf ⟨(S.zztx_o y3 y4 a1).x0⟩)
.fail)
.fail)
.fail)
def S.zuks (a0 : List (Ty .mat)) (a1 : Int) : Option S.zuks_T := (S.zuks_R a0 a1).run
def S.zuks_is (a0 : List (Ty .mat)) (a1 : Int) : Bool := (S.zuks a0 a1).isSome
def S.zuks_o (a0 : List (Ty .mat)) (a1 : Int) : S.zuks_T := (S.zuks a0 a1).getD default
def ret_zuks (b : Bool) (r : S.zuks_T) : Ret := ⟨b, some (81, (⟨.mat, r.x0⟩ : (t : ET) × List (Ty t))), []⟩
def si_zuks (a0f : Bool) (a0 : List (Ty .mat)) : List DArg → Bool
 | [(false, [.sc (.int .i64 a1)]), (false, [.fn 114 [] []])] => S.zuks_is a0 a1
 | _ => false
def so_zuks (a0f : Bool) (a0 : List (Ty .mat)) : List DArg → List (Ty .mat)
 | [(false, [.sc (.int .i64 a1)]), (false, [.fn 114 [] []])] => (S.zuks_o a0 a1).x0
 | _ => a0
def p_zuks : Proc := rowProc 81 .mat si_zuks so_zuks
theorem raw_zuks (a0f : Bool) (a0 : List (Ty .mat)) (a1 : Int) : evP cx_zuks (hdI cx_zuks (find [(2, T_zuks_2), (9, T_zuks_9), (7, T_zuks_7)]) [] none 3) none Try.f141 141 (some 81) [(false, [.sl none a0f .mat a0]), (false, [.sc (.int .i64 a1)]), (false, [.fn 114 [] []])] some = (S.zuks_R a0 a1).go (ret_zuks true) := by kernel_rfl
theorem bs_zuks : loopsIn Try.f141 [] = [b_zuks_2, b_zuks_7] := by kernel_rfl
theorem zuks_ok : StandsP Try.prog tyTab 141 p_zuks := by
 refine standsP (L := find [(2, T_zuks_2), (9, T_zuks_9), (7, T_zuks_7)]) (n := 3) (hints := [(141, 9, { keep := [0, 1, 2, 6, 7, 8], acc := [] }), (141, 7, { keep := [0, 1, 2, 6], acc := [] }), (141, 2, { keep := [0, 1, 2, 6, 7, 8], acc := [] })]) (cx_ok rfl) rdy_zuks prs_zuks ⟨by kernel_rfl, by kernel_rfl, by kernel_rfl⟩ bs_zuks (consB (fun T h => by have e : T_zuks_2 = T := Option.some.inj (show some T_zuks_2 = some T from h); exact e ▸ lok_zuks_2) (consB (fun T h => by have e : T_zuks_7 = T := Option.some.inj (show some T_zuks_7 = some T from h); exact e ▸ lok_zuks_7) nilB)) (by kernel_rfl) rfl (fun a0f a0 ds h => ?_)
 unfold si_zuks at h
 split at h
 ·rename_i a1
  exact ⟨true, win default ((raw_zuks a0f a0 a1).trans (DT.go_run _ _)) h⟩
 ·cases h
abbrev cx_zm5a : Cx := mkCx3 tyTab [(114, g_endCmp)] [] [] [] [] [(141, (Try.f141, p_zuks))]
theorem rdy_zm5a : Ready Try.prog tyTab [(114, g_endCmp)] [] [] := ⟨consG2 endCmp_ok (noneG2), noneI2, noneF2⟩
theorem prs_zm5a : PrsOk Try.prog tyTab [(141, (Try.f141, p_zuks))] := consP ⟨by kernel_rfl, by kernel_rfl, by kernel_rfl⟩ zuks_ok (noneP)
structure S.zm5a_T where
 x0 : List (Ty .mat)
 deriving Inhabited
def S.zm5a_R (a0 : List (Ty .mat)) : DT S.zm5a_T :=
let y0 : Nat := a0.length
let y1 : Int := (↑y0 : Int)
(.br (xdec (y0 = y0) && S.zuks_is a0 y1)
(.leaf ⟨(S.zuks_o a0 y1).x0⟩)
.fail)
def S.zm5a (a0 : List (Ty .mat)) : Option S.zm5a_T := (S.zm5a_R a0).run
def S.zm5a_is (a0 : List (Ty .mat)) : Bool := (S.zm5a a0).isSome
def S.zm5a_o (a0 : List (Ty .mat)) : S.zm5a_T := (S.zm5a a0).getD default
def ret_zm5a (b : Bool) (r : S.zm5a_T) : Ret := ⟨b, some (81, (⟨.mat, r.x0⟩ : (t : ET) × List (Ty t))), []⟩
def si_zm5a (a0f : Bool) (a0 : List (Ty .mat)) : List DArg → Bool
 | [(false, [.fn 114 [] []])] => S.zm5a_is a0
 | _ => false
def so_zm5a (a0f : Bool) (a0 : List (Ty .mat)) : List DArg → List (Ty .mat)
 | [(false, [.fn 114 [] []])] => (S.zm5a_o a0).x0
 | _ => a0
def p_zm5a : Proc := rowProc 81 .mat si_zm5a so_zm5a
theorem raw_zm5a (a0f : Bool) (a0 : List (Ty .mat)) : evP cx_zm5a (hdI cx_zm5a (find []) [] none 3) none Try.f113 113 (some 81) [(false, [.sl none a0f .mat a0]), (false, [.fn 114 [] []])] some = (S.zm5a_R a0).go (ret_zm5a true) := by kernel_rfl
theorem bs_zm5a : loopsIn Try.f113 [] = [] := by kernel_rfl
theorem zm5a_ok : StandsP Try.prog tyTab 113 p_zm5a := by
 refine standsP (L := find []) (n := 3) (hints := []) (cx_ok rfl) rdy_zm5a prs_zm5a ⟨by kernel_rfl, by kernel_rfl, by kernel_rfl⟩ bs_zm5a nilB (by kernel_rfl) rfl (fun a0f a0 ds h => ?_)
 unfold si_zm5a at h
 split at h
 ·exact ⟨true, win default ((raw_zm5a a0f a0).trans (DT.go_run _ _)) h⟩
 ·cases h
abbrev cx_zbgf : Cx := mkCx3 tyTab [(75, g_zjsn), (76, g_znv3), (112, g_zpzf), (114, g_endCmp)] [] [(73, 5, { keep := [7, 8], acc := [] }), (140, 1, { keep := [0, 1, 2, 8, 9], acc := [(1002, some 0, .mat, 81)] })] [(140, Try.f140)] [(5, rfAt 73 Try.f73)] [(113, (Try.f113, p_zm5a))]
theorem rdy_zbgf : Ready Try.prog tyTab [(75, g_zjsn), (76, g_znv3), (112, g_zpzf), (114, g_endCmp)] [] [(140, Try.f140)] := ⟨consG2 zjsn_ok (consG2 znv3_ok (consG2 zpzf_ok (consG2 endCmp_ok (noneG2)))), noneI2, consF2 ⟨by kernel_rfl, by kernel_rfl, by kernel_rfl⟩ (noneF2)⟩
theorem prs_zbgf : PrsOk Try.prog tyTab [(113, (Try.f113, p_zm5a))] := consP ⟨by kernel_rfl, by kernel_rfl, by kernel_rfl⟩ zm5a_ok (noneP)
structure S.zbgf_1_V where
 t9_ : Int
 h2_f : Bool
 h2_l : Nat
 h_16 : List (Ty .mat)
def S.zbgf_1_R (t_1_0_0 : List (Ty .evt)) (t_2_0_0 : List (Ty .step)) (t_2_0_1 : Int) (t_2_0_2 : Int) (t_2_0_3 : Int) (t_2_0_4 : Int) (t8_ : Int) (qD : Int) (v : S.zbgf_1_V) : DT (Option Nat × S.zbgf_1_V) :=
let y0 : S.znv3_T := S.znv3_o t_2_0_0 t_2_0_1 t_2_0_2 t_2_0_3 t_2_0_4 t_1_0_0 v.t9_
let y1 : Int := y0.x1
let y2 : Mat := { start := y0.x0, fin := y1, agg := y0.x2, bad := y0.x3 : Mat }
let y3 : Nat := v.h2_l + 1
let y4 : Bool := xdec (0 + 1 ≤ ((List.replicate 1 (dflt .mat)).set 0 y2).length) && xdec (v.h2_l ≤ v.h_16.length) && xdec (y3 ≤ 1048576)
let y5 : Int := xwrap .i64 (v.t9_ + 1)
let y6 : List (Ty .mat) := List.take v.h2_l v.h_16 ++ [y2]
(.br (xdec (v.t9_ < t8_))
(.br (S.znv3_is t_2_0_0 t_2_0_1 t_2_0_2 t_2_0_3 t_2_0_4 t_1_0_0 v.t9_)
(.br (y0.x4)
(.br (xdec (qD < 0))
(.br (y4)
(.br (xnot true)
(.leaf (some 0, v))
(.leaf (none, ⟨y5, false, y3, y6⟩)))
.fail)
(.br (xdec (y1 ≤ qD))
(.br (y4)
(.br (xnot true)
(.leaf (some 0, v))
(.leaf (none, ⟨y5, false, y3, y6⟩)))
.fail)
(.br (xnot true)
(.leaf (some 1, v))
(.leaf (none, ⟨y5, v.h2_f, v.h2_l, v.h_16⟩)))))
(.leaf (none, ⟨y5, v.h2_f, v.h2_l, v.h_16⟩)))
.fail)
(.leaf (some 2, v)))
def S.zbgf_1_r (t_1_0_0 : List (Ty .evt)) (t_2_0_0 : List (Ty .step)) (t_2_0_1 : Int) (t_2_0_2 : Int) (t_2_0_3 : Int) (t_2_0_4 : Int) (t8_ : Int) (qD : Int) (v : S.zbgf_1_V) : Option (Option Nat × S.zbgf_1_V) := (S.zbgf_1_R t_1_0_0 t_2_0_0 t_2_0_1 t_2_0_2 t_2_0_3 t_2_0_4 t8_ qD v).run
def S.zbgf_1_j (t_1_0_0 : List (Ty .evt)) (t_2_0_0 : List (Ty .step)) (t_2_0_1 : Int) (t_2_0_2 : Int) (t_2_0_3 : Int) (t_2_0_4 : Int) (t8_ : Int) (qD : Int) (v : S.zbgf_1_V) (j : Nat) : Bool := Lp_j (S.zbgf_1_r t_1_0_0 t_2_0_0 t_2_0_1 t_2_0_2 t_2_0_3 t_2_0_4 t8_ qD) v j
def S.zbgf_1_v (t_1_0_0 : List (Ty .evt)) (t_2_0_0 : List (Ty .step)) (t_2_0_1 : Int) (t_2_0_2 : Int) (t_2_0_3 : Int) (t_2_0_4 : Int) (t8_ : Int) (qD : Int) (v : S.zbgf_1_V) : S.zbgf_1_V := Lp_v (S.zbgf_1_r t_1_0_0 t_2_0_0 t_2_0_1 t_2_0_2 t_2_0_3 t_2_0_4 t8_ qD) v
def mk_zbgf_1 (t_1_0_0n : Option Bool) (t_1_0_0f : Bool) (t_1_0_0 : List (Ty .evt)) (t_2_0_0n : Option Bool) (t_2_0_0f : Bool) (t_2_0_0 : List (Ty .step)) (t_2_0_1 : Int) (t_2_0_2 : Int) (t_2_0_3 : Int) (t_2_0_4 : Int) (t8_ : Int) (qE : Option Bool) (qF : Bool) (qG : List (Ty .step)) (qH : Int) (qI : Int) (qJ : Int) (qK : Int) (qD : Int) (v : S.zbgf_1_V) : St := ⟨(V.v false [C.yld 12] :: (V.v false [C.d (D.ref [D.sl t_1_0_0n t_1_0_0f .evt t_1_0_0])] :: (V.v false [C.d (D.ref [D.sl t_2_0_0n t_2_0_0f .step t_2_0_0, D.sc (Sc.int IntKind.i64 t_2_0_1), D.sc (Sc.int IntKind.i64 t_2_0_2), D.sc (Sc.int IntKind.i64 t_2_0_3), D.sc (Sc.int IntKind.i64 t_2_0_4)])] :: (vs 5 ((cV t8_) :: ((cV v.t9_) :: (vs 17 []))))))), (some (Blk.box 45 [C.d (.sl qE qF .step qG), (cI qH), (cI qI), (cI qJ), (cI qK)]) :: (none :: (some (Blk.box 73 [C.own 16 .mat v.h2_f 0 v.h2_l]) :: (ns 4 (some (Blk.box 3 [(cI qD)]) :: (ns 4 (some (Blk.lp 5 (vs 7 (V.v false [C.ptr 2 0] :: (V.v false [C.ptr 7 0] :: (vs 24 [])))) 0 none) :: (ns 3 (some (Blk.arr 81 .mat v.h_16) :: []))))))))), 13⟩
def ex_zbgf_1 (t_1_0_0n : Option Bool) (t_1_0_0f : Bool) (t_1_0_0 : List (Ty .evt)) (t_2_0_0n : Option Bool) (t_2_0_0f : Bool) (t_2_0_0 : List (Ty .step)) (t_2_0_1 : Int) (t_2_0_2 : Int) (t_2_0_3 : Int) (t_2_0_4 : Int) (t8_ : Int) (qE : Option Bool) (qF : Bool) (qG : List (Ty .step)) (qH : Int) (qI : Int) (qJ : Int) (qK : Int) (qD : Int) (j : Nat) (v : S.zbgf_1_V) : Ex × St := match j with
 | 0 => (Ex.ret, ⟨(vs 27 []), (some
  (Blk.box 45
   [C.d (.sl qE qF .step qG), (cI qH), (cI qI), (cI qJ),
    (cI qK)]) :: (none :: (some (Blk.box 73 [C.own (47 + 3) .mat false 0 (v.h2_l + 1)]) :: (ns 4 (some (Blk.box 3 [(cI qD)]) :: (ns 4 (some
  (Blk.lp 5
   (vs 7 (V.v false [C.ptr 2 0] :: (V.v false [C.ptr 7 0] :: (vs 24 []))))
   0 none) :: (ns 14 (some
  (Blk.box 81
   [(cI (S.znv3_o t_2_0_0 t_2_0_1 t_2_0_2 t_2_0_3 t_2_0_4 t_1_0_0 v.t9_).x0),
    (cI (S.znv3_o t_2_0_0 t_2_0_1 t_2_0_2 t_2_0_3 t_2_0_4 t_1_0_0 v.t9_).x1),
    (cI (S.znv3_o t_2_0_0 t_2_0_1 t_2_0_2 t_2_0_3 t_2_0_4 t_1_0_0 v.t9_).x2),
    C.d (.sc (.bool (S.znv3_o t_2_0_0 t_2_0_1 t_2_0_2 t_2_0_3 t_2_0_4 t_1_0_0 v.t9_).x3))]) :: (ns 9 (some
  (Blk.box 81
   [(cI (S.znv3_o t_2_0_0 t_2_0_1 t_2_0_2 t_2_0_3 t_2_0_4 t_1_0_0 v.t9_).x0),
    (cI (S.znv3_o t_2_0_0 t_2_0_1 t_2_0_2 t_2_0_3 t_2_0_4 t_1_0_0 v.t9_).x1),
    (cI (S.znv3_o t_2_0_0 t_2_0_1 t_2_0_2 t_2_0_3 t_2_0_4 t_1_0_0 v.t9_).x2),
    C.d (.sc (.bool (S.znv3_o t_2_0_0 t_2_0_1 t_2_0_2 t_2_0_3 t_2_0_4 t_1_0_0 v.t9_).x3))]) :: (ns 11 (some
  (Blk.arr 81 .mat
   ((List.replicate 1 (dflt .mat)).set 0
    { start := (S.znv3_o t_2_0_0 t_2_0_1 t_2_0_2 t_2_0_3 t_2_0_4 t_1_0_0 v.t9_).x0, fin := (S.znv3_o t_2_0_0 t_2_0_1 t_2_0_2 t_2_0_3 t_2_0_4 t_1_0_0 v.t9_).x1,
      agg := (S.znv3_o t_2_0_0 t_2_0_1 t_2_0_2 t_2_0_3 t_2_0_4 t_1_0_0 v.t9_).x2, bad := (S.znv3_o t_2_0_0 t_2_0_1 t_2_0_2 t_2_0_3 t_2_0_4 t_1_0_0 v.t9_).x3 :
      Mat })) :: (some
  (Blk.arr 81 .mat
   (List.take v.h2_l v.h_16 ++
    [{ start := (S.znv3_o t_2_0_0 t_2_0_1 t_2_0_2 t_2_0_3 t_2_0_4 t_1_0_0 v.t9_).x0, fin := (S.znv3_o t_2_0_0 t_2_0_1 t_2_0_2 t_2_0_3 t_2_0_4 t_1_0_0 v.t9_).x1,
        agg := (S.znv3_o t_2_0_0 t_2_0_1 t_2_0_2 t_2_0_3 t_2_0_4 t_1_0_0 v.t9_).x2, bad := (S.znv3_o t_2_0_0 t_2_0_1 t_2_0_2 t_2_0_3 t_2_0_4 t_1_0_0 v.t9_).x3 :
        Mat }])) :: (none :: []))))))))))))))), 13⟩)
 | 1 => (Ex.ret, ⟨(vs 27 []), (some
  (Blk.box 45
   [C.d (.sl qE qF .step qG), (cI qH), (cI qI), (cI qJ),
    (cI qK)]) :: (none :: (some (Blk.box 73 [C.own 16 .mat v.h2_f 0 v.h2_l]) :: (ns 4 (some (Blk.box 3 [(cI qD)]) :: (ns 4 (some
  (Blk.lp 5
   (vs 7 (V.v false [C.ptr 2 0] :: (V.v false [C.ptr 7 0] :: (vs 24 []))))
   0 none) :: (ns 3 (some (Blk.arr 81 .mat v.h_16) :: (ns 10 (some
  (Blk.box 81
   [(cI (S.znv3_o t_2_0_0 t_2_0_1 t_2_0_2 t_2_0_3 t_2_0_4 t_1_0_0 v.t9_).x0),
    (cI (S.znv3_o t_2_0_0 t_2_0_1 t_2_0_2 t_2_0_3 t_2_0_4 t_1_0_0 v.t9_).x1),
    (cI (S.znv3_o t_2_0_0 t_2_0_1 t_2_0_2 t_2_0_3 t_2_0_4 t_1_0_0 v.t9_).x2),
    C.d (.sc (.bool (S.znv3_o t_2_0_0 t_2_0_1 t_2_0_2 t_2_0_3 t_2_0_4 t_1_0_0 v.t9_).x3))]) :: (ns 9 (some
  (Blk.box 81
   [(cI (S.znv3_o t_2_0_0 t_2_0_1 t_2_0_2 t_2_0_3 t_2_0_4 t_1_0_0 v.t9_).x0),
    (cI (S.znv3_o t_2_0_0 t_2_0_1 t_2_0_2 t_2_0_3 t_2_0_4 t_1_0_0 v.t9_).x1),
    (cI (S.znv3_o t_2_0_0 t_2_0_1 t_2_0_2 t_2_0_3 t_2_0_4 t_1_0_0 v.t9_).x2),
    C.d (.sc (.bool (S.znv3_o t_2_0_0 t_2_0_1 t_2_0_2 t_2_0_3 t_2_0_4 t_1_0_0 v.t9_).x3))]) :: (ns 9 [])))))))))))))), 13⟩)
 | 2 => (Ex.exit 0, ⟨(vs 27 []), (some
  (Blk.box 45
   [C.d (.sl qE qF .step qG), (cI qH), (cI qI), (cI qJ),
    (cI qK)]) :: (none :: (some (Blk.box 73 [C.own 16 .mat v.h2_f 0 v.h2_l]) :: (ns 4 (some (Blk.box 3 [(cI qD)]) :: (ns 4 (some
  (Blk.lp 5
   (vs 7 (V.v false [C.ptr 2 0] :: (V.v false [C.ptr 7 0] :: (vs 24 []))))
   0 none) :: (ns 3 (some (Blk.arr 81 .mat v.h_16) :: (none :: [])))))))))), 13⟩)
 | _ => (.ret, ⟨[], [], 0⟩)
def U_zbgf_1_e0 (x : V) (K : Tree) : Tree := match x with
 | V.v false [C.yld 12] => K
 | _ => .bad
def U_zbgf_1_e1 (x : V) (K : (Option Bool) → Bool → (List (Ty .evt)) → Tree) : Tree := match x with
 | V.v false [C.d (D.ref [D.sl t_1_0_0n t_1_0_0f .evt t_1_0_0])] => K t_1_0_0n t_1_0_0f t_1_0_0
 | _ => .bad
def U_zbgf_1_e2 (x : V) (K : (Option Bool) → Bool → (List (Ty .step)) → Int → Int → Int → Int → Tree) : Tree := match x with
 | V.v false [C.d (D.ref [D.sl t_2_0_0n t_2_0_0f .step t_2_0_0, D.sc (Sc.int IntKind.i64 t_2_0_1), D.sc (Sc.int IntKind.i64 t_2_0_2), D.sc (Sc.int IntKind.i64 t_2_0_3), D.sc (Sc.int IntKind.i64 t_2_0_4)])] => K t_2_0_0n t_2_0_0f t_2_0_0 t_2_0_1 t_2_0_2 t_2_0_3 t_2_0_4
 | _ => .bad
def U_zbgf_1_e8 (x : V) (K : Int → Tree) : Tree := match x with
 | V.v false [C.d (.sc (.int .i64 t8_))] => K t8_
 | _ => .bad
def U_zbgf_1_e9 (x : V) (K : Int → Tree) : Tree := match x with
 | V.v false [C.d (.sc (.int .i64 t9_))] => K t9_
 | _ => .bad
def U_zbgf_1_h0 (x : Option Blk) (K : (Option Bool) → Bool → (List (Ty .step)) → Int → Int → Int → Int → Tree) : Tree := match x with
 | some (Blk.box 45 [C.d (.sl qE qF .step qG), C.d (.sc (.int .i64 qH)), C.d (.sc (.int .i64 qI)), C.d (.sc (.int .i64 qJ)), C.d (.sc (.int .i64 qK))]) => K qE qF qG qH qI qJ qK
 | _ => .bad
def U_zbgf_1_h2 (x : Option Blk) (K : Bool → Nat → Tree) : Tree := match x with
 | some (Blk.box 73 [C.own 16 .mat h2_f 0 h2_l]) => K h2_f h2_l
 | _ => .bad
def U_zbgf_1_h7 (x : Option Blk) (K : Int → Tree) : Tree := match x with
 | some (Blk.box 3 [C.d (.sc (.int .i64 qD))]) => K qD
 | _ => .bad
def U_zbgf_1_h12 (x : Option Blk) (K : Tree) : Tree := match x with
 | some (Blk.lp 5 (V.any :: V.any :: V.any :: V.any :: V.any :: V.any :: V.any :: V.v false [C.ptr 2 0] :: V.v false [C.ptr 7 0] :: V.any :: V.any :: V.any :: V.any :: V.any :: V.any :: V.any :: V.any :: V.any :: V.any :: V.any :: V.any :: V.any :: V.any :: V.any :: V.any :: V.any :: V.any :: V.any :: V.any :: V.any :: V.any :: V.any :: V.any :: []) 0 none) => K
 | _ => .bad
def U_zbgf_1_h16 (x : Option Blk) (K : (List (Ty .mat)) → Tree) : Tree := match x with
 | some (Blk.arr 81 .mat h_16) => K h_16
 | _ => .bad
def T1_zbgf_1 (e0 : V) (e1 : V) (e2 : V) (e8 : V) (e9 : V) (h0 : Option Blk) (h2 : Option Blk) (h7 : Option Blk) (h12 : Option Blk) (h16 : Option Blk) : Tree := U_zbgf_1_e0 e0 (U_zbgf_1_e1 e1 (fun t_1_0_0n t_1_0_0f t_1_0_0 => U_zbgf_1_e2 e2 (fun t_2_0_0n t_2_0_0f t_2_0_0 t_2_0_1 t_2_0_2 t_2_0_3 t_2_0_4 => U_zbgf_1_e8 e8 (fun t8_ => U_zbgf_1_e9 e9 (fun t9_ => U_zbgf_1_h0 h0 (fun qE qF qG qH qI qJ qK => U_zbgf_1_h2 h2 (fun h2_f h2_l => U_zbgf_1_h7 h7 (fun qD => U_zbgf_1_h12 h12 (U_zbgf_1_h16 h16 (fun h_16 => exT (fun j => ex_zbgf_1 t_1_0_0n t_1_0_0f t_1_0_0 t_2_0_0n t_2_0_0f t_2_0_0 t_2_0_1 t_2_0_2 t_2_0_3 t_2_0_4 t8_ qE qF qG qH qI qJ qK qD j (S.zbgf_1_v t_1_0_0 t_2_0_0 t_2_0_1 t_2_0_2 t_2_0_3 t_2_0_4 t8_ qD ⟨t9_, h2_f, h2_l, h_16⟩)) (S.zbgf_1_j t_1_0_0 t_2_0_0 t_2_0_1 t_2_0_2 t_2_0_3 t_2_0_4 t8_ qD ⟨t9_, h2_f, h2_l, h_16⟩) [0, 1, 2]))))))))))
def T_zbgf_1 (st : St) : Tree := bif okSt 27 17 13 [0, 2, 7, 12, 16] st then T1_zbgf_1 (st.env.getD 0 .any) (st.env.getD 1 .any) (st.env.getD 2 .any) (st.env.getD 8 .any) (st.env.getD 9 .any) (lk st.heap 0) (lk st.heap 2) (lk st.heap 7) (lk st.heap 12) (lk st.heap 16) else .bad
def b_zbgf_1 : Code := loopBy Try.f140 1
theorem rnd_zbgf_1 (t_1_0_0n : Option Bool) (t_1_0_0f : Bool) (t_1_0_0 : List (Ty .evt)) (t_2_0_0n : Option Bool) (t_2_0_0f : Bool) (t_2_0_0 : List (Ty .step)) (t_2_0_1 : Int) (t_2_0_2 : Int) (t_2_0_3 : Int) (t_2_0_4 : Int) (t8_ : Int) (qE : Option Bool) (qF : Bool) (qG : List (Ty .step)) (qH : Int) (qI : Int) (qJ : Int) (qK : Int) (qD : Int) (v : S.zbgf_1_V) : round2 cx_zbgf (hdI cx_zbgf (find []) [(140, Try.f140)] none 3) 140 b_zbgf_1 [16] 17 [] (mk_zbgf_1 t_1_0_0n t_1_0_0f t_1_0_0 t_2_0_0n t_2_0_0f t_2_0_0 t_2_0_1 t_2_0_2 t_2_0_3 t_2_0_4 t8_ qE qF qG qH qI qJ qK qD v) = (S.zbgf_1_R t_1_0_0 t_2_0_0 t_2_0_1 t_2_0_2 t_2_0_3 t_2_0_4 t8_ qD v).go (roundOut (mk_zbgf_1 t_1_0_0n t_1_0_0f t_1_0_0 t_2_0_0n t_2_0_0f t_2_0_0 t_2_0_1 t_2_0_2 t_2_0_3 t_2_0_4 t8_ qE qF qG qH qI qJ qK qD) (ex_zbgf_1 t_1_0_0n t_1_0_0f t_1_0_0 t_2_0_0n t_2_0_0f t_2_0_0 t_2_0_1 t_2_0_2 t_2_0_3 t_2_0_4 t8_ qE qF qG qH qI qJ qK qD)) := by kernel_rfl
theorem bs_zbgf_1 : loopsOf b_zbgf_1 ++ loopsInl [(140, Try.f140)] ++ loopsRf [(5, rfAt 73 Try.f73)] = [b_zbgf_1] := by kernel_rfl
theorem ci_zbgf_1 (t_1_0_0n : Option Bool) (t_1_0_0f : Bool) (t_1_0_0 : List (Ty .evt)) (t_2_0_0n : Option Bool) (t_2_0_0f : Bool) (t_2_0_0 : List (Ty .step)) (t_2_0_1 : Int) (t_2_0_2 : Int) (t_2_0_3 : Int) (t_2_0_4 : Int) (t8_ : Int) (qE : Option Bool) (qF : Bool) (qG : List (Ty .step)) (qH : Int) (qI : Int) (qJ : Int) (qK : Int) (qD : Int) : ∀ v j v2, Lp (S.zbgf_1_r t_1_0_0 t_2_0_0 t_2_0_1 t_2_0_2 t_2_0_3 t_2_0_4 t8_ qD) v = some (j, v2) → Circles Try.prog cx_zbgf b_zbgf_1 (mk_zbgf_1 t_1_0_0n t_1_0_0f t_1_0_0 t_2_0_0n t_2_0_0f t_2_0_0 t_2_0_1 t_2_0_2 t_2_0_3 t_2_0_4 t8_ qE qF qG qH qI qJ qK qD v) (ex_zbgf_1 t_1_0_0n t_1_0_0f t_1_0_0 t_2_0_0n t_2_0_0f t_2_0_0 t_2_0_1 t_2_0_2 t_2_0_3 t_2_0_4 t8_ qE qF qG qH qI qJ qK qD j v2).1 (ex_zbgf_1 t_1_0_0n t_1_0_0f t_1_0_0 t_2_0_0n t_2_0_0f t_2_0_0 t_2_0_1 t_2_0_2 t_2_0_3 t_2_0_4 t8_ qE qF qG qH qI qJ qK qD j v2).2 :=
 loop_ok3 (L := find []) (n := 3) (hints := [(73, 5, { keep := [7, 8], acc := [] }), (140, 1, { keep := [0, 1, 2, 8, 9], acc := [(1002, some 0, .mat, 81)] })]) (cx_ok rfl) rdy_zbgf prs_zbgf bs_zbgf_1 (consB (fun T h => by have e : (none : Option (St → Tree)) = some T := h; cases e) nilB) (fun v => (rnd_zbgf_1 t_1_0_0n t_1_0_0f t_1_0_0 t_2_0_0n t_2_0_0f t_2_0_0 t_2_0_1 t_2_0_2 t_2_0_3 t_2_0_4 t8_ qE qF qG qH qI qJ qK qD v).trans (DT.go_run _ _)) (by intro j v; unfold ex_zbgf_1; split <;> rfl)
theorem mke_zbgf_1 (t_1_0_0n : Option Bool) (t_1_0_0f : Bool) (t_1_0_0 : List (Ty .evt)) (t_2_0_0n : Option Bool) (t_2_0_0f : Bool) (t_2_0_0 : List (Ty .step)) (t_2_0_1 : Int) (t_2_0_2 : Int) (t_2_0_3 : Int) (t_2_0_4 : Int) (t8_ : Int) (qE : Option Bool) (qF : Bool) (qG : List (Ty .step)) (qH : Int) (qI : Int) (qJ : Int) (qK : Int) (qD : Int) (v : S.zbgf_1_V) : mk_zbgf_1 t_1_0_0n t_1_0_0f t_1_0_0 t_2_0_0n t_2_0_0f t_2_0_0 t_2_0_1 t_2_0_2 t_2_0_3 t_2_0_4 t8_ qE qF qG qH qI qJ qK qD v = ⟨envOf 27 [(0, V.v false [C.yld 12]), (1, V.v false [C.d (D.ref [D.sl t_1_0_0n t_1_0_0f .evt t_1_0_0])]), (2, V.v false
 [C.d
     (D.ref
      [D.sl t_2_0_0n t_2_0_0f .step t_2_0_0, D.sc (Sc.int IntKind.i64 t_2_0_1), D.sc (Sc.int IntKind.i64 t_2_0_2), D.sc (Sc.int IntKind.i64 t_2_0_3),
       D.sc (Sc.int IntKind.i64 t_2_0_4)])]), (8, (cV t8_)), (9, (cV v.t9_))], heapOf 17 [(0, some
 (Blk.box 45
  [C.d (.sl qE qF .step qG), (cI qH), (cI qI), (cI qJ),
   (cI qK)])), (2, some (Blk.box 73 [C.own 16 .mat v.h2_f 0 v.h2_l])), (7, some (Blk.box 3 [(cI qD)])), (12, some
 (Blk.lp 5
  [V.any, V.any, V.any, V.any, V.any, V.any, V.any, V.v false [C.ptr 2 0], V.v false [C.ptr 7 0], V.any, V.any, V.any, V.any, V.any, V.any, V.any, V.any, V.any, V.any, V.any,
   V.any, V.any, V.any, V.any, V.any, V.any, V.any, V.any, V.any, V.any, V.any, V.any, V.any]
  0 none)), (16, some (Blk.arr 81 .mat v.h_16))], 13⟩ := by kernel_rfl
theorem Ui_zbgf_1_e0 {x : V} {K : Tree} {z : Ex × St} (h : (U_zbgf_1_e0 x K).eval = some z) : x = V.v false [C.yld 12] ∧ (K).eval = some z := by
 unfold U_zbgf_1_e0 at h
 split at h
 ·exact ⟨rfl, h⟩
 ·cases h
theorem Ui_zbgf_1_e1 {x : V} {K : (Option Bool) → Bool → (List (Ty .evt)) → Tree} {z : Ex × St} (h : (U_zbgf_1_e1 x K).eval = some z) : ∃ (t_1_0_0n : Option Bool) (t_1_0_0f : Bool) (t_1_0_0 : List (Ty .evt)), x = V.v false [C.d (D.ref [D.sl t_1_0_0n t_1_0_0f .evt t_1_0_0])] ∧ (K t_1_0_0n t_1_0_0f t_1_0_0).eval = some z := by
 unfold U_zbgf_1_e1 at h
 split at h
 ·exact ⟨_, _, _, rfl, h⟩
 ·cases h
theorem Ui_zbgf_1_e2 {x : V} {K : (Option Bool) → Bool → (List (Ty .step)) → Int → Int → Int → Int → Tree} {z : Ex × St} (h : (U_zbgf_1_e2 x K).eval = some z) : ∃ (t_2_0_0n : Option Bool) (t_2_0_0f : Bool) (t_2_0_0 : List (Ty .step)) (t_2_0_1 : Int) (t_2_0_2 : Int) (t_2_0_3 : Int) (t_2_0_4 : Int), x = V.v false [C.d (D.ref [D.sl t_2_0_0n t_2_0_0f .step t_2_0_0, D.sc (Sc.int IntKind.i64 t_2_0_1), D.sc (Sc.int IntKind.i64 t_2_0_2), D.sc (Sc.int IntKind.i64 t_2_0_3), D.sc (Sc.int IntKind.i64 t_2_0_4)])] ∧ (K t_2_0_0n t_2_0_0f t_2_0_0 t_2_0_1 t_2_0_2 t_2_0_3 t_2_0_4).eval = some z := by
 unfold U_zbgf_1_e2 at h
 split at h
 ·exact ⟨_, _, _, _, _, _, _, rfl, h⟩
 ·cases h
theorem Ui_zbgf_1_e8 {x : V} {K : Int → Tree} {z : Ex × St} (h : (U_zbgf_1_e8 x K).eval = some z) : ∃ (t8_ : Int), x = V.v false [C.d (.sc (.int .i64 t8_))] ∧ (K t8_).eval = some z := by
 unfold U_zbgf_1_e8 at h
 split at h
 ·exact ⟨_, rfl, h⟩
 ·cases h
theorem Ui_zbgf_1_e9 {x : V} {K : Int → Tree} {z : Ex × St} (h : (U_zbgf_1_e9 x K).eval = some z) : ∃ (t9_ : Int), x = V.v false [C.d (.sc (.int .i64 t9_))] ∧ (K t9_).eval = some z := by
 unfold U_zbgf_1_e9 at h
 split at h
 ·exact ⟨_, rfl, h⟩
 ·cases h
theorem Ui_zbgf_1_h0 {x : Option Blk} {K : (Option Bool) → Bool → (List (Ty .step)) → Int → Int → Int → Int → Tree} {z : Ex × St} (h : (U_zbgf_1_h0 x K).eval = some z) : ∃ (qE : Option Bool) (qF : Bool) (qG : List (Ty .step)) (qH : Int) (qI : Int) (qJ : Int) (qK : Int), x = some (Blk.box 45 [C.d (.sl qE qF .step qG), C.d (.sc (.int .i64 qH)), C.d (.sc (.int .i64 qI)), C.d (.sc (.int .i64 qJ)), C.d (.sc (.int .i64 qK))]) ∧ (K qE qF qG qH qI qJ qK).eval = some z := by
 unfold U_zbgf_1_h0 at h
 split at h
 ·exact ⟨_, _, _, _, _, _, _, rfl, h⟩
 ·cases h
theorem Ui_zbgf_1_h2 {x : Option Blk} {K : Bool → Nat → Tree} {z : Ex × St} (h : (U_zbgf_1_h2 x K).eval = some z) : ∃ (h2_f : Bool) (h2_l : Nat), x = some (Blk.box 73 [C.own 16 .mat h2_f 0 h2_l]) ∧ (K h2_f h2_l).eval = some z := by
 unfold U_zbgf_1_h2 at h
 split at h
 ·exact ⟨_, _, rfl, h⟩
 ·cases h
theorem Ui_zbgf_1_h7 {x : Option Blk} {K : Int → Tree} {z : Ex × St} (h : (U_zbgf_1_h7 x K).eval = some z) : ∃ (qD : Int), x = some (Blk.box 3 [C.d (.sc (.int .i64 qD))]) ∧ (K qD).eval = some z := by
 unfold U_zbgf_1_h7 at h
 split at h
 ·exact ⟨_, rfl, h⟩
 ·cases h
theorem Ui_zbgf_1_h12 {x : Option Blk} {K : Tree} {z : Ex × St} (h : (U_zbgf_1_h12 x K).eval = some z) : x = some (Blk.lp 5 (V.any :: V.any :: V.any :: V.any :: V.any :: V.any :: V.any :: V.v false [C.ptr 2 0] :: V.v false [C.ptr 7 0] :: V.any :: V.any :: V.any :: V.any :: V.any :: V.any :: V.any :: V.any :: V.any :: V.any :: V.any :: V.any :: V.any :: V.any :: V.any :: V.any :: V.any :: V.any :: V.any :: V.any :: V.any :: V.any :: V.any :: V.any :: []) 0 none) ∧ (K).eval = some z := by
 unfold U_zbgf_1_h12 at h
 split at h
 ·exact ⟨rfl, h⟩
 ·cases h
theorem Ui_zbgf_1_h16 {x : Option Blk} {K : (List (Ty .mat)) → Tree} {z : Ex × St} (h : (U_zbgf_1_h16 x K).eval = some z) : ∃ (h_16 : List (Ty .mat)), x = some (Blk.arr 81 .mat h_16) ∧ (K h_16).eval = some z := by
 unfold U_zbgf_1_h16 at h
 split at h
 ·exact ⟨_, rfl, h⟩
 ·cases h
theorem lo1_zbgf_1 (e0 : V) (e1 : V) (e2 : V) (e8 : V) (e9 : V) (h0 : Option Blk) (h2 : Option Blk) (h7 : Option Blk) (h12 : Option Blk) (h16 : Option Blk) e st2 (h : (T1_zbgf_1 e0 e1 e2 e8 e9 h0 h2 h7 h12 h16).eval = some (e, st2)) : Circles Try.prog cx_zbgf b_zbgf_1 ⟨envOf 27 [(0, e0), (1, e1), (2, e2), (8, e8), (9, e9)], heapOf 17 [(0, h0), (2, h2), (7, h7), (12, h12), (16, h16)], 13⟩ e st2 := by
 unfold T1_zbgf_1 at h
 obtain ⟨rfl, h⟩ := Ui_zbgf_1_e0 h
 obtain ⟨t_1_0_0n, t_1_0_0f, t_1_0_0, rfl, h⟩ := Ui_zbgf_1_e1 h
 obtain ⟨t_2_0_0n, t_2_0_0f, t_2_0_0, t_2_0_1, t_2_0_2, t_2_0_3, t_2_0_4, rfl, h⟩ := Ui_zbgf_1_e2 h
 obtain ⟨t8_, rfl, h⟩ := Ui_zbgf_1_e8 h
 obtain ⟨t9_, rfl, h⟩ := Ui_zbgf_1_e9 h
 obtain ⟨qE, qF, qG, qH, qI, qJ, qK, rfl, h⟩ := Ui_zbgf_1_h0 h
 obtain ⟨h2_f, h2_l, rfl, h⟩ := Ui_zbgf_1_h2 h
 obtain ⟨qD, rfl, h⟩ := Ui_zbgf_1_h7 h
 obtain ⟨rfl, h⟩ := Ui_zbgf_1_h12 h
 obtain ⟨h_16, rfl, h⟩ := Ui_zbgf_1_h16 h
 have := loop_tree (mk := mk_zbgf_1 t_1_0_0n t_1_0_0f t_1_0_0 t_2_0_0n t_2_0_0f t_2_0_0 t_2_0_1 t_2_0_2 t_2_0_3 t_2_0_4 t8_ qE qF qG qH qI qJ qK qD) (ci_zbgf_1 t_1_0_0n t_1_0_0f t_1_0_0 t_2_0_0n t_2_0_0f t_2_0_0 t_2_0_1 t_2_0_2 t_2_0_3 t_2_0_4 t8_ qE qF qG qH qI qJ qK qD) _ _ e st2 h
 rw [mke_zbgf_1] at this
 exact this
theorem lok_zbgf_1 : LoopOk Try.prog cx_zbgf b_zbgf_1 T_zbgf_1 := by
 intro st e st2 h
 unfold T_zbgf_1 at h
 cases hk : okSt 27 17 13 [0, 2, 7, 12, 16] st with
 | false => rw [hk] at h; cases h
 | true =>
  rw [hk] at h
  exact circles_keep (ks := [0, 1, 2, 8, 9]) hk (lo1_zbgf_1 _ _ _ _ _ _ _ _ _ _ e st2 h)
structure S.zbgf_T where
 x0 : List (Ty .mat)
 x1 : Bool
 x2 : Nat
 deriving Inhabited
def S.zbgf_R (a0_0n : Option Bool) (a0_0f : Bool) (a0_0 : List (Ty .step)) (a0_1 : Int) (a0_2 : Int) (a0_3 : Int) (a0_4 : Int) (a1n : Option Bool) (a1f : Bool) (a1 : List (Ty .evt)) (a2 : Int) : DT S.zbgf_T :=
let y0 : S.zpzf_T := S.zpzf_o a0_0n a0_0f a0_0 a0_1 a0_2 a0_3 a0_4 a1n a1f a1
let y1 : List (Ty .evt) := y0.x2
let y2 : List (Ty .step) := y0.x5
let y3 : Int := y0.x6
let y4 : Int := y0.x7
let y5 : Int := y0.x8
let y6 : Int := y0.x9
let y7 : Int := (↑y1.length : Int)
let y8 : Int := (S.zjsn_o a0_0 a0_1 a0_2 a0_3 a0_4 a1 a2).x0
let y9 : S.zbgf_1_V := { t9_ := 0, h2_f := true, h2_l := 0, h_16 := [] : S.zbgf_1_V }
let y10 : S.zbgf_1_V := S.zbgf_1_v y1 y2 y3 y4 y5 y6 y7 y8 y9
let y11 : Nat := y10.h2_l
let y12 : Nat := y11 + 1
let y13 : List (Ty .mat) := y10.h_16
let y14 : S.znv3_T := S.znv3_o y2 y3 y4 y5 y6 y1 y10.t9_
let y15 : List (Ty .mat) := List.take y11 y13 ++ [{ start := y14.x0, fin := y14.x1, agg := y14.x2, bad := y14.x3 : Mat }]
let y16 : Bool := xdec (y11 = y13.length) && S.zm5a_is y13
let y17 : List (Ty .mat) := (S.zm5a_o y13).x0
let y18 : Bool := y10.h2_f
(.br (S.zjsn_is a0_0 a0_1 a0_2 a0_3 a0_4 a1 a2)
(.br (S.zbgf_1_j y1 y2 y3 y4 y5 y6 y7 y8 y9 0)
(.br (xdec (y12 = y15.length) && S.zm5a_is y15)
(.leaf ⟨(S.zm5a_o y15).x0, false, y12⟩)
.fail)
(.br (S.zbgf_1_j y1 y2 y3 y4 y5 y6 y7 y8 y9 1)
(.br (y16)
(.leaf ⟨y17, y18, y11⟩)
.fail)
(.br (S.zbgf_1_j y1 y2 y3 y4 y5 y6 y7 y8 y9 2)
(.br (y16)
(.leaf ⟨y17, y18, y11⟩)
.fail)
.fail)))
.fail)
def S.zbgf (a0_0n : Option Bool) (a0_0f : Bool) (a0_0 : List (Ty .step)) (a0_1 : Int) (a0_2 : Int) (a0_3 : Int) (a0_4 : Int) (a1n : Option Bool) (a1f : Bool) (a1 : List (Ty .evt)) (a2 : Int) : Option S.zbgf_T := (S.zbgf_R a0_0n a0_0f a0_0 a0_1 a0_2 a0_3 a0_4 a1n a1f a1 a2).run
def S.zbgf_is (a0_0n : Option Bool) (a0_0f : Bool) (a0_0 : List (Ty .step)) (a0_1 : Int) (a0_2 : Int) (a0_3 : Int) (a0_4 : Int) (a1n : Option Bool) (a1f : Bool) (a1 : List (Ty .evt)) (a2 : Int) : Bool := (S.zbgf a0_0n a0_0f a0_0 a0_1 a0_2 a0_3 a0_4 a1n a1f a1 a2).isSome
def S.zbgf_o (a0_0n : Option Bool) (a0_0f : Bool) (a0_0 : List (Ty .step)) (a0_1 : Int) (a0_2 : Int) (a0_3 : Int) (a0_4 : Int) (a1n : Option Bool) (a1f : Bool) (a1 : List (Ty .evt)) (a2 : Int) : S.zbgf_T := (S.zbgf a0_0n a0_0f a0_0 a0_1 a0_2 a0_3 a0_4 a1n a1f a1 a2).getD default
def ret_zbgf (b : Bool) (r : S.zbgf_T) : Ret := ⟨b, some (81, (⟨.mat, r.x0⟩ : (t : ET) × List (Ty t))), [(false, [C.own 0 .mat r.x1 0 r.x2])]⟩
def g_zbgf : Con
 | [(true, [.sl a0_0n a0_0f .step a0_0, .sc (.int .i64 a0_1), .sc (.int .i64 a0_2), .sc (.int .i64 a0_3), .sc (.int .i64 a0_4)]), (false, [.sl a1n a1f .evt a1]), (false, [.sc (.int .i64 a2)])] => some (ret_zbgf (S.zbgf_is a0_0n a0_0f a0_0 a0_1 a0_2 a0_3 a0_4 a1n a1f a1 a2) (S.zbgf_o a0_0n a0_0f a0_0 a0_1 a0_2 a0_3 a0_4 a1n a1f a1 a2))
 | _ => none
theorem raw_zbgf (a0_0n : Option Bool) (a0_0f : Bool) (a0_0 : List (Ty .step)) (a0_1 : Int) (a0_2 : Int) (a0_3 : Int) (a0_4 : Int) (a1n : Option Bool) (a1f : Bool) (a1 : List (Ty .evt)) (a2 : Int) : evR4 cx_zbgf (hdT cx_zbgf (find [(1, T_zbgf_1)]) [(140, Try.f140)] none 3) none Try.f73 73 (some 81) [(true, [.sl a0_0n a0_0f .step a0_0, .sc (.int .i64 a0_1), .sc (.int .i64 a0_2), .sc (.int .i64 a0_3), .sc (.int .i64 a0_4)]), (false, [.sl a1n a1f .evt a1]), (false, [.sc (.int .i64 a2)])] some = (S.zbgf_R a0_0n a0_0f a0_0 a0_1 a0_2 a0_3 a0_4 a1n a1f a1 a2).go (ret_zbgf true) := by kernel_rfl
theorem bs_zbgf : loopsIn Try.f73 [(140, Try.f140)] ++ loopsRf [(5, rfAt 73 Try.f73)] = [b_zbgf_1] := by kernel_rfl
theorem zbgf_ok : Stands Try.prog tyTab 73 g_zbgf := by
 refine stands4 (L := find [(1, T_zbgf_1)]) (n := 3) (hints := [(73, 5, { keep := [7, 8], acc := [] }), (140, 1, { keep := [0, 1, 2, 8, 9], acc := [(1002, some 0, .mat, 81)] })]) (cx_ok rfl) rdy_zbgf prs_zbgf ⟨by kernel_rfl, by kernel_rfl, by kernel_rfl⟩ (rfsOk_one (by kernel_rfl) (by kernel_rfl)) bs_zbgf (consB (fun T h => by have e : T_zbgf_1 = T := Option.some.inj (show some T_zbgf_1 = some T from h); exact e ▸ lok_zbgf_1) nilB) (fun das r hG hr => ?_)
 unfold g_zbgf at hG
 split at hG
 ·rename_i a0_0n a0_0f a0_0 a0_1 a0_2 a0_3 a0_4 a1n a1f a1 a2
  injection hG with hG; subst hG
  exact ⟨(some 81), true, win default ((raw_zbgf a0_0n a0_0f a0_0 a0_1 a0_2 a0_3 a0_4 a1n a1f a1 a2).trans (DT.go_run _ _)) hr⟩
 ·cases hG
end
end Go.Eng
