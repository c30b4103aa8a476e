/- Contracts, laid by program. -/
import Derived.Test.YtoohnjneocohnaaGreatZG10
set_option maxHeartbeats 2000000
set_option maxRecDepth 10000
set_option linter.unusedVariables false
namespace Go.Eng
noncomputable section
open Go Go.Eng Go.Proofs Go.Eng.Tab
abbrev cx_zxni : Cx := mkCx2 tyTab [(24, g_zlpd)] [] [] []
theorem rdy_zxni : Ready Tryz.prog tyTab [(24, g_zlpd)] [] [] := ⟨consG2 zlpd_ok (noneG2), noneI2, noneF2⟩
structure S.zxni_T where
 x0 : Int
 deriving Inhabited
def S.zxni_R (a0_1 a1_1 : Int) : DT S.zxni_T :=
(.br (S.zlpd_is a0_1 a1_1)
(.leaf ⟨(S.zlpd_o a0_1 a1_1).x0⟩)
.fail)
def S.zxni (a0_1 a1_1 : Int) : Option S.zxni_T := (S.zxni_R a0_1 a1_1).run
def S.zxni_is (a0_1 a1_1 : Int) : Bool := (S.zxni a0_1 a1_1).isSome
def S.zxni_o (a0_1 a1_1 : Int) : S.zxni_T := (S.zxni a0_1 a1_1).getD default
def ret_zxni (b : Bool) (r : S.zxni_T) : Ret := ⟨b, none, [(false, [(cI r.x0)])]⟩
def g_zxni : Con
 | [(true, [.sc (.int .i64 a0_0), .sc (.int .i64 a0_1), .sc (.int .i64 a0_2), .sc (.bool a0_3)]), (true, [.sc (.int .i64 a1_0), .sc (.int .i64 a1_1), .sc (.int .i64 a1_2), .sc (.bool a1_3)])] => some (ret_zxni (S.zxni_is a0_1 a1_1) (S.zxni_o a0_1 a1_1))
 | _ => none
theorem raw_zxni (a0_0 a0_1 a0_2 : Int) (a0_3 : Bool) (a1_0 a1_1 a1_2 : Int) (a1_3 : Bool) : evR2 cx_zxni (hdI cx_zxni (find []) [] none 0) none Tryz.f23 23 none [(true, [dI a0_0, dI a0_1, dI a0_2, .sc (.bool a0_3)]), (true, [dI a1_0, dI a1_1, dI a1_2, .sc (.bool a1_3)])] some = (S.zxni_R a0_1 a1_1).go (ret_zxni true) := by kernel_rfl
theorem bs_zxni : loopsIn Tryz.f23 [] = [] := by kernel_rfl
theorem zxni_ok : Stands Tryz.prog tyTab 23 g_zxni := by
 refine stands3 (L := find []) (n := 0) (hints := []) (cx_ok rfl) rdy_zxni ⟨by kernel_rfl, by kernel_rfl, by kernel_rfl⟩ bs_zxni nilB (fun das r hG hr => ?_)
 unfold g_zxni at hG
 split at hG
 ·rename_i a0_0 a0_1 a0_2 a0_3 a1_0 a1_1 a1_2 a1_3
  injection hG with hG; subst hG
  exact ⟨none, true, win default ((raw_zxni a0_0 a0_1 a0_2 a0_3 a1_0 a1_1 a1_2 a1_3).trans (DT.go_run _ _)) hr⟩
 ·cases hG
abbrev cx_zztx : Cx := mkCx3 tyTab [(23, g_zxni)] [] [(60, 4, { keep := [0, 1, 2, 3, 8, 9], acc := [] }), (60, 1, { keep := [0, 1, 2, 3, 8], acc := [] })] [] [] []
theorem rdy_zztx : Ready Tryz.prog tyTab [(23, g_zxni)] [] [] := ⟨consG2 zxni_ok (noneG2), noneI2, noneF2⟩
theorem prs_zztx : PrsOk Tryz.prog tyTab [] := noneP
structure S.zztx_4_V where
 t9_ : Int
 h_0 : Lm
def S.zztx_4_R (t0_l : Nat) (qA : Int) (v : S.zztx_4_V) : DT (Option Nat × S.zztx_4_V) :=
let y0 : Int := (↑t0_l : Int)
let y1 : Bool := xdec (0 ≤ v.t9_) && xdec (v.t9_ < y0)
let y2 : Nat := 0 + v.t9_.toNat
let y3 : Nat := v.h_0.length
let y4 : Bool := xdec (y2 < y3)
let y5 : Int := xwrap .i64 (v.t9_ - 1)
let y6 : Bool := xdec (0 ≤ y5) && xdec (y5 < y0)
let y7 : Nat := 0 + y5.toNat
let y8 : Bool := xdec (y7 < y3)
let y9 : Ty .mat := v.h_0.getD y2 (dflt .mat)
let y10 := y9.fin
let y11 : Ty .mat := v.h_0.getD y7 (dflt .mat)
let y12 := y11.fin
let y13 : Lm := v.h_0.set y2 { start := y11.start, fin := y12, agg := y11.agg, bad := y11.bad : Mat }
(.br (xdec (v.t9_ > qA))
(.br (y1)
(.br (y4)
(.br (y6)
(.br (y8)
(.br (S.zxni_is y10 y12)
(.br (xdec ((S.zxni_o y10 y12).x0 < 0))
(.br (y6)
(.br (y8)
(.br (y1)
(.br (y4)
(.br (y1)
(.br (y4)
(.br (y6)
(.br (xdec (y7 < y13.length))
(.leaf (none, ⟨y5, y13.set y7 { start := y9.start, fin := y10, agg := y9.agg, bad := y9.bad : Mat }⟩))
.fail)
.fail)
.fail)
.fail)
.fail)
.fail)
.fail)
.fail)
(.leaf (some 0, v)))
.fail)
.fail)
.fail)
.fail)
.fail)
(.leaf (some 0, v)))
def S.zztx_4_r (t0_l : Nat) (qA : Int) (v : S.zztx_4_V) : Option (Option Nat × S.zztx_4_V) := (S.zztx_4_R t0_l qA v).run
def S.zztx_4_j (t0_l : Nat) (qA : Int) (v : S.zztx_4_V) (j : Nat) : Bool := Lp_j (S.zztx_4_r t0_l qA) v j
def S.zztx_4_v (t0_l : Nat) (qA : Int) (v : S.zztx_4_V) : S.zztx_4_V := Lp_v (S.zztx_4_r t0_l qA) v
def mk_zztx_4 (qB : Bool) (t0_l : Nat) (qA qC t8_ : Int) (v : S.zztx_4_V) : St := ⟨(V.v false [C.own 0 .mat qB 0 t0_l] :: ((cV qA) :: ((cV qC) :: (V.v false [C.d (D.fn 23 [] [])] :: (vs 4 ((cV t8_) :: ((cV v.t9_) :: (vs 43 [])))))))), (some (Blk.arr 45 .mat v.h_0) :: (ns 8 [])), 1⟩
def ex_zztx_4 (qB : Bool) (t0_l : Nat) (qA qC t8_ : Int) (j : Nat) (v : S.zztx_4_V) : Ex × St := match j with
 | 0 => (Ex.exit 2, ⟨(V.v false [C.own 0 .mat qB 0 t0_l] :: ((cV qA) :: ((cV qC) :: (V.v false [C.d (D.fn 23 [] [])] :: (vs 4 ((cV t8_) :: (vs 44 []))))))), (some (Blk.arr 45 .mat v.h_0) :: (ns 25 [])), 1⟩)
 | _ => (.ret, ⟨[], [], 0⟩)
def T1_zztx_4 : V → V → V → V → V → V → Option Blk → Tree
 | V.v false [C.own 0 .mat qB 0 t0_l], V.v false [C.d (.sc (.int .i64 qA))], V.v false [C.d (.sc (.int .i64 qC))], V.v false [C.d (D.fn 23 [] [])], V.v false [C.d (.sc (.int .i64 t8_))], V.v false [C.d (.sc (.int .i64 t9_))], some (Blk.arr 45 .mat h_0) => exT (fun j => ex_zztx_4 qB t0_l qA qC t8_ j (S.zztx_4_v t0_l qA ⟨t9_, h_0⟩)) (S.zztx_4_j t0_l qA ⟨t9_, h_0⟩) [0]
 | _, _, _, _, _, _, _ => .bad
def T_zztx_4 (st : St) : Tree := bif okSt 53 9 1 [0] st then T1_zztx_4 (st.env.getD 0 .any) (st.env.getD 1 .any) (st.env.getD 2 .any) (st.env.getD 3 .any) (st.env.getD 8 .any) (st.env.getD 9 .any) (lk st.heap 0) else .bad
def b_zztx_4 : Code := loopBy Tryz.f60 4
theorem rnd_zztx_4 (qB : Bool) (t0_l : Nat) (qA qC t8_ : Int) (v : S.zztx_4_V) : round2 cx_zztx (hdI cx_zztx (find []) [] none 0) 60 b_zztx_4 [] 9 [0, 1, 2, 3, 8] (mk_zztx_4 qB t0_l qA qC t8_ v) = (S.zztx_4_R t0_l qA v).go (roundOut (mk_zztx_4 qB t0_l qA qC t8_) (ex_zztx_4 qB t0_l qA qC t8_)) := by kernel_rfl
theorem bs_zztx_4 : loopsOf b_zztx_4 ++ loopsInl [] ++ loopsRf [] = [] := by kernel_rfl
theorem ci_zztx_4 (qB : Bool) (t0_l : Nat) (qA qC t8_ : Int) : ∀ v j v2, Lp (S.zztx_4_r t0_l qA) v = some (j, v2) → Circles Tryz.prog cx_zztx b_zztx_4 (mk_zztx_4 qB t0_l qA qC t8_ v) (ex_zztx_4 qB t0_l qA qC t8_ j v2).1 (ex_zztx_4 qB t0_l qA qC t8_ j v2).2 :=
 loop_ok3 (L := find []) (n := 0) (hints := [(60, 4, { keep := [0, 1, 2, 3, 8, 9], acc := [] }), (60, 1, { keep := [0, 1, 2, 3, 8], acc := [] })]) (cx_ok rfl) rdy_zztx prs_zztx bs_zztx_4 nilB (fun v => (rnd_zztx_4 qB t0_l qA qC t8_ v).trans (DT.go_run _ _)) (by intro j v; unfold ex_zztx_4; split <;> rfl)
theorem mke_zztx_4 (qB : Bool) (t0_l : Nat) (qA qC t8_ : Int) (v : S.zztx_4_V) : mk_zztx_4 qB t0_l qA qC t8_ v = ⟨envOf 53 [(0, V.v false [C.own 0 .mat qB 0 t0_l]), (1, (cV qA)), (2, (cV qC)), (3, V.v false [C.d (D.fn 23 [] [])]), (8, (cV t8_)), (9, (cV v.t9_))], heapOf 9 [(0, some (Blk.arr 45 .mat v.h_0))], 1⟩ := by kernel_rfl
theorem lo1_zztx_4 (e0 e1 e2 e3 e8 e9 : V) (h0 : Option Blk) e st2 (h : (T1_zztx_4 e0 e1 e2 e3 e8 e9 h0).eval = some (e, st2)) : Circles Tryz.prog cx_zztx b_zztx_4 ⟨envOf 53 [(0, e0), (1, e1), (2, e2), (3, e3), (8, e8), (9, e9)], heapOf 9 [(0, h0)], 1⟩ e st2 := by
 unfold T1_zztx_4 at h
 split at h
 ·have := loop_tree (mk := mk_zztx_4 _ _ _ _ _) (ci_zztx_4 _ _ _ _ _) _ _ e st2 h
  rw [mke_zztx_4] at this
  exact this
 ·cases h
theorem lok_zztx_4 : LoopOk Tryz.prog cx_zztx b_zztx_4 T_zztx_4 := by
 intro st e st2 h
 unfold T_zztx_4 at h
 cases hk : okSt 53 9 1 [0] st with
 | false => rw [hk] at h; cases h
 | true =>
  rw [hk] at h
  exact circles_keep (ks := [0, 1, 2, 3, 8, 9]) hk (lo1_zztx_4 _ _ _ _ _ _ _ e st2 h)
structure S.zztx_1_V where
 t8_ : Int
 h_0 : Lm
def S.zztx_1_R (t0_l : Nat) (qA qC : Int) (v : S.zztx_1_V) : DT (Option Nat × S.zztx_1_V) :=
(.br (xdec (v.t8_ < qC))
(.br (S.zztx_4_j t0_l qA { t9_ := v.t8_, h_0 := v.h_0 : S.zztx_4_V } 0)
(.leaf (none, ⟨xwrap .i64 (v.t8_ + 1), (S.zztx_4_v t0_l qA { t9_ := v.t8_, h_0 := v.h_0 : S.zztx_4_V }).h_0⟩))
.fail)
(.leaf (some 0, v)))
def S.zztx_1_r (t0_l : Nat) (qA qC : Int) (v : S.zztx_1_V) : Option (Option Nat × S.zztx_1_V) := (S.zztx_1_R t0_l qA qC v).run
def S.zztx_1_j (t0_l : Nat) (qA qC : Int) (v : S.zztx_1_V) (j : Nat) : Bool := Lp_j (S.zztx_1_r t0_l qA qC) v j
def S.zztx_1_v (t0_l : Nat) (qA qC : Int) (v : S.zztx_1_V) : S.zztx_1_V := Lp_v (S.zztx_1_r t0_l qA qC) v
def mk_zztx_1 (qB : Bool) (t0_l : Nat) (qA qC : Int) (v : S.zztx_1_V) : St := ⟨(V.v false [C.own 0 .mat qB 0 t0_l] :: ((cV qA) :: ((cV qC) :: (V.v false [C.d (D.fn 23 [] [])] :: (vs 4 ((cV v.t8_) :: (vs 44 []))))))), (some (Blk.arr 45 .mat v.h_0) :: (ns 3 [])), 1⟩
def ex_zztx_1 (qB : Bool) (t0_l : Nat) (qA qC : Int) (j : Nat) (v : S.zztx_1_V) : Ex × St := match j with
 | 0 => (Ex.exit 0, ⟨(vs 53 []), (some (Blk.arr 45 .mat v.h_0) :: (ns 6 [])), 1⟩)
 | _ => (.ret, ⟨[], [], 0⟩)
def T1_zztx_1 : V → V → V → V → V → Option Blk → Tree
 | V.v false [C.own 0 .mat qB 0 t0_l], V.v false [C.d (.sc (.int .i64 qA))], V.v false [C.d (.sc (.int .i64 qC))], V.v false [C.d (D.fn 23 [] [])], V.v false [C.d (.sc (.int .i64 t8_))], some (Blk.arr 45 .mat h_0) => exT (fun j => ex_zztx_1 qB t0_l qA qC j (S.zztx_1_v t0_l qA qC ⟨t8_, h_0⟩)) (S.zztx_1_j t0_l qA qC ⟨t8_, h_0⟩) [0]
 | _, _, _, _, _, _ => .bad
def T_zztx_1 (st : St) : Tree := bif okSt 53 4 1 [0] st then T1_zztx_1 (st.env.getD 0 .any) (st.env.getD 1 .any) (st.env.getD 2 .any) (st.env.getD 3 .any) (st.env.getD 8 .any) (lk st.heap 0) else .bad
def b_zztx_1 : Code := loopBy Tryz.f60 1
theorem rnd_zztx_1 (qB : Bool) (t0_l : Nat) (qA qC : Int) (v : S.zztx_1_V) : round2 cx_zztx (hdI cx_zztx (find [(4, T_zztx_4)]) [] none 0) 60 b_zztx_1 [] 4 [] (mk_zztx_1 qB t0_l qA qC v) = (S.zztx_1_R t0_l qA qC v).go (roundOut (mk_zztx_1 qB t0_l qA qC) (ex_zztx_1 qB t0_l qA qC)) := by kernel_rfl
theorem bs_zztx_1 : loopsOf b_zztx_1 ++ loopsInl [] ++ loopsRf [] = [b_zztx_4] := by kernel_rfl
theorem ci_zztx_1 (qB : Bool) (t0_l : Nat) (qA qC : Int) : ∀ v j v2, Lp (S.zztx_1_r t0_l qA qC) v = some (j, v2) → Circles Tryz.prog cx_zztx b_zztx_1 (mk_zztx_1 qB t0_l qA qC v) (ex_zztx_1 qB t0_l qA qC j v2).1 (ex_zztx_1 qB t0_l qA qC j v2).2 :=
 loop_ok3 (L := find [(4, T_zztx_4)]) (n := 0) (hints := [(60, 4, { keep := [0, 1, 2, 3, 8, 9], acc := [] }), (60, 1, { keep := [0, 1, 2, 3, 8], acc := [] })]) (cx_ok rfl) rdy_zztx prs_zztx bs_zztx_1 (consB (fun T h => by have e : T_zztx_4 = T := Option.some.inj (show some T_zztx_4 = some T from h); exact e ▸ lok_zztx_4) nilB) (fun v => (rnd_zztx_1 qB t0_l qA qC v).trans (DT.go_run _ _)) (by intro j v; unfold ex_zztx_1; split <;> rfl)
theorem mke_zztx_1 (qB : Bool) (t0_l : Nat) (qA qC : Int) (v : S.zztx_1_V) : mk_zztx_1 qB t0_l qA qC v = ⟨envOf 53 [(0, V.v false [C.own 0 .mat qB 0 t0_l]), (1, (cV qA)), (2, (cV qC)), (3, V.v false [C.d (D.fn 23 [] [])]), (8, (cV v.t8_))], heapOf 4 [(0, some (Blk.arr 45 .mat v.h_0))], 1⟩ := by kernel_rfl
theorem lo1_zztx_1 (e0 e1 e2 e3 e8 : V) (h0 : Option Blk) e st2 (h : (T1_zztx_1 e0 e1 e2 e3 e8 h0).eval = some (e, st2)) : Circles Tryz.prog cx_zztx b_zztx_1 ⟨envOf 53 [(0, e0), (1, e1), (2, e2), (3, e3), (8, e8)], heapOf 4 [(0, h0)], 1⟩ e st2 := by
 unfold T1_zztx_1 at h
 split at h
 ·have := loop_tree (mk := mk_zztx_1 _ _ _ _) (ci_zztx_1 _ _ _ _) _ _ e st2 h
  rw [mke_zztx_1] at this
  exact this
 ·cases h
theorem lok_zztx_1 : LoopOk Tryz.prog cx_zztx b_zztx_1 T_zztx_1 := by
 intro st e st2 h
 unfold T_zztx_1 at h
 cases hk : okSt 53 4 1 [0] st with
 | false => rw [hk] at h; cases h
 | true =>
  rw [hk] at h
  exact circles_keep (ks := [0, 1, 2, 3, 8]) hk (lo1_zztx_1 _ _ _ _ _ _ e st2 h)
structure S.zztx_T where
 x0 : Lm
 deriving Inhabited
def S.zztx_R (a0 : Lm) (a1 a2 : Int) : DT S.zztx_T :=
let y0 : Nat := a0.length
let y1 : S.zztx_1_V := { t8_ := xwrap .i64 (a1 + 1), h_0 := a0 : S.zztx_1_V }
(.br (S.zztx_1_j y0 a1 a2 y1 0)
(.leaf ⟨(S.zztx_1_v y0 a1 a2 y1).h_0⟩)
.fail)
def S.zztx (a0 : Lm) (a1 a2 : Int) : Option S.zztx_T := (S.zztx_R a0 a1 a2).run
def S.zztx_is (a0 : Lm) (a1 a2 : Int) : Bool := (S.zztx a0 a1 a2).isSome
def S.zztx_o (a0 : Lm) (a1 a2 : Int) : S.zztx_T := (S.zztx a0 a1 a2).getD default
def ret_zztx (b : Bool) (r : S.zztx_T) : Ret := ⟨b, some (45, (⟨.mat, r.x0⟩ : (t : ET) × List (Ty t))), []⟩
def si_zztx (a0f : Bool) (a0 : Lm) : List DArg → Bool
 | [(false, [.sc (.int .i64 a1)]), (false, [.sc (.int .i64 a2)]), (false, [.fn 23 [] []])] => S.zztx_is a0 a1 a2
 | _ => false
def so_zztx (a0f : Bool) (a0 : Lm) : List DArg → Lm
 | [(false, [.sc (.int .i64 a1)]), (false, [.sc (.int .i64 a2)]), (false, [.fn 23 [] []])] => (S.zztx_o a0 a1 a2).x0
 | _ => a0
def p_zztx : Proc := rowProc 45 .mat si_zztx so_zztx
theorem raw_zztx (a0f : Bool) (a0 : Lm) (a1 a2 : Int) : evP cx_zztx (hdI cx_zztx (find [(4, T_zztx_4), (1, T_zztx_1)]) [] none 0) none Tryz.f60 60 (some 45) [(false, [.sl none a0f .mat a0]), (false, [dI a1]), (false, [dI a2]), (false, [.fn 23 [] []])] some = (S.zztx_R a0 a1 a2).go (ret_zztx true) := by kernel_rfl
theorem bs_zztx : loopsIn Tryz.f60 [] = [b_zztx_1] := by kernel_rfl
theorem zztx_ok : StandsP Tryz.prog tyTab 60 p_zztx := by
 refine standsP (L := find [(4, T_zztx_4), (1, T_zztx_1)]) (n := 0) (hints := [(60, 4, { keep := [0, 1, 2, 3, 8, 9], acc := [] }), (60, 1, { keep := [0, 1, 2, 3, 8], acc := [] })]) (cx_ok rfl) rdy_zztx prs_zztx ⟨by kernel_rfl, by kernel_rfl, by kernel_rfl⟩ bs_zztx (consB (fun T h => by have e : T_zztx_1 = T := Option.some.inj (show some T_zztx_1 = some T from h); exact e ▸ lok_zztx_1) nilB) (by kernel_rfl) rfl (fun a0f a0 ds h => ?_)
 unfold si_zztx at h
 split at h
 ·rename_i a1 a2
  exact ⟨true, win default ((raw_zztx a0f a0 a1 a2).trans (DT.go_run _ _)) h⟩
 ·cases h
end
end Go.Eng
