/- The example of layer 15 (turned from the other seat by numbers: its functions, its type). -/
import Derived.Test.YtoohnjneocohnaaGreatZG9
set_option maxHeartbeats 2000000
set_option maxRecDepth 10000
set_option linter.unusedVariables false
namespace Go.Eng
noncomputable section
open Go Go.Eng Go.Proofs Go.Eng.Tab
abbrev cx_zyn3 : Cx := mkCx2 tyTab [(15, g_zc6y), (11, g_zyqf), (16, g_zihi), (12, g_zdm7), (8, g_z3am), (14, g_zo54)] [] [(4, 3, { keep := [1, 2], acc := [] })] []
theorem rdy_zyn3 : Ready Tryz.prog tyTab [(15, g_zc6y), (11, g_zyqf), (16, g_zihi), (12, g_zdm7), (8, g_z3am), (14, g_zo54)] [] [] := ⟨consG2 zc6y_ok (consG2 zyqf_ok (consG2 zihi_ok (consG2 zdm7_ok (consG2 z3am_ok (consG2 zo54_ok (noneG2)))))), noneI2, noneF2⟩
structure S.zyn3_3_V where
 t2_ : Int
 h3_ : Int
 h_3_1 : Int
 h_3_2 : Ls
 h_3_3 : Int
 h_3_4 : Int
 h_3_5 : Int
 h_3_6 : Int
 h_3_7 : Lr
 h_3_8 : Int
 h_3_9 : Int
 h_3_10 : Int
 h_3_11 : Lm
 h_3_12 : Bool
 h_3_13 : Int
 h_3_14 : Bool
def S.zyn3_3_R  (v : S.zyn3_3_V) : DT (Option Nat × S.zyn3_3_V) :=
let y0 : ByteArray := { data := { toList := [97] : Array UInt8 } : ByteArray }
let y1 : S.zyqf_T := S.zyqf_o v.h3_ v.h_3_1 v.h_3_2 v.h_3_3 v.h_3_4 v.h_3_5 v.h_3_6 v.h_3_7 v.h_3_8 v.h_3_9 v.h_3_10 v.h_3_11 v.h_3_12 v.h_3_13 v.h_3_14 y0 0 [] v.t2_
(.br (xdec (v.t2_ < 6))
(.br (S.zyqf_is v.h3_ v.h_3_1 v.h_3_2 v.h_3_3 v.h_3_4 v.h_3_5 v.h_3_6 v.h_3_7 v.h_3_8 v.h_3_9 v.h_3_10 v.h_3_11 v.h_3_12 v.h_3_13 v.h_3_14 y0 0 [] v.t2_)
(.leaf (none, ⟨xwrap .i64 (v.t2_ + 1), y1.x0, y1.x1, y1.x2, y1.x3, y1.x4, y1.x5, y1.x6, y1.x7, y1.x8, y1.x9, y1.x10, y1.x11, y1.x12, y1.x13, y1.x14⟩))
.fail)
(.leaf (some 0, v)))
def S.zyn3_3_r  (v : S.zyn3_3_V) : Option (Option Nat × S.zyn3_3_V) := (S.zyn3_3_R  v).run
def S.zyn3_3_j  (v : S.zyn3_3_V) (j : Nat) : Bool := Lp_j (S.zyn3_3_r ) v j
def S.zyn3_3_v  (v : S.zyn3_3_V) : S.zyn3_3_V := Lp_v (S.zyn3_3_r ) v
def mk_zyn3_3  (v : S.zyn3_3_V) : St := ⟨(V.any :: (V.v false [C.ptr 3 0] :: ((cV v.t2_) :: (vs 84 [])))), (ns 3 (some (Blk.box 36 [(cI v.h3_), (cI v.h_3_1), cL .step v.h_3_2, (cI v.h_3_3), (cI v.h_3_4), (cI v.h_3_5), (cI v.h_3_6), cL .run v.h_3_7, (cI v.h_3_8), (cI v.h_3_9), (cI v.h_3_10), cL .mat v.h_3_11, cB v.h_3_12, (cI v.h_3_13), cB v.h_3_14]) :: (none :: (none :: [])))), 0⟩
def ex_zyn3_3  (j : Nat) (v : S.zyn3_3_V) : Ex × St := match j with
 | 0 => (Ex.exit 0, ⟨(V.any :: (V.v false [C.ptr 3 0] :: (vs 85 []))), (ns 3 (some
  (Blk.box 36
   [(cI v.h3_), (cI v.h_3_1), cL .step v.h_3_2, (cI v.h_3_3),
    (cI v.h_3_4), (cI v.h_3_5), (cI v.h_3_6), cL .run v.h_3_7,
    (cI v.h_3_8), (cI v.h_3_9), (cI v.h_3_10), cL .mat v.h_3_11,
    cB v.h_3_12, (cI v.h_3_13), cB v.h_3_14]) :: (ns 4 []))), 0⟩)
 | _ => (.ret, ⟨[], [], 0⟩)
def T1_zyn3_3 : V → V → Option Blk → Tree
 | V.v false [C.ptr 3 0], V.v false [C.d (.sc (.int .i64 t2_))], some (Blk.box 36 [C.d (.sc (.int .i64 h3_)), C.d (.sc (.int .i64 h_3_1)), C.d (.sl none false .step h_3_2), C.d (.sc (.int .i64 h_3_3)), C.d (.sc (.int .i64 h_3_4)), C.d (.sc (.int .i64 h_3_5)), C.d (.sc (.int .i64 h_3_6)), C.d (.sl none false .run h_3_7), C.d (.sc (.int .i64 h_3_8)), C.d (.sc (.int .i64 h_3_9)), C.d (.sc (.int .i64 h_3_10)), C.d (.sl none false .mat h_3_11), C.d (.sc (.bool h_3_12)), C.d (.sc (.int .i64 h_3_13)), C.d (.sc (.bool h_3_14))]) => exT (fun j => ex_zyn3_3  j (S.zyn3_3_v  ⟨t2_, h3_, h_3_1, h_3_2, h_3_3, h_3_4, h_3_5, h_3_6, h_3_7, h_3_8, h_3_9, h_3_10, h_3_11, h_3_12, h_3_13, h_3_14⟩)) (S.zyn3_3_j  ⟨t2_, h3_, h_3_1, h_3_2, h_3_3, h_3_4, h_3_5, h_3_6, h_3_7, h_3_8, h_3_9, h_3_10, h_3_11, h_3_12, h_3_13, h_3_14⟩) [0]
 | _, _, _ => .bad
def T_zyn3_3 (st : St) : Tree := bif okSt 87 6 0 [3] st then T1_zyn3_3 (st.env.getD 1 .any) (st.env.getD 2 .any) (lk st.heap 3) else .bad
def b_zyn3_3 : Code := loopBy Tryz.f4 3
theorem rnd_zyn3_3  (v : S.zyn3_3_V) : round2 cx_zyn3 (hdI cx_zyn3 (find []) [] none 0) 4 b_zyn3_3 [] 6 [1] (mk_zyn3_3  v) = (S.zyn3_3_R  v).go (roundOut (mk_zyn3_3 ) (ex_zyn3_3 )) := by kernel_rfl
theorem bs_zyn3_3 : loopsOf b_zyn3_3 ++ loopsInl [] = [] := by kernel_rfl
theorem ci_zyn3_3  : ∀ v j v2, Lp (S.zyn3_3_r ) v = some (j, v2) → Circles Tryz.prog cx_zyn3 b_zyn3_3 (mk_zyn3_3  v) (ex_zyn3_3  j v2).1 (ex_zyn3_3  j v2).2 :=
 loop_ok2 (L := find []) (n := 0) (hints := [(4, 3, { keep := [1, 2], acc := [] })]) (cx_ok rfl) rdy_zyn3 bs_zyn3_3 nilB (fun v => (rnd_zyn3_3  v).trans (DT.go_run _ _)) (by intro j v; unfold ex_zyn3_3; split <;> rfl)
theorem mke_zyn3_3  (v : S.zyn3_3_V) : mk_zyn3_3  v = ⟨envOf 87 [(1, V.v false [C.ptr 3 0]), (2, (cV v.t2_))], heapOf 6 [(3, some
 (Blk.box 36
  [(cI v.h3_), (cI v.h_3_1), cL .step v.h_3_2, (cI v.h_3_3),
   (cI v.h_3_4), (cI v.h_3_5), (cI v.h_3_6), cL .run v.h_3_7,
   (cI v.h_3_8), (cI v.h_3_9), (cI v.h_3_10), cL .mat v.h_3_11,
   cB v.h_3_12, (cI v.h_3_13), cB v.h_3_14]))], 0⟩ := by kernel_rfl
theorem lo1_zyn3_3 (e1 e2 : V) (h3 : Option Blk) e st2 (h : (T1_zyn3_3 e1 e2 h3).eval = some (e, st2)) : Circles Tryz.prog cx_zyn3 b_zyn3_3 ⟨envOf 87 [(1, e1), (2, e2)], heapOf 6 [(3, h3)], 0⟩ e st2 := by
 unfold T1_zyn3_3 at h
 split at h
 ·have := loop_tree (mk := mk_zyn3_3 ) (ci_zyn3_3 ) _ _ e st2 h
  rw [mke_zyn3_3] at this
  exact this
 ·cases h
theorem lok_zyn3_3 : LoopOk Tryz.prog cx_zyn3 b_zyn3_3 T_zyn3_3 := by
 intro st e st2 h
 unfold T_zyn3_3 at h
 cases hk : okSt 87 6 0 [3] st with
 | false => rw [hk] at h; cases h
 | true =>
  rw [hk] at h
  exact circles_keep (ks := [1, 2]) hk (lo1_zyn3_3 _ _ _ e st2 h)
structure S.zyn3_T where
 x0 : Bool
 deriving Inhabited
def S.zyn3_R  : DT S.zyn3_T :=
let y0 := S.z3am_o 3 1 S.zo54_o.x0 S.zo54_o.x1 S.zo54_o.x2 S.zo54_o.x3 S.zo54_o.x4
let y1 : S.zyn3_3_V := { t2_ := 0, h3_ := y0.x0, h_3_1 := y0.x1, h_3_2 := y0.x2, h_3_3 := y0.x3, h_3_4 := y0.x4, h_3_5 := y0.x5, h_3_6 := y0.x6, h_3_7 := y0.x7, h_3_8 := y0.x8, h_3_9 := y0.x9, h_3_10 := y0.x10, h_3_11 := y0.x11, h_3_12 := y0.x12, h_3_13 := y0.x13, h_3_14 := y0.x14 : S.zyn3_3_V }
let y2 := S.zyn3_3_v y1
let y3 := y2.h3_
let y4 := y2.h_3_1
let y5 := y2.h_3_2
let y6 := y2.h_3_3
let y7 := y2.h_3_4
let y8 := y2.h_3_5
let y9 := y2.h_3_6
let y10 := y2.h_3_7
let y11 := y2.h_3_8
let y12 := y2.h_3_9
let y13 := y2.h_3_10
let y14 := y2.h_3_11
let y15 := y2.h_3_12
let y16 := y2.h_3_13
let y17 := y2.h_3_14
let y18 : ByteArray := { data := { toList := [97] : Array UInt8 } : ByteArray }
let y19 : S.zyqf_T := S.zyqf_o y3 y4 y5 y6 y7 y8 y9 y10 y11 y12 y13 y14 y15 y16 y17 y18 0 [] 6
let y20 := y19.x0
let y21 := y19.x1
let y22 := y19.x2
let y23 := y19.x3
let y24 := y19.x4
let y25 := y19.x5
let y26 := y19.x6
let y27 := y19.x7
let y28 := y19.x8
let y29 := y19.x9
let y30 := y19.x10
let y31 := y19.x11
let y32 := y19.x12
let y33 := y19.x13
let y34 := y19.x14
let y35 := S.zdm7_o y20 y21 y22 y23 y24 y25 y26 y27 y28 y29 y30 y31 y32 y33 y34
let y36 := y35.x14
let y37 := S.zdm7_o y3 y4 y5 y6 y7 y8 y9 y10 y11 y12 y13 y14 y15 y16 y17
let y38 := y35.x0
let y39 := y35.x1
let y40 := y35.x2
let y41 := y35.x7
let y42 := y35.x8
let y43 := y35.x9
let y44 := y35.x10
let y45 := y35.x11
let y46 := y35.x13
(.br (S.zo54_is)
(.br (S.zyn3_3_j y1 0)
(.br (S.zyqf_is y3 y4 y5 y6 y7 y8 y9 y10 y11 y12 y13 y14 y15 y16 y17 y18 0 [] 6)
(.br (S.zdm7_is y20 y21 y22 y23 y24 y25 y26 y27 y28 y29 y30 y31 y32 y33 y34)
(.br (S.zdm7_is y3 y4 y5 y6 y7 y8 y9 y10 y11 y12 y13 y14 y15 y16 y17)
(.br (xeqI y16 0)
(.br (xeqI (↑y14.length : Int) 6)
(.br (xeqI y33 2)
(.br (xeqI (↑y31.length : Int) 0)
(.br (y35.x22)
(.br (xeqI y35.x15 3 && (xeqI y35.x16 0 && (xeqI y35.x17 2 && (xeqI y35.x18 0 && (xeqI y35.x19 0 && (xeqI y35.x20 0 && xeqB y35.x21 false))))))
(.br (y36)
(.br (y37.x22)
(.br (xeqI y37.x16 1)
(.br (S.zc6y_is y38 y39 y40 y41 y42 y43 y44 y45 y46 y36)
(.br ((S.zc6y_o y38 y39 y40 y41 y42 y43 y44 y45 y46 y36).x0)
(.br (S.zihi_is y3 y4 y5 y6 y7 y8 y9 y10 y11 y12 y13 y14 y15 y16 y17 y20 y21 y22 y23 y24 y25 y26 y27 y28 y29 y30 y31 y32 y33 y34)
(.leaf ⟨xnot (S.zihi_o y3 y4 y5 y6 y7 y8 y9 y10 y11 y12 y13 y14 y15 y16 y17 y20 y21 y22 y23 y24 y25 y26 y27 y28 y29 y30 y31 y32 y33 y34).x0⟩)
.fail)
(.leaf ⟨false⟩))
.fail)
(.leaf ⟨false⟩))
(.leaf ⟨false⟩))
(.leaf ⟨false⟩))
(.leaf ⟨false⟩))
(.leaf ⟨false⟩))
(.leaf ⟨false⟩))
(.leaf ⟨false⟩))
(.leaf ⟨false⟩))
(.leaf ⟨false⟩))
.fail)
.fail)
.fail)
.fail)
.fail)
def S.zyn3  : Option S.zyn3_T := (S.zyn3_R ).run
def S.zyn3_is  : Bool := (S.zyn3 ).isSome
def S.zyn3_o  : S.zyn3_T := (S.zyn3 ).getD default
def ret_zyn3 (b : Bool) (r : S.zyn3_T) : Ret := ⟨b, none, [(false, [cB r.x0])]⟩
def g_zyn3 : Con
 | [] => some (ret_zyn3 (S.zyn3_is ) (S.zyn3_o ))
 | _ => none
theorem raw_zyn3  : evR2 cx_zyn3 (hdI cx_zyn3 (find [(3, T_zyn3_3)]) [] none 0) none Tryz.f4 4 none [] some = (S.zyn3_R ).go (ret_zyn3 true) := by kernel_rfl
theorem bs_zyn3 : loopsIn Tryz.f4 [] = [b_zyn3_3] := by kernel_rfl
theorem zyn3_ok : Stands Tryz.prog tyTab 4 g_zyn3 := by
 refine stands3 (L := find [(3, T_zyn3_3)]) (n := 0) (hints := [(4, 3, { keep := [1, 2], acc := [] })]) (cx_ok rfl) rdy_zyn3 ⟨by kernel_rfl, by kernel_rfl, by kernel_rfl⟩ bs_zyn3 (consB (fun T h => by have e : T_zyn3_3 = T := Option.some.inj (show some T_zyn3_3 = some T from h); exact e ▸ lok_zyn3_3) nilB) (fun das r hG hr => ?_)
 unfold g_zyn3 at hG
 split at hG
 ·injection hG with hG; subst hG
  exact ⟨none, true, win default ((raw_zyn3 ).trans (DT.go_run _ _)) hr⟩
 ·cases hG
end
end Go.Eng
