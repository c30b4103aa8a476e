/- Contracts, laid by program. -/
import Derived.Test.YtoohnjneocohnaaGreatZG13
import Derived.Test.YtoohnjneocohnaaGreatZG20
set_option maxHeartbeats 2000000
set_option maxRecDepth 10000
set_option linter.unusedVariables false
namespace Go.Eng
noncomputable section
open Go Go.Eng Go.Proofs Go.Eng.Tab
abbrev cx_zkmz : Cx := mkCx2 tyTab [(4, g_zyn3), (5, g_zydq), (6, g_zgwp), (7, g_zjar), (8, g_z3am), (9, g_all2), (10, g_zjsn), (11, g_zyqf), (12, g_zdm7), (13, g_z7df)] [] [(3, 17, { keep := [1, 9, 10, 11, 12, 13, 14, 15], acc := [] }), (3, 13, { keep := [1, 9, 10, 11, 12, 13, 14], acc := [] })] []
theorem rdy_zkmz : Ready Tryz.prog tyTab [(4, g_zyn3), (5, g_zydq), (6, g_zgwp), (7, g_zjar), (8, g_z3am), (9, g_all2), (10, g_zjsn), (11, g_zyqf), (12, g_zdm7), (13, g_z7df)] [] [] := ⟨consG2 zyn3_ok (consG2 zydq_ok (consG2 zgwp_ok (consG2 zjar_ok (consG2 z3am_ok (consG2 all2_ok (consG2 zjsn_ok (consG2 zyqf_ok (consG2 zdm7_ok (consG2 z7df_ok (noneG2)))))))))), noneI2, noneF2⟩
structure S.zkmz_17_V where
 t12_ : Int
 t13_ : Int
 t15_ : Int
 h29_ : Int
 h_29_1 : Int
 h_29_2 : Ls
 h_29_3 : Int
 h_29_4 : Int
 h_29_5 : Int
 h_29_6 : Int
 h_29_7 : Lr
 h_29_8 : Int
 h_29_9 : Int
 h_29_10 : Int
 h_29_11 : Lm
 h_29_12 : Bool
 h_29_13 : Int
 h_29_14 : Bool
def S.zkmz_17_R (t10_l : Nat) (qA t14_ : Int) (h_33 : Lm) (v : S.zkmz_17_V) : DT (Option Nat × S.zkmz_17_V) :=
let y0 := S.zdm7_o v.h29_ v.h_29_1 v.h_29_2 v.h_29_3 v.h_29_4 v.h_29_5 v.h_29_6 v.h_29_7 v.h_29_8 v.h_29_9 v.h_29_10 v.h_29_11 v.h_29_12 v.h_29_13 v.h_29_14
let y1 := y0.x17
let y2 : Int := xwrap .i64 (v.t15_ + 1)
let y3 := y0.x0
let y4 := y0.x1
let y5 := y0.x2
let y6 := y0.x3
let y7 := y0.x4
let y8 := y0.x5
let y9 := y0.x6
let y10 := y0.x7
let y11 := y0.x8
let y12 := y0.x9
let y13 := y0.x10
let y14 := y0.x11
let y15 := y0.x12
let y16 := y0.x13
let y17 := y0.x14
let y18 : Int := (↑t10_l : Int)
let y19 : Int := xwrap .i64 (v.t12_ + 1)
let y20 : Nat := 0 + v.t12_.toNat
let y21 : Ty .mat := h_33.getD y20 (dflt .mat)
(.br (xdec (v.t15_ < 9))
(.br (S.zdm7_is v.h29_ v.h_29_1 v.h_29_2 v.h_29_3 v.h_29_4 v.h_29_5 v.h_29_6 v.h_29_7 v.h_29_8 v.h_29_9 v.h_29_10 v.h_29_11 v.h_29_12 v.h_29_13 v.h_29_14)
(.br (xnot y0.x22)
(.leaf (some 0, v))
(.br (xneI y1 0)
(.br (xneI y1 1)
(.leaf (some 1, v))
(.br (xneI t14_ qA)
(.leaf (some 1, v))
(.leaf (none, ⟨v.t12_, xwrap .i64 (v.t13_ + 1), y2, y3, y4, y5, y6, y7, y8, y9, y10, y11, y12, y13, y14, y15, y16, y17⟩))))
(.br (xdec (v.t12_ ≥ y18))
(.leaf (some 1, v))
(.br (xneI y0.x16 y19)
(.leaf (some 1, v))
(.br (xdec (0 ≤ v.t12_) && xdec (v.t12_ < y18))
(.br (xdec (y20 < h_33.length))
(.br (bif xeqI y0.x18 y21.start && (xeqI y0.x19 y21.fin && (xeqI y0.x20 y21.agg && xeqB y0.x21 y21.bad)) then false else true)
(.leaf (some 1, v))
(.br (xneI y0.x15 1)
(.leaf (some 1, v))
(.br (xdec (v.t13_ > 0))
(.leaf (some 1, v))
(.leaf (none, ⟨y19, v.t13_, y2, y3, y4, y5, y6, y7, y8, y9, y10, y11, y12, y13, y14, y15, y16, y17⟩)))))
.fail)
.fail)))))
.fail)
(.leaf (some 0, v)))
def S.zkmz_17_r (t10_l : Nat) (qA t14_ : Int) (h_33 : Lm) (v : S.zkmz_17_V) : Option (Option Nat × S.zkmz_17_V) := (S.zkmz_17_R t10_l qA t14_ h_33 v).run
def S.zkmz_17_j (t10_l : Nat) (qA t14_ : Int) (h_33 : Lm) (v : S.zkmz_17_V) (j : Nat) : Bool := Lp_j (S.zkmz_17_r t10_l qA t14_ h_33) v j
def S.zkmz_17_v (t10_l : Nat) (qA t14_ : Int) (h_33 : Lm) (v : S.zkmz_17_V) : S.zkmz_17_V := Lp_v (S.zkmz_17_r t10_l qA t14_ h_33) v
def mk_zkmz_17 (qB : OBz) (qC : Bool) (qD : Le) (qE : Bool) (t10_l : Nat) (qA t14_ : Int) (qF : OBz) (qG : Bool) (qH : Ls) (qI qJ qK qL : Int) (h_33 : Lm) (v : S.zkmz_17_V) : St := ⟨(V.any :: (V.v false [C.d (.sl qB qC .evt qD)] :: (vs 7 (V.v false [C.ptr 29 0] :: (V.v false [C.own 33 .mat qE 0 t10_l] :: ((cV qA) :: ((cV v.t12_) :: ((cV v.t13_) :: ((cV t14_) :: ((cV v.t15_) :: (vs 134 []))))))))))), (some (Blk.box 24 [C.d (.sl qF qG .step qH), (cI qI), (cI qJ), (cI qK), (cI qL)]) :: (ns 28 (some (Blk.box 36 [(cI v.h29_), (cI v.h_29_1), cL .step v.h_29_2, (cI v.h_29_3), (cI v.h_29_4), (cI v.h_29_5), (cI v.h_29_6), cL .run v.h_29_7, (cI v.h_29_8), (cI v.h_29_9), (cI v.h_29_10), cL .mat v.h_29_11, cB v.h_29_12, (cI v.h_29_13), cB v.h_29_14]) :: (ns 3 (some (Blk.arr 45 .mat h_33) :: (ns 21 [])))))), 0⟩
def ex_zkmz_17 (qB : OBz) (qC : Bool) (qD : Le) (qE : Bool) (t10_l : Nat) (qA t14_ : Int) (qF : OBz) (qG : Bool) (qH : Ls) (qI qJ qK qL : Int) (h_33 : Lm) (j : Nat) (v : S.zkmz_17_V) : Ex × St := match j with
 | 0 => (Ex.exit 2, ⟨(V.any :: (V.v false [C.d (.sl qB qC .evt qD)] :: (vs 7 (V.v false [C.ptr 29 0] :: (V.v false [C.own 33 .mat qE 0 t10_l] :: ((cV qA) :: ((cV v.t12_) :: ((cV v.t13_) :: ((cV t14_) :: (vs 135 [])))))))))), (some
  (Blk.box 24
   [C.d (.sl qF qG .step qH), (cI qI), (cI qJ), (cI qK),
    (cI qL)]) :: (ns 28 (some
  (Blk.box 36
   [(cI v.h29_), (cI v.h_29_1), cL .step v.h_29_2, (cI v.h_29_3),
    (cI v.h_29_4), (cI v.h_29_5), (cI v.h_29_6), cL .run v.h_29_7,
    (cI v.h_29_8), (cI v.h_29_9), (cI v.h_29_10), cL .mat v.h_29_11,
    cB v.h_29_12, (cI v.h_29_13), cB v.h_29_14]) :: (ns 3 (some (Blk.arr 45 .mat h_33) :: (ns 21 [])))))), 0⟩)
 | 1 => (Ex.ret, ⟨(vs 4 (V.v false [cB false] :: (vs 145 []))), [], 0⟩)
 | _ => (.ret, ⟨[], [], 0⟩)
def T1_zkmz_17 (e1 e9 e10 e11 e12 e13 e14 e15 : V) (h0 h29 h33 : Option Blk) : Tree := Uz8 e1 (fun qB qC qD => Uz12 e9 (Uz13 e10 (fun qE t10_l => Uz3 e11 (fun qA => Uz3 e12 (fun t12_ => Uz3 e13 (fun t13_ => Uz3 e14 (fun t14_ => Uz3 e15 (fun t15_ => Uz9 h0 (fun qF qG qH qI qJ qK qL => Uz14 h29 (fun h29_ h_29_1 h_29_2 h_29_3 h_29_4 h_29_5 h_29_6 h_29_7 h_29_8 h_29_9 h_29_10 h_29_11 h_29_12 h_29_13 h_29_14 => Uz7 h33 (fun h_33 => exT (fun j => ex_zkmz_17 qB qC qD qE t10_l qA t14_ qF qG qH qI qJ qK qL h_33 j (S.zkmz_17_v t10_l qA t14_ h_33 ⟨t12_, t13_, t15_, h29_, h_29_1, h_29_2, h_29_3, h_29_4, h_29_5, h_29_6, h_29_7, h_29_8, h_29_9, h_29_10, h_29_11, h_29_12, h_29_13, h_29_14⟩)) (S.zkmz_17_j t10_l qA t14_ h_33 ⟨t12_, t13_, t15_, h29_, h_29_1, h_29_2, h_29_3, h_29_4, h_29_5, h_29_6, h_29_7, h_29_8, h_29_9, h_29_10, h_29_11, h_29_12, h_29_13, h_29_14⟩) [0, 1])))))))))))
def T_zkmz_17 (st : St) : Tree := bif okSt 150 55 0 [0, 29, 33] st then T1_zkmz_17 (st.env.getD 1 .any) (st.env.getD 9 .any) (st.env.getD 10 .any) (st.env.getD 11 .any) (st.env.getD 12 .any) (st.env.getD 13 .any) (st.env.getD 14 .any) (st.env.getD 15 .any) (lk st.heap 0) (lk st.heap 29) (lk st.heap 33) else .bad
def b_zkmz_17 : Code := loopBy Tryz.f3 17
theorem rnd_zkmz_17 (qB : OBz) (qC : Bool) (qD : Le) (qE : Bool) (t10_l : Nat) (qA t14_ : Int) (qF : OBz) (qG : Bool) (qH : Ls) (qI qJ qK qL : Int) (h_33 : Lm) (v : S.zkmz_17_V) : round2 cx_zkmz (hdI cx_zkmz (find []) [] none 0) 3 b_zkmz_17 [] 55 [1, 4, 9, 10, 11, 12, 13, 14, 1000055, 3000004] (mk_zkmz_17 qB qC qD qE t10_l qA t14_ qF qG qH qI qJ qK qL h_33 v) = (S.zkmz_17_R t10_l qA t14_ h_33 v).go (roundOut (mk_zkmz_17 qB qC qD qE t10_l qA t14_ qF qG qH qI qJ qK qL h_33) (ex_zkmz_17 qB qC qD qE t10_l qA t14_ qF qG qH qI qJ qK qL h_33)) := by kernel_rfl
theorem bs_zkmz_17 : loopsOf b_zkmz_17 ++ loopsInl [] = [] := by kernel_rfl
theorem ci_zkmz_17 (qB : OBz) (qC : Bool) (qD : Le) (qE : Bool) (t10_l : Nat) (qA t14_ : Int) (qF : OBz) (qG : Bool) (qH : Ls) (qI qJ qK qL : Int) (h_33 : Lm) : ∀ v j v2, Lp (S.zkmz_17_r t10_l qA t14_ h_33) v = some (j, v2) → Circles Tryz.prog cx_zkmz b_zkmz_17 (mk_zkmz_17 qB qC qD qE t10_l qA t14_ qF qG qH qI qJ qK qL h_33 v) (ex_zkmz_17 qB qC qD qE t10_l qA t14_ qF qG qH qI qJ qK qL h_33 j v2).1 (ex_zkmz_17 qB qC qD qE t10_l qA t14_ qF qG qH qI qJ qK qL h_33 j v2).2 :=
 loop_ok2 (L := find []) (n := 0) (hints := [(3, 17, { keep := [1, 9, 10, 11, 12, 13, 14, 15], acc := [] }), (3, 13, { keep := [1, 9, 10, 11, 12, 13, 14], acc := [] })]) (cx_ok rfl) rdy_zkmz bs_zkmz_17 nilB (fun v => (rnd_zkmz_17 qB qC qD qE t10_l qA t14_ qF qG qH qI qJ qK qL h_33 v).trans (DT.go_run _ _)) (by intro j v; unfold ex_zkmz_17; split <;> rfl)
theorem mke_zkmz_17 (qB : OBz) (qC : Bool) (qD : Le) (qE : Bool) (t10_l : Nat) (qA t14_ : Int) (qF : OBz) (qG : Bool) (qH : Ls) (qI qJ qK qL : Int) (h_33 : Lm) (v : S.zkmz_17_V) : mk_zkmz_17 qB qC qD qE t10_l qA t14_ qF qG qH qI qJ qK qL h_33 v = ⟨envOf 150 [(1, V.v false [C.d (.sl qB qC .evt qD)]), (9, V.v false [C.ptr 29 0]), (10, V.v false [C.own 33 .mat qE 0 t10_l]), (11, (cV qA)), (12, (cV v.t12_)), (13, (cV v.t13_)), (14, (cV t14_)), (15, (cV v.t15_))], heapOf 55 [(0, some
 (Blk.box 24
  [C.d (.sl qF qG .step qH), (cI qI), (cI qJ), (cI qK),
   (cI qL)])), (29, some
 (Blk.box 36
  [(cI v.h29_), (cI v.h_29_1), cL .step v.h_29_2, (cI v.h_29_3),
   (cI v.h_29_4), (cI v.h_29_5), (cI v.h_29_6), cL .run v.h_29_7,
   (cI v.h_29_8), (cI v.h_29_9), (cI v.h_29_10), cL .mat v.h_29_11,
   cB v.h_29_12, (cI v.h_29_13), cB v.h_29_14])), (33, some (Blk.arr 45 .mat h_33))], 0⟩ := by kernel_rfl
theorem lo1_zkmz_17 (e1 e9 e10 e11 e12 e13 e14 e15 : V) (h0 h29 h33 : Option Blk) e st2 (h : (T1_zkmz_17 e1 e9 e10 e11 e12 e13 e14 e15 h0 h29 h33).eval = some (e, st2)) : Circles Tryz.prog cx_zkmz b_zkmz_17 ⟨envOf 150 [(1, e1), (9, e9), (10, e10), (11, e11), (12, e12), (13, e13), (14, e14), (15, e15)], heapOf 55 [(0, h0), (29, h29), (33, h33)], 0⟩ e st2 := by
 unfold T1_zkmz_17 at h
 obtain ⟨qB, qC, qD, rfl, h⟩ := Uz8i h
 obtain ⟨rfl, h⟩ := Uz12i h
 obtain ⟨qE, t10_l, rfl, h⟩ := Uz13i h
 obtain ⟨qA, rfl, h⟩ := Uz3i h
 obtain ⟨t12_, rfl, h⟩ := Uz3i h
 obtain ⟨t13_, rfl, h⟩ := Uz3i h
 obtain ⟨t14_, rfl, h⟩ := Uz3i h
 obtain ⟨t15_, rfl, h⟩ := Uz3i h
 obtain ⟨qF, qG, qH, qI, qJ, qK, qL, rfl, h⟩ := Uz9i h
 obtain ⟨h29_, h_29_1, h_29_2, h_29_3, h_29_4, h_29_5, h_29_6, h_29_7, h_29_8, h_29_9, h_29_10, h_29_11, h_29_12, h_29_13, h_29_14, rfl, h⟩ := Uz14i h
 obtain ⟨h_33, rfl, h⟩ := Uz7i h
 have := loop_tree (mk := mk_zkmz_17 qB qC qD qE t10_l qA t14_ qF qG qH qI qJ qK qL h_33) (ci_zkmz_17 qB qC qD qE t10_l qA t14_ qF qG qH qI qJ qK qL h_33) _ _ e st2 h
 rw [mke_zkmz_17] at this
 exact this
theorem lok_zkmz_17 : LoopOk Tryz.prog cx_zkmz b_zkmz_17 T_zkmz_17 := by
 intro st e st2 h
 unfold T_zkmz_17 at h
 cases hk : okSt 150 55 0 [0, 29, 33] st with
 | false => rw [hk] at h; cases h
 | true =>
  rw [hk] at h
  exact circles_keep (ks := [1, 9, 10, 11, 12, 13, 14, 15]) hk (lo1_zkmz_17 _ _ _ _ _ _ _ _ _ _ _ e st2 h)
structure S.zkmz_13_V where
 t12_ : Int
 t13_ : Int
 t14_ : Int
 h29_ : Int
 h_29_1 : Int
 h_29_2 : Ls
 h_29_3 : Int
 h_29_4 : Int
 h_29_5 : Int
 h_29_6 : Int
 h_29_7 : Lr
 h_29_8 : Int
 h_29_9 : Int
 h_29_10 : Int
 h_29_11 : Lm
 h_29_12 : Bool
 h_29_13 : Int
 h_29_14 : Bool
def S.zkmz_13_R (qD : Le) (t10_l : Nat) (qA : Int) (h_33 : Lm) (v : S.zkmz_13_V) : DT (Option Nat × S.zkmz_13_V) :=
let y0 : Bool := xdec (v.t14_ < (↑qD.length : Int))
let y1 : Ty .evt := qD.getD v.t14_.toNat (dflt .evt)
let y2 := y1.name
let y3 := y1.at_
let y4 := y1.v
let y5 := S.zyqf_o v.h29_ v.h_29_1 v.h_29_2 v.h_29_3 v.h_29_4 v.h_29_5 v.h_29_6 v.h_29_7 v.h_29_8 v.h_29_9 v.h_29_10 v.h_29_11 v.h_29_12 v.h_29_13 v.h_29_14 y2 y3 y4 v.t14_
let y6 : S.zkmz_17_V := { t12_ := v.t12_, t13_ := v.t13_, t15_ := 0, h29_ := y5.x0, h_29_1 := y5.x1, h_29_2 := y5.x2, h_29_3 := y5.x3, h_29_4 := y5.x4, h_29_5 := y5.x5, h_29_6 := y5.x6, h_29_7 := y5.x7, h_29_8 := y5.x8, h_29_9 := y5.x9, h_29_10 := y5.x10, h_29_11 := y5.x11, h_29_12 := y5.x12, h_29_13 := y5.x13, h_29_14 := y5.x14 : S.zkmz_17_V }
let y7 := S.zkmz_17_v t10_l qA v.t14_ h_33 y6
let y8 := y7.h29_
let y9 := y7.h_29_1
let y10 := y7.h_29_2
let y11 := y7.h_29_3
let y12 := y7.h_29_4
let y13 := y7.h_29_5
let y14 := y7.h_29_6
let y15 := y7.h_29_7
let y16 := y7.h_29_8
let y17 := y7.h_29_9
let y18 := y7.h_29_10
let y19 := y7.h_29_11
let y20 := y7.h_29_12
let y21 := y7.h_29_13
let y22 := y7.h_29_14
let y23 := y7.t12_
let y24 := S.z7df_o y8 y9 y10 y11 y12 y13 y14 y15 y16 y17 y18 y19 y20 y21 y22 y23
(.br (y0)
(.br (xdec (0 ≤ v.t14_) && y0)
(.br (S.zyqf_is v.h29_ v.h_29_1 v.h_29_2 v.h_29_3 v.h_29_4 v.h_29_5 v.h_29_6 v.h_29_7 v.h_29_8 v.h_29_9 v.h_29_10 v.h_29_11 v.h_29_12 v.h_29_13 v.h_29_14 y2 y3 y4 v.t14_)
(.br (S.zkmz_17_j t10_l qA v.t14_ h_33 y6 0)
(.br (S.z7df_is y8 y9 y10 y11 y12 y13 y14 y15 y16 y17 y18 y19 y20 y21 y22 y23)
(.br (xneI y24.x15 0)
(.leaf (some 0, v))
(.leaf (none, ⟨y23, y7.t13_, xwrap .i64 (v.t14_ + 1), y24.x0, y24.x1, y24.x2, y24.x3, y24.x4, y24.x5, y24.x6, y24.x7, y24.x8, y24.x9, y24.x10, y24.x11, y24.x12, y24.x13, y24.x14⟩)))
.fail)
(.br (S.zkmz_17_j t10_l qA v.t14_ h_33 y6 1)
(.leaf (some 0, v))
.fail))
.fail)
.fail)
(.leaf (some 1, v)))
def S.zkmz_13_r (qD : Le) (t10_l : Nat) (qA : Int) (h_33 : Lm) (v : S.zkmz_13_V) : Option (Option Nat × S.zkmz_13_V) := (S.zkmz_13_R qD t10_l qA h_33 v).run
def S.zkmz_13_j (qD : Le) (t10_l : Nat) (qA : Int) (h_33 : Lm) (v : S.zkmz_13_V) (j : Nat) : Bool := Lp_j (S.zkmz_13_r qD t10_l qA h_33) v j
def S.zkmz_13_v (qD : Le) (t10_l : Nat) (qA : Int) (h_33 : Lm) (v : S.zkmz_13_V) : S.zkmz_13_V := Lp_v (S.zkmz_13_r qD t10_l qA h_33) v
def mk_zkmz_13 (qB : OBz) (qC : Bool) (qD : Le) (qE : Bool) (t10_l : Nat) (qA : Int) (qF : OBz) (qG : Bool) (qH : Ls) (qI qJ qK qL : Int) (h_33 : Lm) (v : S.zkmz_13_V) : St := ⟨(V.any :: (V.v false [C.d (.sl qB qC .evt qD)] :: (vs 7 (V.v false [C.ptr 29 0] :: (V.v false [C.own 33 .mat qE 0 t10_l] :: ((cV qA) :: ((cV v.t12_) :: ((cV v.t13_) :: ((cV v.t14_) :: (vs 135 [])))))))))), (some (Blk.box 24 [C.d (.sl qF qG .step qH), (cI qI), (cI qJ), (cI qK), (cI qL)]) :: (ns 28 (some (Blk.box 36 [(cI v.h29_), (cI v.h_29_1), cL .step v.h_29_2, (cI v.h_29_3), (cI v.h_29_4), (cI v.h_29_5), (cI v.h_29_6), cL .run v.h_29_7, (cI v.h_29_8), (cI v.h_29_9), (cI v.h_29_10), cL .mat v.h_29_11, cB v.h_29_12, (cI v.h_29_13), cB v.h_29_14]) :: (ns 3 (some (Blk.arr 45 .mat h_33) :: (ns 8 [])))))), 0⟩
def ex_zkmz_13 (qB : OBz) (qC : Bool) (qD : Le) (qE : Bool) (t10_l : Nat) (qA : Int) (qF : OBz) (qG : Bool) (qH : Ls) (qI qJ qK qL : Int) (h_33 : Lm) (j : Nat) (v : S.zkmz_13_V) : Ex × St := match j with
 | 0 => (Ex.ret, ⟨(vs 4 (V.v false [cB false] :: (vs 145 []))), [], 0⟩)
 | 1 => (Ex.exit 0, ⟨(vs 9 (V.v false [C.ptr 29 0] :: (V.v false [C.own 33 .mat qE 0 t10_l] :: ((cV qA) :: ((cV v.t12_) :: ((cV v.t13_) :: (vs 136 []))))))), (some
  (Blk.box 24
   [C.d (.sl qF qG .step qH), (cI qI), (cI qJ), (cI qK),
    (cI qL)]) :: (ns 28 (some
  (Blk.box 36
   [(cI v.h29_), (cI v.h_29_1), cL .step v.h_29_2, (cI v.h_29_3),
    (cI v.h_29_4), (cI v.h_29_5), (cI v.h_29_6), cL .run v.h_29_7,
    (cI v.h_29_8), (cI v.h_29_9), (cI v.h_29_10), cL .mat v.h_29_11,
    cB v.h_29_12, (cI v.h_29_13), cB v.h_29_14]) :: (ns 3 (some (Blk.arr 45 .mat h_33) :: (ns 8 [])))))), 0⟩)
 | _ => (.ret, ⟨[], [], 0⟩)
def T1_zkmz_13 (e1 e9 e10 e11 e12 e13 e14 : V) (h0 h29 h33 : Option Blk) : Tree := Uz8 e1 (fun qB qC qD => Uz12 e9 (Uz13 e10 (fun qE t10_l => Uz3 e11 (fun qA => Uz3 e12 (fun t12_ => Uz3 e13 (fun t13_ => Uz3 e14 (fun t14_ => Uz9 h0 (fun qF qG qH qI qJ qK qL => Uz14 h29 (fun h29_ h_29_1 h_29_2 h_29_3 h_29_4 h_29_5 h_29_6 h_29_7 h_29_8 h_29_9 h_29_10 h_29_11 h_29_12 h_29_13 h_29_14 => Uz7 h33 (fun h_33 => exT (fun j => ex_zkmz_13 qB qC qD qE t10_l qA qF qG qH qI qJ qK qL h_33 j (S.zkmz_13_v qD t10_l qA h_33 ⟨t12_, t13_, t14_, h29_, h_29_1, h_29_2, h_29_3, h_29_4, h_29_5, h_29_6, h_29_7, h_29_8, h_29_9, h_29_10, h_29_11, h_29_12, h_29_13, h_29_14⟩)) (S.zkmz_13_j qD t10_l qA h_33 ⟨t12_, t13_, t14_, h29_, h_29_1, h_29_2, h_29_3, h_29_4, h_29_5, h_29_6, h_29_7, h_29_8, h_29_9, h_29_10, h_29_11, h_29_12, h_29_13, h_29_14⟩) [0, 1]))))))))))
def T_zkmz_13 (st : St) : Tree := bif okSt 150 42 0 [0, 29, 33] st then T1_zkmz_13 (st.env.getD 1 .any) (st.env.getD 9 .any) (st.env.getD 10 .any) (st.env.getD 11 .any) (st.env.getD 12 .any) (st.env.getD 13 .any) (st.env.getD 14 .any) (lk st.heap 0) (lk st.heap 29) (lk st.heap 33) else .bad
def b_zkmz_13 : Code := loopBy Tryz.f3 13
theorem rnd_zkmz_13 (qB : OBz) (qC : Bool) (qD : Le) (qE : Bool) (t10_l : Nat) (qA : Int) (qF : OBz) (qG : Bool) (qH : Ls) (qI qJ qK qL : Int) (h_33 : Lm) (v : S.zkmz_13_V) : round2 cx_zkmz (hdI cx_zkmz (find [(17, T_zkmz_17)]) [] none 0) 3 b_zkmz_13 [] 42 [4, 9, 10, 11, 12, 13, 1000042, 3000004] (mk_zkmz_13 qB qC qD qE t10_l qA qF qG qH qI qJ qK qL h_33 v) = (S.zkmz_13_R qD t10_l qA h_33 v).go (roundOut (mk_zkmz_13 qB qC qD qE t10_l qA qF qG qH qI qJ qK qL h_33) (ex_zkmz_13 qB qC qD qE t10_l qA qF qG qH qI qJ qK qL h_33)) := by kernel_rfl
theorem bs_zkmz_13 : loopsOf b_zkmz_13 ++ loopsInl [] = [b_zkmz_17] := by kernel_rfl
theorem ci_zkmz_13 (qB : OBz) (qC : Bool) (qD : Le) (qE : Bool) (t10_l : Nat) (qA : Int) (qF : OBz) (qG : Bool) (qH : Ls) (qI qJ qK qL : Int) (h_33 : Lm) : ∀ v j v2, Lp (S.zkmz_13_r qD t10_l qA h_33) v = some (j, v2) → Circles Tryz.prog cx_zkmz b_zkmz_13 (mk_zkmz_13 qB qC qD qE t10_l qA qF qG qH qI qJ qK qL h_33 v) (ex_zkmz_13 qB qC qD qE t10_l qA qF qG qH qI qJ qK qL h_33 j v2).1 (ex_zkmz_13 qB qC qD qE t10_l qA qF qG qH qI qJ qK qL h_33 j v2).2 :=
 loop_ok2 (L := find [(17, T_zkmz_17)]) (n := 0) (hints := [(3, 17, { keep := [1, 9, 10, 11, 12, 13, 14, 15], acc := [] }), (3, 13, { keep := [1, 9, 10, 11, 12, 13, 14], acc := [] })]) (cx_ok rfl) rdy_zkmz bs_zkmz_13 (consB (fun T h => by have e : T_zkmz_17 = T := Option.some.inj (show some T_zkmz_17 = some T from h); exact e ▸ lok_zkmz_17) nilB) (fun v => (rnd_zkmz_13 qB qC qD qE t10_l qA qF qG qH qI qJ qK qL h_33 v).trans (DT.go_run _ _)) (by intro j v; unfold ex_zkmz_13; split <;> rfl)
theorem mke_zkmz_13 (qB : OBz) (qC : Bool) (qD : Le) (qE : Bool) (t10_l : Nat) (qA : Int) (qF : OBz) (qG : Bool) (qH : Ls) (qI qJ qK qL : Int) (h_33 : Lm) (v : S.zkmz_13_V) : mk_zkmz_13 qB qC qD qE t10_l qA qF qG qH qI qJ qK qL h_33 v = ⟨envOf 150 [(1, V.v false [C.d (.sl qB qC .evt qD)]), (9, V.v false [C.ptr 29 0]), (10, V.v false [C.own 33 .mat qE 0 t10_l]), (11, (cV qA)), (12, (cV v.t12_)), (13, (cV v.t13_)), (14, (cV v.t14_))], heapOf 42 [(0, some
 (Blk.box 24
  [C.d (.sl qF qG .step qH), (cI qI), (cI qJ), (cI qK),
   (cI qL)])), (29, some
 (Blk.box 36
  [(cI v.h29_), (cI v.h_29_1), cL .step v.h_29_2, (cI v.h_29_3),
   (cI v.h_29_4), (cI v.h_29_5), (cI v.h_29_6), cL .run v.h_29_7,
   (cI v.h_29_8), (cI v.h_29_9), (cI v.h_29_10), cL .mat v.h_29_11,
   cB v.h_29_12, (cI v.h_29_13), cB v.h_29_14])), (33, some (Blk.arr 45 .mat h_33))], 0⟩ := by kernel_rfl
theorem lo1_zkmz_13 (e1 e9 e10 e11 e12 e13 e14 : V) (h0 h29 h33 : Option Blk) e st2 (h : (T1_zkmz_13 e1 e9 e10 e11 e12 e13 e14 h0 h29 h33).eval = some (e, st2)) : Circles Tryz.prog cx_zkmz b_zkmz_13 ⟨envOf 150 [(1, e1), (9, e9), (10, e10), (11, e11), (12, e12), (13, e13), (14, e14)], heapOf 42 [(0, h0), (29, h29), (33, h33)], 0⟩ e st2 := by
 unfold T1_zkmz_13 at h
 obtain ⟨qB, qC, qD, rfl, h⟩ := Uz8i h
 obtain ⟨rfl, h⟩ := Uz12i h
 obtain ⟨qE, t10_l, rfl, h⟩ := Uz13i h
 obtain ⟨qA, rfl, h⟩ := Uz3i h
 obtain ⟨t12_, rfl, h⟩ := Uz3i h
 obtain ⟨t13_, rfl, h⟩ := Uz3i h
 obtain ⟨t14_, rfl, h⟩ := Uz3i h
 obtain ⟨qF, qG, qH, qI, qJ, qK, qL, rfl, h⟩ := Uz9i h
 obtain ⟨h29_, h_29_1, h_29_2, h_29_3, h_29_4, h_29_5, h_29_6, h_29_7, h_29_8, h_29_9, h_29_10, h_29_11, h_29_12, h_29_13, h_29_14, rfl, h⟩ := Uz14i h
 obtain ⟨h_33, rfl, h⟩ := Uz7i h
 have := loop_tree (mk := mk_zkmz_13 qB qC qD qE t10_l qA qF qG qH qI qJ qK qL h_33) (ci_zkmz_13 qB qC qD qE t10_l qA qF qG qH qI qJ qK qL h_33) _ _ e st2 h
 rw [mke_zkmz_13] at this
 exact this
theorem lok_zkmz_13 : LoopOk Tryz.prog cx_zkmz b_zkmz_13 T_zkmz_13 := by
 intro st e st2 h
 unfold T_zkmz_13 at h
 cases hk : okSt 150 42 0 [0, 29, 33] st with
 | false => rw [hk] at h; cases h
 | true =>
  rw [hk] at h
  exact circles_keep (ks := [1, 9, 10, 11, 12, 13, 14]) hk (lo1_zkmz_13 _ _ _ _ _ _ _ _ _ _ e st2 h)
structure S.zkmz_T where
 x0 : Bool
 deriving Inhabited
def S.zkmz_R (a0_0n : OBz) (a0_0f : Bool) (a0_0 : Ls) (a0_1 a0_2 a0_3 a0_4 : Int) (a1n : OBz) (a1f : Bool) (a1 : Le) : DT S.zkmz_T :=
let y0 := S.all2_o a0_0n a0_0f a0_0 a0_1 a0_2 a0_3 a0_4 a1n a1f a1 5
let y1 := y0.x2
let y2 : Int := (S.zjsn_o a0_0 a0_1 a0_2 a0_3 a0_4 a1 5).x0
let y3 := y0.x0
let y4 := S.z3am_o 1 1 a0_0 a0_1 a0_2 a0_3 a0_4
let y5 : S.zkmz_13_V := { t12_ := 0, t13_ := 0, t14_ := 0, h29_ := y4.x0, h_29_1 := y4.x1, h_29_2 := y4.x2, h_29_3 := y4.x3, h_29_4 := y4.x4, h_29_5 := y4.x5, h_29_6 := y4.x6, h_29_7 := y4.x7, h_29_8 := y4.x8, h_29_9 := y4.x9, h_29_10 := y4.x10, h_29_11 := y4.x11, h_29_12 := y4.x12, h_29_13 := y4.x13, h_29_14 := y4.x14 : S.zkmz_13_V }
let y6 := S.zkmz_13_v a1 y1 y2 y3 y5
let y7 := y6.t13_
(.br (S.zyn3_is)
(.br (S.zydq_is a0_0)
(.br (S.zgwp_is a1 25)
(.br (S.zjar_is a0_0 a0_1 a0_2 a0_3 a0_4)
(.br (xnot S.zyn3_o.x0)
(.leaf ⟨S.zyn3_o.x0⟩)
(.br (xnot (S.zydq_o a0_0).x0)
(.leaf ⟨S.zyn3_o.x0⟩)
(.br (xnot (S.zgwp_o a1 25).x0)
(.leaf ⟨S.zyn3_o.x0⟩)
(.br (xnot (S.zjar_o a0_0 a0_1 a0_2 a0_3 a0_4).x0)
(.leaf ⟨S.zyn3_o.x0⟩)
(.br (S.all2_is a0_0n a0_0f a0_0 a0_1 a0_2 a0_3 a0_4 a1n a1f a1 5)
(.br (S.zjsn_is a0_0 a0_1 a0_2 a0_3 a0_4 a1 5)
(.br (S.zkmz_13_j a1 y1 y2 y3 y5 0)
(.leaf ⟨false⟩)
(.br (S.zkmz_13_j a1 y1 y2 y3 y5 1)
(.br (xeqI y6.t12_ (↑y1 : Int))
(.br (xeqI y7 1 == xdec (y2 ≥ 0))
(.br (xdec (y7 ≤ 1))
(.leaf ⟨xneI y6.h_29_13 2⟩)
(.leaf ⟨false⟩))
(.leaf ⟨false⟩))
(.leaf ⟨false⟩))
.fail))
.fail)
.fail)))))
.fail)
.fail)
.fail)
.fail)
def S.zkmz (a0_0n : OBz) (a0_0f : Bool) (a0_0 : Ls) (a0_1 a0_2 a0_3 a0_4 : Int) (a1n : OBz) (a1f : Bool) (a1 : Le) : Option S.zkmz_T := (S.zkmz_R a0_0n a0_0f a0_0 a0_1 a0_2 a0_3 a0_4 a1n a1f a1).run
def S.zkmz_is (a0_0n : OBz) (a0_0f : Bool) (a0_0 : Ls) (a0_1 a0_2 a0_3 a0_4 : Int) (a1n : OBz) (a1f : Bool) (a1 : Le) : Bool := (S.zkmz a0_0n a0_0f a0_0 a0_1 a0_2 a0_3 a0_4 a1n a1f a1).isSome
def S.zkmz_o (a0_0n : OBz) (a0_0f : Bool) (a0_0 : Ls) (a0_1 a0_2 a0_3 a0_4 : Int) (a1n : OBz) (a1f : Bool) (a1 : Le) : S.zkmz_T := (S.zkmz a0_0n a0_0f a0_0 a0_1 a0_2 a0_3 a0_4 a1n a1f a1).getD default
def ret_zkmz (b : Bool) (r : S.zkmz_T) : Ret := ⟨b, none, [(false, [cB r.x0])]⟩
def g_zkmz : Con
 | [(true, [.sl a0_0n a0_0f .step a0_0, .sc (.int .i64 a0_1), .sc (.int .i64 a0_2), .sc (.int .i64 a0_3), .sc (.int .i64 a0_4)]), (false, [.sl a1n a1f .evt a1])] => some (ret_zkmz (S.zkmz_is a0_0n a0_0f a0_0 a0_1 a0_2 a0_3 a0_4 a1n a1f a1) (S.zkmz_o a0_0n a0_0f a0_0 a0_1 a0_2 a0_3 a0_4 a1n a1f a1))
 | _ => none
theorem raw_zkmz (a0_0n : OBz) (a0_0f : Bool) (a0_0 : Ls) (a0_1 a0_2 a0_3 a0_4 : Int) (a1n : OBz) (a1f : Bool) (a1 : Le) : evR2 cx_zkmz (hdI cx_zkmz (find [(17, T_zkmz_17), (13, T_zkmz_13)]) [] none 0) none Tryz.f3 3 none [(true, [.sl a0_0n a0_0f .step a0_0, dI a0_1, dI a0_2, dI a0_3, dI a0_4]), (false, [.sl a1n a1f .evt a1])] some = (S.zkmz_R a0_0n a0_0f a0_0 a0_1 a0_2 a0_3 a0_4 a1n a1f a1).go (ret_zkmz true) := by kernel_rfl
theorem bs_zkmz : loopsIn Tryz.f3 [] = [b_zkmz_13] := by kernel_rfl
theorem zkmz_ok : Stands Tryz.prog tyTab 3 g_zkmz := by
 refine stands3 (L := find [(17, T_zkmz_17), (13, T_zkmz_13)]) (n := 0) (hints := [(3, 17, { keep := [1, 9, 10, 11, 12, 13, 14, 15], acc := [] }), (3, 13, { keep := [1, 9, 10, 11, 12, 13, 14], acc := [] })]) (cx_ok rfl) rdy_zkmz ⟨by kernel_rfl, by kernel_rfl, by kernel_rfl⟩ bs_zkmz (consB (fun T h => by have e : T_zkmz_13 = T := Option.some.inj (show some T_zkmz_13 = some T from h); exact e ▸ lok_zkmz_13) nilB) (fun das r hG hr => ?_)
 unfold g_zkmz at hG
 split at hG
 ·rename_i a0_0n a0_0f a0_0 a0_1 a0_2 a0_3 a0_4 a1n a1f a1
  injection hG with hG; subst hG
  exact ⟨none, true, win default ((raw_zkmz a0_0n a0_0f a0_0 a0_1 a0_2 a0_3 a0_4 a1n a1f a1).trans (DT.go_run _ _)) hr⟩
 ·cases hG
end
end Go.Eng
