/- Contracts, laid by program. -/
import Derived.Test.YtbjeikmkngcjlaaZG13
set_option linter.unusedVariables false
namespace Go.Eng
noncomputable section
open Go Go.Eng Go.Proofs Go.Eng.Tab
abbrev cx_zfps : Cx := mkCx2 tyTab [(50, g_zydq), (51, g_zjar), (55, g_z2oj), (57, g_z3ps), (58, g_zxf7), (60, g_zgwp), (61, g_zpf4), (73, g_all2), (74, g_z2j4), (75, g_zjsn)] [] [(32, 10, { keep := [1, 2, 9, 10, 11], acc := [(10, none, .mat, 81)] })] []
theorem rdy_zfps : Ready Try.prog tyTab [(50, g_zydq), (51, g_zjar), (55, g_z2oj), (57, g_z3ps), (58, g_zxf7), (60, g_zgwp), (61, g_zpf4), (73, g_all2), (74, g_z2j4), (75, g_zjsn)] [] [] := ⟨consG2 zydq_ok (consG2 zjar_ok (consG2 z2oj_ok (consG2 z3ps_ok (consG2 zxf7_ok (consG2 zgwp_ok (consG2 zpf4_ok (consG2 all2_ok (consG2 z2j4_ok (consG2 zjsn_ok (noneG2)))))))))), noneI2, noneF2⟩
structure S.zfps_10_V where
 t10_f : Bool
 t10_l : Nat
 t11_ : Int
 h29_n : Option Bool
 h29_f : Bool
 h29_ : List (Ty .step)
 h_29_1 : Int
 h_29_2 : Int
 h_29_3 : Int
 h_29_4 : Int
 h_29_5n : Option Bool
 h_29_5f : Bool
 h_29_5 : List (Ty .run)
 h_29_6 : Int
 h_33 : List (Ty .mat)
def S.zfps_10_R (qA : List (Ty .evt)) (v : S.zfps_10_V) : DT (Option Nat × S.zfps_10_V) :=
let y0 : Bool := xdec (v.t11_ < (↑qA.length : Int))
let y1 : Ty .evt := qA.getD v.t11_.toNat (dflt .evt)
let y2 : ByteArray := y1.name
let y3 : Int := y1.at_
let y4 : List Val := y1.v
let y5 : S.zxf7_T := S.zxf7_o v.h29_ v.h_29_1 v.h_29_2 v.h_29_3 v.h_29_4 v.h_29_5 v.h_29_6 y2 y3 y4 v.t11_
let y6 : List (Ty .mat) := y5.x7
let y7 : Nat := v.t10_l + y6.length
let y8 : List (Ty .step) := y5.x0
let y9 : List (Ty .run) := y5.x5
let y10 : Int := y5.x6
(.br (y0)
(.br (xdec (0 ≤ v.t11_) && y0)
(.br (S.zxf7_is v.h29_ v.h_29_1 v.h_29_2 v.h_29_3 v.h_29_4 v.h_29_5 v.h_29_6 y2 y3 y4 v.t11_)
(.br (xdec (v.t10_l ≤ v.h_33.length) && xdec (y7 ≤ 1048576))
(.br (S.z3ps_is y8 y9 y10)
(.br (xnot (S.z3ps_o y8 y9 y10).x0)
(.leaf (some 0, v))
(.leaf (none, ⟨false, y7, xwrap .i64 (v.t11_ + 1), none, false, y8, y5.x1, y5.x2, y5.x3, y5.x4, none, false, y9, y10, List.take v.t10_l v.h_33 ++ y6⟩)))
.fail)
.fail)
.fail)
.fail)
(.leaf (some 1, v)))
def S.zfps_10_r (qA : List (Ty .evt)) (v : S.zfps_10_V) : Option (Option Nat × S.zfps_10_V) := (S.zfps_10_R qA v).run
def S.zfps_10_j (qA : List (Ty .evt)) (v : S.zfps_10_V) (j : Nat) : Bool := Lp_j (S.zfps_10_r qA) v j
def S.zfps_10_v (qA : List (Ty .evt)) (v : S.zfps_10_V) : S.zfps_10_V := Lp_v (S.zfps_10_r qA) v
def mk_zfps_10 (qB : Option Bool) (qC : Bool) (qA : List (Ty .evt)) (qD : Option Bool) (qE : Bool) (qF : List (Ty .step)) (qG : Int) (qH : Int) (qI : Int) (qJ : Int) (v : S.zfps_10_V) : St := ⟨(V.any :: (V.v false [C.d (.sl qB qC .evt qA)] :: (V.v false [C.ptr 0 0] :: (vs 6 (V.v false [C.ptr 29 0] :: (V.v false [C.own 33 .mat v.t10_f 0 v.t10_l] :: ((cV v.t11_) :: (vs 64 [])))))))), (some (Blk.box 45 [C.d (.sl qD qE .step qF), (cI qG), (cI qH), (cI qI), (cI qJ)]) :: (ns 28 (some (Blk.box 71 [C.d (.sl v.h29_n v.h29_f .step v.h29_), (cI v.h_29_1), (cI v.h_29_2), (cI v.h_29_3), (cI v.h_29_4), C.d (.sl v.h_29_5n v.h_29_5f .run v.h_29_5), (cI v.h_29_6)]) :: (ns 3 (some (Blk.arr 81 .mat v.h_33) :: []))))), 0⟩
def ex_zfps_10 (qB : Option Bool) (qC : Bool) (qA : List (Ty .evt)) (qD : Option Bool) (qE : Bool) (qF : List (Ty .step)) (qG : Int) (qH : Int) (qI : Int) (qJ : Int) (j : Nat) (v : S.zfps_10_V) : Ex × St := match j with
 | 0 => (Ex.ret, ⟨(V.any :: (V.v false [C.d (.sl qB qC .evt qA)] :: (V.v false [C.ptr 0 0] :: (V.any :: (V.v false [C.d (.sc (.bool false))] :: (vs 4 (V.v false [C.ptr 29 0] :: (V.v false
  [C.own (53 + 2) .mat false 0
      (v.t10_l +
       (S.zxf7_o v.h29_ v.h_29_1 v.h_29_2 v.h_29_3 v.h_29_4 v.h_29_5 v.h_29_6 (qA.getD v.t11_.toNat (dflt .evt)).name
             (qA.getD v.t11_.toNat (dflt .evt)).at_ (qA.getD v.t11_.toNat (dflt .evt)).v v.t11_).x7.length)] :: (vs 65 []))))))))), (some
  (Blk.box 45
   [C.d (.sl qD qE .step qF), (cI qG), (cI qH), (cI qI),
    (cI qJ)]) :: (ns 28 (some
  (Blk.box 71
   [C.d
       (D.sl none false .step
        (S.zxf7_o v.h29_ v.h_29_1 v.h_29_2 v.h_29_3 v.h_29_4 v.h_29_5 v.h_29_6 (qA.getD v.t11_.toNat (dflt .evt)).name
            (qA.getD v.t11_.toNat (dflt .evt)).at_ (qA.getD v.t11_.toNat (dflt .evt)).v v.t11_).x0),
    C.d
     (D.sc
      (Sc.int IntKind.i64
       (S.zxf7_o v.h29_ v.h_29_1 v.h_29_2 v.h_29_3 v.h_29_4 v.h_29_5 v.h_29_6 (qA.getD v.t11_.toNat (dflt .evt)).name
           (qA.getD v.t11_.toNat (dflt .evt)).at_ (qA.getD v.t11_.toNat (dflt .evt)).v v.t11_).x1)),
    C.d
     (D.sc
      (Sc.int IntKind.i64
       (S.zxf7_o v.h29_ v.h_29_1 v.h_29_2 v.h_29_3 v.h_29_4 v.h_29_5 v.h_29_6 (qA.getD v.t11_.toNat (dflt .evt)).name
           (qA.getD v.t11_.toNat (dflt .evt)).at_ (qA.getD v.t11_.toNat (dflt .evt)).v v.t11_).x2)),
    C.d
     (D.sc
      (Sc.int IntKind.i64
       (S.zxf7_o v.h29_ v.h_29_1 v.h_29_2 v.h_29_3 v.h_29_4 v.h_29_5 v.h_29_6 (qA.getD v.t11_.toNat (dflt .evt)).name
           (qA.getD v.t11_.toNat (dflt .evt)).at_ (qA.getD v.t11_.toNat (dflt .evt)).v v.t11_).x3)),
    C.d
     (D.sc
      (Sc.int IntKind.i64
       (S.zxf7_o v.h29_ v.h_29_1 v.h_29_2 v.h_29_3 v.h_29_4 v.h_29_5 v.h_29_6 (qA.getD v.t11_.toNat (dflt .evt)).name
           (qA.getD v.t11_.toNat (dflt .evt)).at_ (qA.getD v.t11_.toNat (dflt .evt)).v v.t11_).x4)),
    C.d
     (D.sl none false .run
      (S.zxf7_o v.h29_ v.h_29_1 v.h_29_2 v.h_29_3 v.h_29_4 v.h_29_5 v.h_29_6 (qA.getD v.t11_.toNat (dflt .evt)).name
          (qA.getD v.t11_.toNat (dflt .evt)).at_ (qA.getD v.t11_.toNat (dflt .evt)).v v.t11_).x5),
    C.d
     (D.sc
      (Sc.int IntKind.i64
       (S.zxf7_o v.h29_ v.h_29_1 v.h_29_2 v.h_29_3 v.h_29_4 v.h_29_5 v.h_29_6 (qA.getD v.t11_.toNat (dflt .evt)).name
           (qA.getD v.t11_.toNat (dflt .evt)).at_ (qA.getD v.t11_.toNat (dflt .evt)).v v.t11_).x6))]) :: (ns 18 (some
  (Blk.box 71
   [C.d
       (D.sl none false .step
        (S.zxf7_o v.h29_ v.h_29_1 v.h_29_2 v.h_29_3 v.h_29_4 v.h_29_5 v.h_29_6 (qA.getD v.t11_.toNat (dflt .evt)).name
            (qA.getD v.t11_.toNat (dflt .evt)).at_ (qA.getD v.t11_.toNat (dflt .evt)).v v.t11_).x0),
    C.d
     (D.sc
      (Sc.int IntKind.i64
       (S.zxf7_o v.h29_ v.h_29_1 v.h_29_2 v.h_29_3 v.h_29_4 v.h_29_5 v.h_29_6 (qA.getD v.t11_.toNat (dflt .evt)).name
           (qA.getD v.t11_.toNat (dflt .evt)).at_ (qA.getD v.t11_.toNat (dflt .evt)).v v.t11_).x1)),
    C.d
     (D.sc
      (Sc.int IntKind.i64
       (S.zxf7_o v.h29_ v.h_29_1 v.h_29_2 v.h_29_3 v.h_29_4 v.h_29_5 v.h_29_6 (qA.getD v.t11_.toNat (dflt .evt)).name
           (qA.getD v.t11_.toNat (dflt .evt)).at_ (qA.getD v.t11_.toNat (dflt .evt)).v v.t11_).x2)),
    C.d
     (D.sc
      (Sc.int IntKind.i64
       (S.zxf7_o v.h29_ v.h_29_1 v.h_29_2 v.h_29_3 v.h_29_4 v.h_29_5 v.h_29_6 (qA.getD v.t11_.toNat (dflt .evt)).name
           (qA.getD v.t11_.toNat (dflt .evt)).at_ (qA.getD v.t11_.toNat (dflt .evt)).v v.t11_).x3)),
    C.d
     (D.sc
      (Sc.int IntKind.i64
       (S.zxf7_o v.h29_ v.h_29_1 v.h_29_2 v.h_29_3 v.h_29_4 v.h_29_5 v.h_29_6 (qA.getD v.t11_.toNat (dflt .evt)).name
           (qA.getD v.t11_.toNat (dflt .evt)).at_ (qA.getD v.t11_.toNat (dflt .evt)).v v.t11_).x4)),
    C.d
     (D.sl none false .run
      (S.zxf7_o v.h29_ v.h_29_1 v.h_29_2 v.h_29_3 v.h_29_4 v.h_29_5 v.h_29_6 (qA.getD v.t11_.toNat (dflt .evt)).name
          (qA.getD v.t11_.toNat (dflt .evt)).at_ (qA.getD v.t11_.toNat (dflt .evt)).v v.t11_).x5),
    C.d
     (D.sc
      (Sc.int IntKind.i64
       (S.zxf7_o v.h29_ v.h_29_1 v.h_29_2 v.h_29_3 v.h_29_4 v.h_29_5 v.h_29_6 (qA.getD v.t11_.toNat (dflt .evt)).name
           (qA.getD v.t11_.toNat (dflt .evt)).at_ (qA.getD v.t11_.toNat (dflt .evt)).v v.t11_).x6))]) :: (ns 6 (some
  (Blk.arr 81 .mat
   (List.take v.t10_l v.h_33 ++
    (S.zxf7_o v.h29_ v.h_29_1 v.h_29_2 v.h_29_3 v.h_29_4 v.h_29_5 v.h_29_6 (qA.getD v.t11_.toNat (dflt .evt)).name (qA.getD v.t11_.toNat (dflt .evt)).at_
        (qA.getD v.t11_.toNat (dflt .evt)).v v.t11_).x7)) :: (ns 5 [])))))))), 0⟩)
 | 1 => (Ex.exit 0, ⟨(V.any :: (V.v false [C.d (.sl qB qC .evt qA)] :: (V.v false [C.ptr 0 0] :: (vs 6 (V.v false [C.ptr 29 0] :: (V.v false [C.own 33 .mat v.t10_f 0 v.t10_l] :: (vs 65 []))))))), (some
  (Blk.box 45
   [C.d (.sl qD qE .step qF), (cI qG), (cI qH), (cI qI),
    (cI qJ)]) :: (ns 28 (some
  (Blk.box 71
   [C.d (.sl v.h29_n v.h29_f .step v.h29_), (cI v.h_29_1), (cI v.h_29_2),
    (cI v.h_29_3), (cI v.h_29_4), C.d (.sl v.h_29_5n v.h_29_5f .run v.h_29_5),
    (cI v.h_29_6)]) :: (ns 3 (some (Blk.arr 81 .mat v.h_33) :: (ns 4 [])))))), 0⟩)
 | _ => (.ret, ⟨[], [], 0⟩)
def T1_zfps_10 : V → V → V → V → V → Option Blk → Option Blk → Option Blk → Tree
 | V.v false [C.d (.sl qB qC .evt qA)], V.v false [C.ptr 0 0], V.v false [C.ptr 29 0], V.v false [C.own 33 .mat t10_f 0 t10_l], V.v false [C.d (.sc (.int .i64 t11_))], some (Blk.box 45 [C.d (.sl qD qE .step qF), C.d (.sc (.int .i64 qG)), C.d (.sc (.int .i64 qH)), C.d (.sc (.int .i64 qI)), C.d (.sc (.int .i64 qJ))]), some (Blk.box 71 [C.d (.sl h29_n h29_f .step h29_), C.d (.sc (.int .i64 h_29_1)), C.d (.sc (.int .i64 h_29_2)), C.d (.sc (.int .i64 h_29_3)), C.d (.sc (.int .i64 h_29_4)), C.d (.sl h_29_5n h_29_5f .run h_29_5), C.d (.sc (.int .i64 h_29_6))]), some (Blk.arr 81 .mat h_33) => exT (fun j => ex_zfps_10 qB qC qA qD qE qF qG qH qI qJ j (S.zfps_10_v qA ⟨t10_f, t10_l, t11_, h29_n, h29_f, h29_, h_29_1, h_29_2, h_29_3, h_29_4, h_29_5n, h_29_5f, h_29_5, h_29_6, h_33⟩)) (S.zfps_10_j qA ⟨t10_f, t10_l, t11_, h29_n, h29_f, h29_, h_29_1, h_29_2, h_29_3, h_29_4, h_29_5n, h_29_5f, h_29_5, h_29_6, h_33⟩) [0, 1]
 | _, _, _, _, _, _, _, _ => .bad
def T_zfps_10 (st : St) : Tree := bif okSt 76 34 0 [0, 29, 33] st then T1_zfps_10 (st.env.getD 1 .any) (st.env.getD 2 .any) (st.env.getD 9 .any) (st.env.getD 10 .any) (st.env.getD 11 .any) (lk st.heap 0) (lk st.heap 29) (lk st.heap 33) else .bad
def b_zfps_10 : Code := loopBy Try.f32 10
theorem rnd_zfps_10 (qB : Option Bool) (qC : Bool) (qA : List (Ty .evt)) (qD : Option Bool) (qE : Bool) (qF : List (Ty .step)) (qG : Int) (qH : Int) (qI : Int) (qJ : Int) (v : S.zfps_10_V) : round2 cx_zfps (hdI cx_zfps (find []) [] none 0) 32 b_zfps_10 [33] 34 [1, 2, 4, 9, 10] (mk_zfps_10 qB qC qA qD qE qF qG qH qI qJ v) = (S.zfps_10_R qA v).go (roundOut (mk_zfps_10 qB qC qA qD qE qF qG qH qI qJ) (ex_zfps_10 qB qC qA qD qE qF qG qH qI qJ)) := by kernel_rfl
theorem bs_zfps_10 : loopsOf b_zfps_10 ++ loopsInl [] = [] := by kernel_rfl
theorem ci_zfps_10 (qB : Option Bool) (qC : Bool) (qA : List (Ty .evt)) (qD : Option Bool) (qE : Bool) (qF : List (Ty .step)) (qG : Int) (qH : Int) (qI : Int) (qJ : Int) : ∀ v j v2, Lp (S.zfps_10_r qA) v = some (j, v2) → Circles Try.prog cx_zfps b_zfps_10 (mk_zfps_10 qB qC qA qD qE qF qG qH qI qJ v) (ex_zfps_10 qB qC qA qD qE qF qG qH qI qJ j v2).1 (ex_zfps_10 qB qC qA qD qE qF qG qH qI qJ j v2).2 :=
 loop_ok2 (L := find []) (n := 0) (hints := [(32, 10, { keep := [1, 2, 9, 10, 11], acc := [(10, none, .mat, 81)] })]) (cx_ok rfl) rdy_zfps bs_zfps_10 nilB (fun v => (rnd_zfps_10 qB qC qA qD qE qF qG qH qI qJ v).trans (DT.go_run _ _)) (by intro j v; unfold ex_zfps_10; split <;> rfl)
theorem mke_zfps_10 (qB : Option Bool) (qC : Bool) (qA : List (Ty .evt)) (qD : Option Bool) (qE : Bool) (qF : List (Ty .step)) (qG : Int) (qH : Int) (qI : Int) (qJ : Int) (v : S.zfps_10_V) : mk_zfps_10 qB qC qA qD qE qF qG qH qI qJ v = ⟨envOf 76 [(1, V.v false [C.d (.sl qB qC .evt qA)]), (2, V.v false [C.ptr 0 0]), (9, V.v false [C.ptr 29 0]), (10, V.v false [C.own 33 .mat v.t10_f 0 v.t10_l]), (11, (cV v.t11_))], heapOf 34 [(0, some
 (Blk.box 45
  [C.d (.sl qD qE .step qF), (cI qG), (cI qH), (cI qI),
   (cI qJ)])), (29, some
 (Blk.box 71
  [C.d (.sl v.h29_n v.h29_f .step v.h29_), (cI v.h_29_1), (cI v.h_29_2), (cI v.h_29_3),
   (cI v.h_29_4), C.d (.sl v.h_29_5n v.h_29_5f .run v.h_29_5), (cI v.h_29_6)])), (33, some (Blk.arr 81 .mat v.h_33))], 0⟩ := by kernel_rfl
theorem lo1_zfps_10 (e1 : V) (e2 : V) (e9 : V) (e10 : V) (e11 : V) (h0 : Option Blk) (h29 : Option Blk) (h33 : Option Blk) e st2 (h : (T1_zfps_10 e1 e2 e9 e10 e11 h0 h29 h33).eval = some (e, st2)) : Circles Try.prog cx_zfps b_zfps_10 ⟨envOf 76 [(1, e1), (2, e2), (9, e9), (10, e10), (11, e11)], heapOf 34 [(0, h0), (29, h29), (33, h33)], 0⟩ e st2 := by
 unfold T1_zfps_10 at h
 split at h
 ·have := loop_tree (mk := mk_zfps_10 _ _ _ _ _ _ _ _ _ _) (ci_zfps_10 _ _ _ _ _ _ _ _ _ _) _ _ e st2 h
  rw [mke_zfps_10] at this
  exact this
 ·cases h
theorem lok_zfps_10 : LoopOk Try.prog cx_zfps b_zfps_10 T_zfps_10 := by
 intro st e st2 h
 unfold T_zfps_10 at h
 cases hk : okSt 76 34 0 [0, 29, 33] st with
 | false => rw [hk] at h; cases h
 | true =>
  rw [hk] at h
  exact circles_keep (ks := [1, 2, 9, 10, 11]) hk (lo1_zfps_10 _ _ _ _ _ _ _ _ e st2 h)
structure S.zfps_T where
 x0 : Bool
 deriving Inhabited
def S.zfps_R (a0_0n : Option Bool) (a0_0f : Bool) (a0_0 : List (Ty .step)) (a0_1 : Int) (a0_2 : Int) (a0_3 : Int) (a0_4 : Int) (a1n : Option Bool) (a1f : Bool) (a1 : List (Ty .evt)) : DT S.zfps_T :=
let y0 : S.zpf4_T := S.zpf4_o a0_0 a0_1 a0_2 a0_3 a0_4
let y1 : S.zfps_10_V := { t10_f := true, t10_l := 0, t11_ := 0, h29_n := none, h29_f := false, h29_ := y0.x0, h_29_1 := y0.x1, h_29_2 := y0.x2, h_29_3 := y0.x3, h_29_4 := y0.x4, h_29_5n := none, h_29_5f := false, h_29_5 := y0.x5, h_29_6 := y0.x6, h_33 := [] : S.zfps_10_V }
let y2 : S.zfps_10_V := S.zfps_10_v a1 y1
let y3 : Nat := 0 + y2.t10_l
let y4 : List (Ty .mat) := y2.h_33
let y5 : S.all2_T := S.all2_o a0_0n a0_0f a0_0 a0_1 a0_2 a0_3 a0_4 a1n a1f a1 5
let y6 : Nat := 0 + y5.x2
let y7 : List (Ty .mat) := y5.x0
let y8 : List (Ty .mat) := sub y4 0 y3
let y9 : List (Ty .mat) := sub y7 0 y6
(.br (S.z2oj_is)
(.br (S.zydq_is a0_0)
(.br (S.zgwp_is a1 25)
(.br (S.zjar_is a0_0 a0_1 a0_2 a0_3 a0_4)
(.br (xnot S.z2oj_o.x0)
(.leaf ⟨S.z2oj_o.x0⟩)
(.br (xnot (S.zydq_o a0_0).x0)
(.leaf ⟨S.z2oj_o.x0⟩)
(.br (xnot (S.zgwp_o a1 25).x0)
(.leaf ⟨S.z2oj_o.x0⟩)
(.br (xnot (S.zjar_o a0_0 a0_1 a0_2 a0_3 a0_4).x0)
(.leaf ⟨S.z2oj_o.x0⟩)
(.br (S.zfps_10_j a1 y1 0)
(.leaf ⟨false⟩)
(.br (S.zfps_10_j a1 y1 1)
(.br (S.all2_is a0_0n a0_0f a0_0 a0_1 a0_2 a0_3 a0_4 a1n a1f a1 5)
(.br (xdec (y3 ≤ y4.length) && true && (xdec (y6 ≤ y7.length) && true && true) && S.z2j4_is y8 y9)
(.br ((S.z2j4_o y8 y9).x0)
(.br (S.zjsn_is a0_0 a0_1 a0_2 a0_3 a0_4 a1 5)
(.leaf ⟨xeqI y2.h_29_6 (S.zjsn_o a0_0 a0_1 a0_2 a0_3 a0_4 a1 5).x0⟩)
.fail)
(.leaf ⟨false⟩))
.fail)
.fail)
.fail))))))
.fail)
.fail)
.fail)
.fail)
def S.zfps (a0_0n : Option Bool) (a0_0f : Bool) (a0_0 : List (Ty .step)) (a0_1 : Int) (a0_2 : Int) (a0_3 : Int) (a0_4 : Int) (a1n : Option Bool) (a1f : Bool) (a1 : List (Ty .evt)) : Option S.zfps_T := (S.zfps_R a0_0n a0_0f a0_0 a0_1 a0_2 a0_3 a0_4 a1n a1f a1).run
def S.zfps_is (a0_0n : Option Bool) (a0_0f : Bool) (a0_0 : List (Ty .step)) (a0_1 : Int) (a0_2 : Int) (a0_3 : Int) (a0_4 : Int) (a1n : Option Bool) (a1f : Bool) (a1 : List (Ty .evt)) : Bool := (S.zfps a0_0n a0_0f a0_0 a0_1 a0_2 a0_3 a0_4 a1n a1f a1).isSome
def S.zfps_o (a0_0n : Option Bool) (a0_0f : Bool) (a0_0 : List (Ty .step)) (a0_1 : Int) (a0_2 : Int) (a0_3 : Int) (a0_4 : Int) (a1n : Option Bool) (a1f : Bool) (a1 : List (Ty .evt)) : S.zfps_T := (S.zfps a0_0n a0_0f a0_0 a0_1 a0_2 a0_3 a0_4 a1n a1f a1).getD default
def ret_zfps (b : Bool) (r : S.zfps_T) : Ret := ⟨b, none, [(false, [C.d (.sc (.bool r.x0))])]⟩
def g_zfps : Con
 | [(true, [.sl a0_0n a0_0f .step a0_0, .sc (.int .i64 a0_1), .sc (.int .i64 a0_2), .sc (.int .i64 a0_3), .sc (.int .i64 a0_4)]), (false, [.sl a1n a1f .evt a1])] => some (ret_zfps (S.zfps_is a0_0n a0_0f a0_0 a0_1 a0_2 a0_3 a0_4 a1n a1f a1) (S.zfps_o a0_0n a0_0f a0_0 a0_1 a0_2 a0_3 a0_4 a1n a1f a1))
 | _ => none
theorem raw_zfps (a0_0n : Option Bool) (a0_0f : Bool) (a0_0 : List (Ty .step)) (a0_1 : Int) (a0_2 : Int) (a0_3 : Int) (a0_4 : Int) (a1n : Option Bool) (a1f : Bool) (a1 : List (Ty .evt)) : evR2 cx_zfps (hdI cx_zfps (find [(10, T_zfps_10)]) [] none 0) none Try.f32 32 none [(true, [.sl a0_0n a0_0f .step a0_0, .sc (.int .i64 a0_1), .sc (.int .i64 a0_2), .sc (.int .i64 a0_3), .sc (.int .i64 a0_4)]), (false, [.sl a1n a1f .evt a1])] some = (S.zfps_R a0_0n a0_0f a0_0 a0_1 a0_2 a0_3 a0_4 a1n a1f a1).go (ret_zfps true) := by kernel_rfl
theorem bs_zfps : loopsIn Try.f32 [] = [b_zfps_10] := by kernel_rfl
theorem zfps_ok : Stands Try.prog tyTab 32 g_zfps := by
 refine stands3 (L := find [(10, T_zfps_10)]) (n := 0) (hints := [(32, 10, { keep := [1, 2, 9, 10, 11], acc := [(10, none, .mat, 81)] })]) (cx_ok rfl) rdy_zfps ⟨by kernel_rfl, by kernel_rfl, by kernel_rfl⟩ bs_zfps (consB (fun T h => by have e : T_zfps_10 = T := Option.some.inj (show some T_zfps_10 = some T from h); exact e ▸ lok_zfps_10) nilB) (fun das r hG hr => ?_)
 unfold g_zfps at hG
 split at hG
 ·rename_i a0_0n a0_0f a0_0 a0_1 a0_2 a0_3 a0_4 a1n a1f a1
  injection hG with hG; subst hG
  exact ⟨none, true, win default ((raw_zfps a0_0n a0_0f a0_0 a0_1 a0_2 a0_3 a0_4 a1n a1f a1).trans (DT.go_run _ _)) hr⟩
 ·cases hG
end
end Go.Eng
