/- Contracts, laid by program. -/
import Derived.Test.YtbjeikmkngcjlaaVZG17
import Derived.Test.YtbjeikmkngcjlaaVZE3
set_option linter.unusedVariables false
namespace Go.Eng
noncomputable section
open Go Go.Eng Go.Proofs Go.Eng.Tab
abbrev cx_ztk7 : Cx := mkCx2 tyTab [(161, g_zrif), (162, g_zwln)] [] [(145, 3, { keep := [0, 1, 2, 6, 8, 9], acc := [(8, none, .val, 52)] })] []
theorem rdy_ztk7 : Ready Try.prog tyTab [(161, g_zrif), (162, g_zwln)] [] [] := ⟨consG2 zrif_ok (consG2 zwln_ok (noneG2)), noneI2, noneF2⟩
structure S.ztk7_3_V where
 t8_f : Bool
 t8_l : Nat
 t9_ : Int
 h_4 : List (Ty .val)
def S.ztk7_3_R (qA : List (Ty .val)) (qB : List (Ty .op)) (qC : Bool) (v : S.ztk7_3_V) : DT (Option Nat × S.ztk7_3_V) :=
let y0 : Bool := xdec (v.t9_ < (↑qB.length : Int))
let y1 : Ty .op := qB.getD v.t9_.toNat (dflt .op)
let y2 : Int := y1.code
let y3 : Nat := 0 + 1
let y4 : List (Ty .val) := List.replicate 1 (dflt .val)
let y5 : Val := y1.v
let y6 : Val := { kind := y5.kind, n := y5.n, s := y5.s : Val }
let y7 : Nat := v.h_4.length
let y8 : Bool := xdec (v.t8_l ≤ y7)
let y9 : Nat := v.t8_l + 1
let y10 : Int := xwrap .i64 (v.t9_ + 1)
let y11 : List (Ty .val) := List.take v.t8_l v.h_4
let y12 : Int := y1.arg
let y13 : Int := (↑qA.length : Int)
let y14 : Ty .val := qA.getD y12.toNat (dflt .val)
let y15 : Val := { kind := y14.kind, n := y14.n, s := y14.s : Val }
let y16 : Int := (↑v.t8_l : Int)
let y17 : Int := xwrap .i64 (y16 - 1)
let y18 : Bool := xdec (0 ≤ y17) && xdec (y17 < y16)
let y19 : Nat := 0 + y17.toNat
let y20 : Bool := xdec (y19 < y7)
let y21 : Ty .val := v.h_4.getD y19 (dflt .val)
let y22 : Int := y21.kind
let y23 : Int := y21.n
let y24 : Bool := xeqI y23 0
let y25 : S.zrif_T := S.zrif_o y24
let y26 : Int := xwrap .i64 (y16 - 2)
let y27 : Bool := xdec (0 ≤ y26)
let y28 : Nat := y26.toNat
let y29 : Nat := 0 + y28
let y30 : Ty .val := v.h_4.getD y29 (dflt .val)
let y31 : Int := y30.kind
let y32 : Int := y30.n
let y33 : ByteArray := y30.s
let y34 : ByteArray := y21.s
let y35 : S.zwln_T := S.zwln_o y2 y31 y32 y33 y22 y23 y34
let y36 : Int := y35.x3
let y37 : Bool := y27 && xdec (y26 ≤ Int.ofNat v.t8_l) && true
let y38 : Val := { kind := y35.x0, n := y35.x1, s := y35.x2 : Val }
let y39 : Nat := y28 + 1
let y40 : Bool := xdec (y3 ≤ (y4.set 0 y38).length) && xdec (y28 ≤ y7) && xdec (y39 ≤ 1048576)
let y41 : List (Ty .val) := List.take y28 v.h_4 ++ [y38]
let y42 : Bool := xneI y36 0
(.br (y0)
(.br (xdec (0 ≤ v.t9_) && y0)
(.br (xeqI y2 0)
(.br (xdec (y3 ≤ (y4.set 0 y6).length) && y8 && xdec (y9 ≤ 1048576))
(.leaf (none, ⟨false, y9, y10, y11 ++ [y6]⟩))
.fail)
(.br (xeqI y2 1)
(.br (xdec (y12 ≥ y13))
(.leaf (some 0, v))
(.br (xdec (0 ≤ y12) && xdec (y12 < y13))
(.br (xdec (y3 ≤ (y4.set 0 y15).length) && y8 && xdec (y9 ≤ 1048576))
(.leaf (none, ⟨false, y9, y10, y11 ++ [y15]⟩))
.fail)
.fail))
(.br (xeqI y2 9)
(.br (xdec (y16 < 1))
(.leaf (some 1, v))
(.br (y18)
(.br (y20)
(.br (xneI y22 1)
(.leaf (some 2, v))
(.br (y18)
(.br (y20)
(.br (S.zrif_is y24)
(.br (y18)
(.br (y20)
(.leaf (none, ⟨v.t8_f, v.t8_l, y10, v.h_4.set y19 { kind := y25.x0, n := y25.x1, s := y25.x2 : Val }⟩))
.fail)
.fail)
.fail)
.fail)
.fail))
.fail)
.fail))
(.br (xdec (y16 < 2))
(.leaf (some 1, v))
(.br (y27 && xdec (y26 < y16))
(.br (xdec (y29 < y7))
(.br (y18)
(.br (y20)
(.br (S.zwln_is y2 y31 y32 y33 y22 y23 y34)
(.br (qC)
(.br (xeqI y36 6)
(.br (y37)
(.br (y40)
(.leaf (none, ⟨false, y39, y10, y41⟩))
.fail)
.fail)
(.br (y42)
(.leaf (some 3, v))
(.br (y37)
(.br (y40)
(.leaf (none, ⟨false, y39, y10, y41⟩))
.fail)
.fail)))
(.br (y42)
(.leaf (some 3, v))
(.br (y37)
(.br (y40)
(.leaf (none, ⟨false, y39, y10, y41⟩))
.fail)
.fail)))
.fail)
.fail)
.fail)
.fail)
.fail)))))
.fail)
(.leaf (some 4, v)))
def S.ztk7_3_r (qA : List (Ty .val)) (qB : List (Ty .op)) (qC : Bool) (v : S.ztk7_3_V) : Option (Option Nat × S.ztk7_3_V) := (S.ztk7_3_R qA qB qC v).run
def S.ztk7_3_j (qA : List (Ty .val)) (qB : List (Ty .op)) (qC : Bool) (v : S.ztk7_3_V) (j : Nat) : Bool := Lp_j (S.ztk7_3_r qA qB qC) v j
def S.ztk7_3_v (qA : List (Ty .val)) (qB : List (Ty .op)) (qC : Bool) (v : S.ztk7_3_V) : S.ztk7_3_V := Lp_v (S.ztk7_3_r qA qB qC) v
def mk_ztk7_3 (qD : Option Bool) (qE : Bool) (qA : List (Ty .val)) (qF : Option Bool) (qG : Bool) (qB : List (Ty .op)) (qC : Bool) (qH : Int) (qI : Int) (qJ : ByteArray) (v : S.ztk7_3_V) : St := ⟨(V.v false [C.d (.sl qD qE .val qA)] :: (V.v false [C.d (.sl qF qG .op qB)] :: (V.v false [C.d (.sc (.bool qC))] :: (vs 3 (V.v false [C.ptr 0 0] :: (V.any :: (V.v false [C.own 4 .val v.t8_f 0 v.t8_l] :: ((cV v.t9_) :: (vs 109 []))))))))), (some (Blk.box 52 [(cI qH), (cI qI), C.d (.sc (.str qJ))]) :: (ns 3 (some (Blk.arr 52 .val v.h_4) :: []))), 0⟩
def ex_ztk7_3 (qD : Option Bool) (qE : Bool) (qA : List (Ty .val)) (qF : Option Bool) (qG : Bool) (qB : List (Ty .op)) (qC : Bool) (qH : Int) (qI : Int) (qJ : ByteArray) (j : Nat) (v : S.ztk7_3_V) : Ex × St := match j with
 | 0 => (Ex.ret, ⟨(vs 6 (V.v false [C.ptr 0 0] :: ((cV 3) :: (V.v false [C.own 4 .val v.t8_f 0 v.t8_l] :: (vs 110 []))))), (some (Blk.box 52 [(cI 0), (cI 0), C.d (.sc (.str ByteArray.empty))]) :: (ns 3 (some (Blk.arr 52 .val v.h_4) :: (ns 8 (some
  (Blk.box 115
   [(cI (qB.getD v.t9_.toNat (dflt .op)).code), (cI (qB.getD v.t9_.toNat (dflt .op)).arg),
    (cI (qB.getD v.t9_.toNat (dflt .op)).v.kind), (cI (qB.getD v.t9_.toNat (dflt .op)).v.n),
    C.d (.sc (.str (qB.getD v.t9_.toNat (dflt .op)).v.s))]) :: (ns 18 [])))))), 0⟩)
 | 1 => (Ex.ret, ⟨(vs 6 (V.v false [C.ptr 0 0] :: ((cV 2) :: (V.v false [C.own 4 .val v.t8_f 0 v.t8_l] :: (vs 110 []))))), (some (Blk.box 52 [(cI 0), (cI 0), C.d (.sc (.str ByteArray.empty))]) :: (ns 3 (some (Blk.arr 52 .val v.h_4) :: (ns 8 (some
  (Blk.box 115
   [(cI (qB.getD v.t9_.toNat (dflt .op)).code), (cI (qB.getD v.t9_.toNat (dflt .op)).arg),
    (cI (qB.getD v.t9_.toNat (dflt .op)).v.kind), (cI (qB.getD v.t9_.toNat (dflt .op)).v.n),
    C.d (.sc (.str (qB.getD v.t9_.toNat (dflt .op)).v.s))]) :: (ns 18 [])))))), 0⟩)
 | 2 => (Ex.ret, ⟨(vs 6 (V.v false [C.ptr 0 0] :: ((cV 5) :: (V.v false [C.own 4 .val v.t8_f 0 v.t8_l] :: (vs 110 []))))), (some (Blk.box 52 [(cI 0), (cI 0), C.d (.sc (.str ByteArray.empty))]) :: (ns 3 (some (Blk.arr 52 .val v.h_4) :: (ns 8 (some
  (Blk.box 115
   [(cI (qB.getD v.t9_.toNat (dflt .op)).code), (cI (qB.getD v.t9_.toNat (dflt .op)).arg),
    (cI (qB.getD v.t9_.toNat (dflt .op)).v.kind), (cI (qB.getD v.t9_.toNat (dflt .op)).v.n),
    C.d (.sc (.str (qB.getD v.t9_.toNat (dflt .op)).v.s))]) :: (ns 25 [])))))), 0⟩)
 | 3 => (Ex.ret, ⟨(vs 6 (V.v false [C.ptr 0 0] :: (V.v false
  [C.d
      (D.sc
       (Sc.int IntKind.i64
        (S.zwln_o (qB.getD v.t9_.toNat (dflt .op)).code (v.h_4.getD (0 + (xwrap .i64 ((↑v.t8_l : Int) - 2)).toNat) (dflt .val)).kind
            (v.h_4.getD (0 + (xwrap .i64 ((↑v.t8_l : Int) - 2)).toNat) (dflt .val)).n
            (v.h_4.getD (0 + (xwrap .i64 ((↑v.t8_l : Int) - 2)).toNat) (dflt .val)).s
            (v.h_4.getD (0 + (xwrap .i64 ((↑v.t8_l : Int) - 1)).toNat) (dflt .val)).kind
            (v.h_4.getD (0 + (xwrap .i64 ((↑v.t8_l : Int) - 1)).toNat) (dflt .val)).n
            (v.h_4.getD (0 + (xwrap .i64 ((↑v.t8_l : Int) - 1)).toNat) (dflt .val)).s).x3))] :: (V.v false [C.own 4 .val v.t8_f 0 v.t8_l] :: (vs 110 []))))), (some (Blk.box 52 [(cI 0), (cI 0), C.d (.sc (.str ByteArray.empty))]) :: (ns 3 (some (Blk.arr 52 .val v.h_4) :: (ns 8 (some
  (Blk.box 115
   [(cI (qB.getD v.t9_.toNat (dflt .op)).code), (cI (qB.getD v.t9_.toNat (dflt .op)).arg),
    (cI (qB.getD v.t9_.toNat (dflt .op)).v.kind), (cI (qB.getD v.t9_.toNat (dflt .op)).v.n),
    C.d (.sc (.str (qB.getD v.t9_.toNat (dflt .op)).v.s))]) :: (ns 31 (some
  (Blk.box 52
   [C.d
       (D.sc
        (Sc.int IntKind.i64
         (S.zwln_o (qB.getD v.t9_.toNat (dflt .op)).code (v.h_4.getD (0 + (xwrap .i64 ((↑v.t8_l : Int) - 2)).toNat) (dflt .val)).kind
             (v.h_4.getD (0 + (xwrap .i64 ((↑v.t8_l : Int) - 2)).toNat) (dflt .val)).n
             (v.h_4.getD (0 + (xwrap .i64 ((↑v.t8_l : Int) - 2)).toNat) (dflt .val)).s
             (v.h_4.getD (0 + (xwrap .i64 ((↑v.t8_l : Int) - 1)).toNat) (dflt .val)).kind
             (v.h_4.getD (0 + (xwrap .i64 ((↑v.t8_l : Int) - 1)).toNat) (dflt .val)).n
             (v.h_4.getD (0 + (xwrap .i64 ((↑v.t8_l : Int) - 1)).toNat) (dflt .val)).s).x0)),
    C.d
     (D.sc
      (Sc.int IntKind.i64
       (S.zwln_o (qB.getD v.t9_.toNat (dflt .op)).code (v.h_4.getD (0 + (xwrap .i64 ((↑v.t8_l : Int) - 2)).toNat) (dflt .val)).kind
           (v.h_4.getD (0 + (xwrap .i64 ((↑v.t8_l : Int) - 2)).toNat) (dflt .val)).n
           (v.h_4.getD (0 + (xwrap .i64 ((↑v.t8_l : Int) - 2)).toNat) (dflt .val)).s
           (v.h_4.getD (0 + (xwrap .i64 ((↑v.t8_l : Int) - 1)).toNat) (dflt .val)).kind
           (v.h_4.getD (0 + (xwrap .i64 ((↑v.t8_l : Int) - 1)).toNat) (dflt .val)).n
           (v.h_4.getD (0 + (xwrap .i64 ((↑v.t8_l : Int) - 1)).toNat) (dflt .val)).s).x1)),
    C.d
     (D.sc
      (Sc.str
       (S.zwln_o (qB.getD v.t9_.toNat (dflt .op)).code (v.h_4.getD (0 + (xwrap .i64 ((↑v.t8_l : Int) - 2)).toNat) (dflt .val)).kind
           (v.h_4.getD (0 + (xwrap .i64 ((↑v.t8_l : Int) - 2)).toNat) (dflt .val)).n
           (v.h_4.getD (0 + (xwrap .i64 ((↑v.t8_l : Int) - 2)).toNat) (dflt .val)).s
           (v.h_4.getD (0 + (xwrap .i64 ((↑v.t8_l : Int) - 1)).toNat) (dflt .val)).kind
           (v.h_4.getD (0 + (xwrap .i64 ((↑v.t8_l : Int) - 1)).toNat) (dflt .val)).n
           (v.h_4.getD (0 + (xwrap .i64 ((↑v.t8_l : Int) - 1)).toNat) (dflt .val)).s).x2))]) :: (ns 13 [])))))))), 0⟩)
 | 4 => (Ex.exit 0, ⟨(vs 6 (V.v false [C.ptr 0 0] :: (V.any :: (V.v false [C.own 4 .val v.t8_f 0 v.t8_l] :: (vs 110 []))))), (some (Blk.box 52 [(cI qH), (cI qI), C.d (.sc (.str qJ))]) :: (ns 3 (some (Blk.arr 52 .val v.h_4) :: (ns 4 [])))), 0⟩)
 | _ => (.ret, ⟨[], [], 0⟩)
def T1_ztk7_3 : V → V → V → V → V → V → Option Blk → Option Blk → Tree
 | V.v false [C.d (.sl qD qE .val qA)], V.v false [C.d (.sl qF qG .op qB)], V.v false [C.d (.sc (.bool qC))], V.v false [C.ptr 0 0], V.v false [C.own 4 .val t8_f 0 t8_l], V.v false [C.d (.sc (.int .i64 t9_))], some (Blk.box 52 [C.d (.sc (.int .i64 qH)), C.d (.sc (.int .i64 qI)), C.d (.sc (.str qJ))]), some (Blk.arr 52 .val h_4) => exT (fun j => ex_ztk7_3 qD qE qA qF qG qB qC qH qI qJ j (S.ztk7_3_v qA qB qC ⟨t8_f, t8_l, t9_, h_4⟩)) (S.ztk7_3_j qA qB qC ⟨t8_f, t8_l, t9_, h_4⟩) [0, 1, 2, 3, 4]
 | _, _, _, _, _, _, _, _ => .bad
def T_ztk7_3 (st : St) : Tree := bif okSt 119 5 0 [0, 4] st then T1_ztk7_3 (st.env.getD 0 .any) (st.env.getD 1 .any) (st.env.getD 2 .any) (st.env.getD 6 .any) (st.env.getD 8 .any) (st.env.getD 9 .any) (lk st.heap 0) (lk st.heap 4) else .bad
def b_ztk7_3 : Code := loopBy Try.f145 3
theorem rnd_ztk7_3 (qD : Option Bool) (qE : Bool) (qA : List (Ty .val)) (qF : Option Bool) (qG : Bool) (qB : List (Ty .op)) (qC : Bool) (qH : Int) (qI : Int) (qJ : ByteArray) (v : S.ztk7_3_V) : round2 cx_ztk7 (hdI cx_ztk7 (find []) [] none 0) 145 b_ztk7_3 [4] 5 [6, 7, 8] (mk_ztk7_3 qD qE qA qF qG qB qC qH qI qJ v) = (S.ztk7_3_R qA qB qC v).go (roundOut (mk_ztk7_3 qD qE qA qF qG qB qC qH qI qJ) (ex_ztk7_3 qD qE qA qF qG qB qC qH qI qJ)) := by kernel_rfl
theorem bs_ztk7_3 : loopsOf b_ztk7_3 ++ loopsInl [] = [] := by kernel_rfl
theorem ci_ztk7_3 (qD : Option Bool) (qE : Bool) (qA : List (Ty .val)) (qF : Option Bool) (qG : Bool) (qB : List (Ty .op)) (qC : Bool) (qH : Int) (qI : Int) (qJ : ByteArray) : ∀ v j v2, Lp (S.ztk7_3_r qA qB qC) v = some (j, v2) → Circles Try.prog cx_ztk7 b_ztk7_3 (mk_ztk7_3 qD qE qA qF qG qB qC qH qI qJ v) (ex_ztk7_3 qD qE qA qF qG qB qC qH qI qJ j v2).1 (ex_ztk7_3 qD qE qA qF qG qB qC qH qI qJ j v2).2 :=
 loop_ok2 (L := find []) (n := 0) (hints := [(145, 3, { keep := [0, 1, 2, 6, 8, 9], acc := [(8, none, .val, 52)] })]) (cx_ok rfl) rdy_ztk7 bs_ztk7_3 nilB (fun v => (rnd_ztk7_3 qD qE qA qF qG qB qC qH qI qJ v).trans (DT.go_run _ _)) (by intro j v; unfold ex_ztk7_3; split <;> rfl)
theorem mke_ztk7_3 (qD : Option Bool) (qE : Bool) (qA : List (Ty .val)) (qF : Option Bool) (qG : Bool) (qB : List (Ty .op)) (qC : Bool) (qH : Int) (qI : Int) (qJ : ByteArray) (v : S.ztk7_3_V) : mk_ztk7_3 qD qE qA qF qG qB qC qH qI qJ v = ⟨envOf 119 [(0, V.v false [C.d (.sl qD qE .val qA)]), (1, V.v false [C.d (.sl qF qG .op qB)]), (2, V.v false [C.d (.sc (.bool qC))]), (6, V.v false [C.ptr 0 0]), (8, V.v false [C.own 4 .val v.t8_f 0 v.t8_l]), (9, (cV v.t9_))], heapOf 5 [(0, some (Blk.box 52 [(cI qH), (cI qI), C.d (.sc (.str qJ))])), (4, some (Blk.arr 52 .val v.h_4))], 0⟩ := by kernel_rfl
theorem lo1_ztk7_3 (e0 : V) (e1 : V) (e2 : V) (e6 : V) (e8 : V) (e9 : V) (h0 : Option Blk) (h4 : Option Blk) e st2 (h : (T1_ztk7_3 e0 e1 e2 e6 e8 e9 h0 h4).eval = some (e, st2)) : Circles Try.prog cx_ztk7 b_ztk7_3 ⟨envOf 119 [(0, e0), (1, e1), (2, e2), (6, e6), (8, e8), (9, e9)], heapOf 5 [(0, h0), (4, h4)], 0⟩ e st2 := by
 unfold T1_ztk7_3 at h
 split at h
 ·have := loop_tree (mk := mk_ztk7_3 _ _ _ _ _ _ _ _ _ _) (ci_ztk7_3 _ _ _ _ _ _ _ _ _ _) _ _ e st2 h
  rw [mke_ztk7_3] at this
  exact this
 ·cases h
theorem lok_ztk7_3 : LoopOk Try.prog cx_ztk7 b_ztk7_3 T_ztk7_3 := by
 intro st e st2 h
 unfold T_ztk7_3 at h
 cases hk : okSt 119 5 0 [0, 4] st with
 | false => rw [hk] at h; cases h
 | true =>
  rw [hk] at h
  exact circles_keep (ks := [0, 1, 2, 6, 8, 9]) hk (lo1_ztk7_3 _ _ _ _ _ _ _ _ e st2 h)
structure S.ztk7_T where
 x0 : Int
 x1 : Int
 x2 : ByteArray
 x3 : Int
 deriving Inhabited
def S.ztk7_R (a0 : List (Ty .val)) (a1 : List (Ty .op)) (a2 : Bool) : DT S.ztk7_T :=
let y0 : S.ztk7_3_V := { t8_f := true, t8_l := 0, t9_ := 0, h_4 := [] : S.ztk7_3_V }
let y1 : S.ztk7_3_V := S.ztk7_3_v a0 a1 a2 y0
let y2 : List (Ty .val) := y1.h_4
let y3 : Int := (↑y1.t8_l : Int)
let y4 : Ty .val := y2.getD (0 + (xwrap .i64 (y3 - 2)).toNat) (dflt .val)
let y5 : Ty .val := y2.getD (0 + (xwrap .i64 (y3 - 1)).toNat) (dflt .val)
let y6 : Nat := 0 + Int.toNat 0
let y7 : Ty .val := y2.getD y6 (dflt .val)
(.br (S.ztk7_3_j a0 a1 a2 y0 0)
(.leaf ⟨0, 0, ByteArray.empty, 3⟩)
(.br (S.ztk7_3_j a0 a1 a2 y0 1)
(.leaf ⟨0, 0, ByteArray.empty, 2⟩)
(.br (S.ztk7_3_j a0 a1 a2 y0 2)
(.leaf ⟨0, 0, ByteArray.empty, 5⟩)
(.br (S.ztk7_3_j a0 a1 a2 y0 3)
(.leaf ⟨0, 0, ByteArray.empty, (S.zwln_o (a1.getD y1.t9_.toNat (dflt .op)).code y4.kind y4.n y4.s y5.kind y5.n y5.s).x3⟩)
(.br (S.ztk7_3_j a0 a1 a2 y0 4)
(.br (xneI y3 1)
(.leaf ⟨0, 0, ByteArray.empty, 2⟩)
(.br (xdec (0 ≤ 0) && xdec (0 < y3))
(.br (xdec (y6 < y2.length))
(.leaf ⟨y7.kind, y7.n, y7.s, 0⟩)
.fail)
.fail))
.fail)))))
def S.ztk7 (a0 : List (Ty .val)) (a1 : List (Ty .op)) (a2 : Bool) : Option S.ztk7_T := (S.ztk7_R a0 a1 a2).run
def S.ztk7_is (a0 : List (Ty .val)) (a1 : List (Ty .op)) (a2 : Bool) : Bool := (S.ztk7 a0 a1 a2).isSome
def S.ztk7_o (a0 : List (Ty .val)) (a1 : List (Ty .op)) (a2 : Bool) : S.ztk7_T := (S.ztk7 a0 a1 a2).getD default
def ret_ztk7 (b : Bool) (r : S.ztk7_T) : Ret := ⟨b, none, [(true, [C.d (.sc (.int .i64 r.x0)), C.d (.sc (.int .i64 r.x1)), C.d (.sc (.str r.x2))]), (false, [C.d (.sc (.int .i64 r.x3))])]⟩
def g_ztk7 : Con
 | [(false, [.sl a0n a0f .val a0]), (false, [.sl a1n a1f .op a1]), (false, [.sc (.bool a2)])] => some (ret_ztk7 (S.ztk7_is a0 a1 a2) (S.ztk7_o a0 a1 a2))
 | _ => none
theorem raw_ztk7 (a0n : Option Bool) (a0f : Bool) (a0 : List (Ty .val)) (a1n : Option Bool) (a1f : Bool) (a1 : List (Ty .op)) (a2 : Bool) : evR2 cx_ztk7 (hdI cx_ztk7 (find [(3, T_ztk7_3)]) [] none 0) none Try.f145 145 none [(false, [.sl a0n a0f .val a0]), (false, [.sl a1n a1f .op a1]), (false, [.sc (.bool a2)])] some = (S.ztk7_R a0 a1 a2).go (ret_ztk7 true) := by kernel_rfl
theorem bs_ztk7 : loopsIn Try.f145 [] = [b_ztk7_3] := by kernel_rfl
theorem ztk7_ok : Stands Try.prog tyTab 145 g_ztk7 := by
 refine stands3 (L := find [(3, T_ztk7_3)]) (n := 0) (hints := [(145, 3, { keep := [0, 1, 2, 6, 8, 9], acc := [(8, none, .val, 52)] })]) (cx_ok rfl) rdy_ztk7 ⟨by kernel_rfl, by kernel_rfl, by kernel_rfl⟩ bs_ztk7 (consB (fun T h => by have e : T_ztk7_3 = T := Option.some.inj (show some T_ztk7_3 = some T from h); exact e ▸ lok_ztk7_3) nilB) (fun das r hG hr => ?_)
 unfold g_ztk7 at hG
 split at hG
 ·rename_i a0n a0f a0 a1n a1f a1 a2
  injection hG with hG; subst hG
  exact ⟨none, true, win default ((raw_ztk7 a0n a0f a0 a1n a1f a1 a2).trans (DT.go_run _ _)) hr⟩
 ·cases hG
abbrev cx_z4xj : Cx := mkCx2 tyTab [(129, g_zcnl), (144, g_zekf), (145, g_ztk7)] [] [] []
theorem rdy_z4xj : Ready Try.prog tyTab [(129, g_zcnl), (144, g_zekf), (145, g_ztk7)] [] [] := ⟨consG2 zcnl_ok (consG2 zekf_ok (consG2 ztk7_ok (noneG2))), noneI2, noneF2⟩
structure S.z4xj_T where
 x0 : Int
 x1 : Int
 x2 : ByteArray
 x3 : Int
 deriving Inhabited
def S.z4xj_R (a0_0 : ByteArray) (a0_1 : Int) (a0_2 : List (Ty .val)) (a1 : List (Ty .op)) : DT S.z4xj_T :=
let y0 : S.ztk7_T := S.ztk7_o a0_2 a1 false
(.br (S.zcnl_is a1)
(.br (S.zekf_is a0_0 a0_1 a0_2)
(.br (xnot (S.zcnl_o a1).x0)
(.leaf ⟨0, 0, ByteArray.empty, 1⟩)
(.br (xnot (S.zekf_o a0_0 a0_1 a0_2).x0)
(.leaf ⟨0, 0, ByteArray.empty, 1⟩)
(.br (S.ztk7_is a0_2 a1 false)
(.leaf ⟨y0.x0, y0.x1, y0.x2, y0.x3⟩)
.fail)))
.fail)
.fail)
def S.z4xj (a0_0 : ByteArray) (a0_1 : Int) (a0_2 : List (Ty .val)) (a1 : List (Ty .op)) : Option S.z4xj_T := (S.z4xj_R a0_0 a0_1 a0_2 a1).run
def S.z4xj_is (a0_0 : ByteArray) (a0_1 : Int) (a0_2 : List (Ty .val)) (a1 : List (Ty .op)) : Bool := (S.z4xj a0_0 a0_1 a0_2 a1).isSome
def S.z4xj_o (a0_0 : ByteArray) (a0_1 : Int) (a0_2 : List (Ty .val)) (a1 : List (Ty .op)) : S.z4xj_T := (S.z4xj a0_0 a0_1 a0_2 a1).getD default
def ret_z4xj (b : Bool) (r : S.z4xj_T) : Ret := ⟨b, none, [(true, [C.d (.sc (.int .i64 r.x0)), C.d (.sc (.int .i64 r.x1)), C.d (.sc (.str r.x2))]), (false, [C.d (.sc (.int .i64 r.x3))])]⟩
def g_z4xj : Con
 | [(true, [.sc (.str a0_0), .sc (.int .i64 a0_1), .sl a0_2n a0_2f .val a0_2]), (false, [.sl a1n a1f .op a1])] => some (ret_z4xj (S.z4xj_is a0_0 a0_1 a0_2 a1) (S.z4xj_o a0_0 a0_1 a0_2 a1))
 | _ => none
theorem raw_z4xj (a0_0 : ByteArray) (a0_1 : Int) (a0_2n : Option Bool) (a0_2f : Bool) (a0_2 : List (Ty .val)) (a1n : Option Bool) (a1f : Bool) (a1 : List (Ty .op)) : evR2 cx_z4xj (hdI cx_z4xj (find []) [] none 0) none Try.f124 124 none [(true, [.sc (.str a0_0), .sc (.int .i64 a0_1), .sl a0_2n a0_2f .val a0_2]), (false, [.sl a1n a1f .op a1])] some = (S.z4xj_R a0_0 a0_1 a0_2 a1).go (ret_z4xj true) := by kernel_rfl
theorem bs_z4xj : loopsIn Try.f124 [] = [] := by kernel_rfl
theorem z4xj_ok : Stands Try.prog tyTab 124 g_z4xj := by
 refine stands3 (L := find []) (n := 0) (hints := []) (cx_ok rfl) rdy_z4xj ⟨by kernel_rfl, by kernel_rfl, by kernel_rfl⟩ bs_z4xj nilB (fun das r hG hr => ?_)
 unfold g_z4xj at hG
 split at hG
 ·rename_i a0_0 a0_1 a0_2n a0_2f a0_2 a1n a1f a1
  injection hG with hG; subst hG
  exact ⟨none, true, win default ((raw_z4xj a0_0 a0_1 a0_2n a0_2f a0_2 a1n a1f a1).trans (DT.go_run _ _)) hr⟩
 ·cases hG
abbrev cx_z33o : Cx := mkCx2 tyTab [(124, g_z4xj)] [] [] []
theorem rdy_z33o : Ready Try.prog tyTab [(124, g_z4xj)] [] [] := ⟨consG2 z4xj_ok (noneG2), noneI2, noneF2⟩
structure S.z33o_T where
 x0 : Bool
 deriving Inhabited
def S.z33o_R (a0_0 : ByteArray) (a0_1 : Int) (a0_2 : List (Ty .val)) (a1 : List (Ty .op)) : DT S.z33o_T :=
let y0 : S.z4xj_T := S.z4xj_o a0_0 a0_1 a0_2 a1
(.br (S.z4xj_is a0_0 a0_1 a0_2 a1)
(.br (xeqI (↑a1.length : Int) 0)
(.leaf ⟨true⟩)
(.br (xeqI y0.x3 0)
(.br (xeqI y0.x0 1)
(.leaf ⟨xeqI y0.x1 1⟩)
(.leaf ⟨false⟩))
(.leaf ⟨false⟩)))
.fail)
def S.z33o (a0_0 : ByteArray) (a0_1 : Int) (a0_2 : List (Ty .val)) (a1 : List (Ty .op)) : Option S.z33o_T := (S.z33o_R a0_0 a0_1 a0_2 a1).run
def S.z33o_is (a0_0 : ByteArray) (a0_1 : Int) (a0_2 : List (Ty .val)) (a1 : List (Ty .op)) : Bool := (S.z33o a0_0 a0_1 a0_2 a1).isSome
def S.z33o_o (a0_0 : ByteArray) (a0_1 : Int) (a0_2 : List (Ty .val)) (a1 : List (Ty .op)) : S.z33o_T := (S.z33o a0_0 a0_1 a0_2 a1).getD default
def ret_z33o (b : Bool) (r : S.z33o_T) : Ret := ⟨b, none, [(false, [C.d (.sc (.bool r.x0))])]⟩
def g_z33o : Con
 | [(true, [.sc (.str a0_0), .sc (.int .i64 a0_1), .sl a0_2n a0_2f .val a0_2]), (false, [.sl a1n a1f .op a1])] => some (ret_z33o (S.z33o_is a0_0 a0_1 a0_2 a1) (S.z33o_o a0_0 a0_1 a0_2 a1))
 | _ => none
theorem raw_z33o (a0_0 : ByteArray) (a0_1 : Int) (a0_2n : Option Bool) (a0_2f : Bool) (a0_2 : List (Ty .val)) (a1n : Option Bool) (a1f : Bool) (a1 : List (Ty .op)) : evR2 cx_z33o (hdI cx_z33o (find []) [] none 0) none Try.f86 86 none [(true, [.sc (.str a0_0), .sc (.int .i64 a0_1), .sl a0_2n a0_2f .val a0_2]), (false, [.sl a1n a1f .op a1])] some = (S.z33o_R a0_0 a0_1 a0_2 a1).go (ret_z33o true) := by kernel_rfl
theorem bs_z33o : loopsIn Try.f86 [] = [] := by kernel_rfl
theorem z33o_ok : Stands Try.prog tyTab 86 g_z33o := by
 refine stands3 (L := find []) (n := 0) (hints := []) (cx_ok rfl) rdy_z33o ⟨by kernel_rfl, by kernel_rfl, by kernel_rfl⟩ bs_z33o nilB (fun das r hG hr => ?_)
 unfold g_z33o at hG
 split at hG
 ·rename_i a0_0 a0_1 a0_2n a0_2f a0_2 a1n a1f a1
  injection hG with hG; subst hG
  exact ⟨none, true, win default ((raw_z33o a0_0 a0_1 a0_2n a0_2f a0_2 a1n a1f a1).trans (DT.go_run _ _)) hr⟩
 ·cases hG
abbrev cx_zu7f : Cx := mkCx2 tyTab [(86, g_z33o)] [] [] []
theorem rdy_zu7f : Ready Try.prog tyTab [(86, g_z33o)] [] [] := ⟨consG2 z33o_ok (noneG2), noneI2, noneF2⟩
structure S.zu7f_T where
 x0 : Bool
 deriving Inhabited
def S.zu7f_R (a0_0 : ByteArray) (a0_1 : List (Ty .op)) (a1_0 : ByteArray) (a1_1 : Int) (a1_2 : List (Ty .val)) : DT S.zu7f_T :=
(.br (S.z33o_is a1_0 a1_1 a1_2 a0_1)
(.br (xdec (a0_0 = a1_0))
(.leaf ⟨(S.z33o_o a1_0 a1_1 a1_2 a0_1).x0⟩)
(.leaf ⟨false⟩))
.fail)
def S.zu7f (a0_0 : ByteArray) (a0_1 : List (Ty .op)) (a1_0 : ByteArray) (a1_1 : Int) (a1_2 : List (Ty .val)) : Option S.zu7f_T := (S.zu7f_R a0_0 a0_1 a1_0 a1_1 a1_2).run
def S.zu7f_is (a0_0 : ByteArray) (a0_1 : List (Ty .op)) (a1_0 : ByteArray) (a1_1 : Int) (a1_2 : List (Ty .val)) : Bool := (S.zu7f a0_0 a0_1 a1_0 a1_1 a1_2).isSome
def S.zu7f_o (a0_0 : ByteArray) (a0_1 : List (Ty .op)) (a1_0 : ByteArray) (a1_1 : Int) (a1_2 : List (Ty .val)) : S.zu7f_T := (S.zu7f a0_0 a0_1 a1_0 a1_1 a1_2).getD default
def ret_zu7f (b : Bool) (r : S.zu7f_T) : Ret := ⟨b, none, [(false, [C.d (.sc (.bool r.x0))])]⟩
def g_zu7f : Con
 | [(true, [.sc (.str a0_0), .sl a0_1n a0_1f .op a0_1]), (true, [.sc (.str a1_0), .sc (.int .i64 a1_1), .sl a1_2n a1_2f .val a1_2])] => some (ret_zu7f (S.zu7f_is a0_0 a0_1 a1_0 a1_1 a1_2) (S.zu7f_o a0_0 a0_1 a1_0 a1_1 a1_2))
 | _ => none
theorem raw_zu7f (a0_0 : ByteArray) (a0_1n : Option Bool) (a0_1f : Bool) (a0_1 : List (Ty .op)) (a1_0 : ByteArray) (a1_1 : Int) (a1_2n : Option Bool) (a1_2f : Bool) (a1_2 : List (Ty .val)) : evR2 cx_zu7f (hdI cx_zu7f (find []) [] none 0) none Try.f44 44 none [(true, [.sc (.str a0_0), .sl a0_1n a0_1f .op a0_1]), (true, [.sc (.str a1_0), .sc (.int .i64 a1_1), .sl a1_2n a1_2f .val a1_2])] some = (S.zu7f_R a0_0 a0_1 a1_0 a1_1 a1_2).go (ret_zu7f true) := by kernel_rfl
theorem bs_zu7f : loopsIn Try.f44 [] = [] := by kernel_rfl
theorem zu7f_ok : Stands Try.prog tyTab 44 g_zu7f := by
 refine stands3 (L := find []) (n := 0) (hints := []) (cx_ok rfl) rdy_zu7f ⟨by kernel_rfl, by kernel_rfl, by kernel_rfl⟩ bs_zu7f nilB (fun das r hG hr => ?_)
 unfold g_zu7f at hG
 split at hG
 ·rename_i a0_0 a0_1n a0_1f a0_1 a1_0 a1_1 a1_2n a1_2f a1_2
  injection hG with hG; subst hG
  exact ⟨none, true, win default ((raw_zu7f a0_0 a0_1n a0_1f a0_1 a1_0 a1_1 a1_2n a1_2f a1_2).trans (DT.go_run _ _)) hr⟩
 ·cases hG
abbrev cx_zv4a : Cx := mkCx2 tyTab [(44, g_zu7f)] [] [(43, 3, { keep := [0, 3, 5, 6], acc := [(5, none, .bool, 4)] })] []
theorem rdy_zv4a : Ready Try.prog tyTab [(44, g_zu7f)] [] [] := ⟨consG2 zu7f_ok (noneG2), noneI2, noneF2⟩
structure S.zv4a_3_V where
 t5_f : Bool
 t5_l : Nat
 t6_ : Int
 h_4 : List (Ty .bool)
def S.zv4a_3_R (qA : List (Ty .pred)) (qH : ByteArray) (qI : Int) (qJ : List (Ty .val)) (v : S.zv4a_3_V) : DT (Option Nat × S.zv4a_3_V) :=
let y0 : Bool := xdec (v.t6_ < (↑qA.length : Int))
let y1 : Ty .pred := qA.getD v.t6_.toNat (dflt .pred)
let y2 : ByteArray := y1.name
let y3 : List Opn := y1.ifs
let y4 : Bool := (S.zu7f_o y2 y3 qH qI qJ).x0
let y5 : Nat := v.t5_l + 1
(.br (y0)
(.br (xdec (0 ≤ v.t6_) && y0)
(.br (S.zu7f_is y2 y3 qH qI qJ)
(.br (xdec (0 + 1 ≤ ((List.replicate 1 (dflt .bool)).set 0 y4).length) && xdec (v.t5_l ≤ v.h_4.length) && xdec (y5 ≤ 1048576))
(.leaf (none, ⟨false, y5, xwrap .i64 (v.t6_ + 1), List.take v.t5_l v.h_4 ++ [y4]⟩))
.fail)
.fail)
.fail)
(.leaf (some 0, v)))
def S.zv4a_3_r (qA : List (Ty .pred)) (qH : ByteArray) (qI : Int) (qJ : List (Ty .val)) (v : S.zv4a_3_V) : Option (Option Nat × S.zv4a_3_V) := (S.zv4a_3_R qA qH qI qJ v).run
def S.zv4a_3_j (qA : List (Ty .pred)) (qH : ByteArray) (qI : Int) (qJ : List (Ty .val)) (v : S.zv4a_3_V) (j : Nat) : Bool := Lp_j (S.zv4a_3_r qA qH qI qJ) v j
def S.zv4a_3_v (qA : List (Ty .pred)) (qH : ByteArray) (qI : Int) (qJ : List (Ty .val)) (v : S.zv4a_3_V) : S.zv4a_3_V := Lp_v (S.zv4a_3_r qA qH qI qJ) v
def mk_zv4a_3 (qD : Option Bool) (qE : Bool) (qA : List (Ty .pred)) (qH : ByteArray) (qI : Int) (qK : Option Bool) (qL : Bool) (qJ : List (Ty .val)) (v : S.zv4a_3_V) : St := ⟨(V.v false [C.d (.sl qD qE .pred qA)] :: (V.any :: (V.any :: (V.v false [C.ptr 0 0] :: (V.any :: (V.v false [C.own 4 .bool v.t5_f 0 v.t5_l] :: ((cV v.t6_) :: (vs 18 [])))))))), (some (Blk.box 29 [C.d (.sc (.str qH)), (cI qI), C.d (.sl qK qL .val qJ)]) :: (ns 3 (some (Blk.arr 4 .bool v.h_4) :: []))), 0⟩
def ex_zv4a_3 (qD : Option Bool) (qE : Bool) (qA : List (Ty .pred)) (qH : ByteArray) (qI : Int) (qK : Option Bool) (qL : Bool) (qJ : List (Ty .val)) (j : Nat) (v : S.zv4a_3_V) : Ex × St := match j with
 | 0 => (Ex.exit 0, ⟨(vs 5 (V.v false [C.own 4 .bool v.t5_f 0 v.t5_l] :: (vs 19 []))), (some (Blk.box 29 [C.d (.sc (.str qH)), (cI qI), C.d (.sl qK qL .val qJ)]) :: (ns 3 (some (Blk.arr 4 .bool v.h_4) :: (ns 4 [])))), 0⟩)
 | _ => (.ret, ⟨[], [], 0⟩)
def T1_zv4a_3 : V → V → V → V → Option Blk → Option Blk → Tree
 | V.v false [C.d (.sl qD qE .pred qA)], V.v false [C.ptr 0 0], V.v false [C.own 4 .bool t5_f 0 t5_l], V.v false [C.d (.sc (.int .i64 t6_))], some (Blk.box 29 [C.d (.sc (.str qH)), C.d (.sc (.int .i64 qI)), C.d (.sl qK qL .val qJ)]), some (Blk.arr 4 .bool h_4) => exT (fun j => ex_zv4a_3 qD qE qA qH qI qK qL qJ j (S.zv4a_3_v qA qH qI qJ ⟨t5_f, t5_l, t6_, h_4⟩)) (S.zv4a_3_j qA qH qI qJ ⟨t5_f, t5_l, t6_, h_4⟩) [0]
 | _, _, _, _, _, _ => .bad
def T_zv4a_3 (st : St) : Tree := bif okSt 25 5 0 [0, 4] st then T1_zv4a_3 (st.env.getD 0 .any) (st.env.getD 3 .any) (st.env.getD 5 .any) (st.env.getD 6 .any) (lk st.heap 0) (lk st.heap 4) else .bad
def b_zv4a_3 : Code := loopBy Try.f43 3
theorem rnd_zv4a_3 (qD : Option Bool) (qE : Bool) (qA : List (Ty .pred)) (qH : ByteArray) (qI : Int) (qK : Option Bool) (qL : Bool) (qJ : List (Ty .val)) (v : S.zv4a_3_V) : round2 cx_zv4a (hdI cx_zv4a (find []) [] none 0) 43 b_zv4a_3 [4] 5 [5] (mk_zv4a_3 qD qE qA qH qI qK qL qJ v) = (S.zv4a_3_R qA qH qI qJ v).go (roundOut (mk_zv4a_3 qD qE qA qH qI qK qL qJ) (ex_zv4a_3 qD qE qA qH qI qK qL qJ)) := by kernel_rfl
theorem bs_zv4a_3 : loopsOf b_zv4a_3 ++ loopsInl [] = [] := by kernel_rfl
theorem ci_zv4a_3 (qD : Option Bool) (qE : Bool) (qA : List (Ty .pred)) (qH : ByteArray) (qI : Int) (qK : Option Bool) (qL : Bool) (qJ : List (Ty .val)) : ∀ v j v2, Lp (S.zv4a_3_r qA qH qI qJ) v = some (j, v2) → Circles Try.prog cx_zv4a b_zv4a_3 (mk_zv4a_3 qD qE qA qH qI qK qL qJ v) (ex_zv4a_3 qD qE qA qH qI qK qL qJ j v2).1 (ex_zv4a_3 qD qE qA qH qI qK qL qJ j v2).2 :=
 loop_ok2 (L := find []) (n := 0) (hints := [(43, 3, { keep := [0, 3, 5, 6], acc := [(5, none, .bool, 4)] })]) (cx_ok rfl) rdy_zv4a bs_zv4a_3 nilB (fun v => (rnd_zv4a_3 qD qE qA qH qI qK qL qJ v).trans (DT.go_run _ _)) (by intro j v; unfold ex_zv4a_3; split <;> rfl)
theorem mke_zv4a_3 (qD : Option Bool) (qE : Bool) (qA : List (Ty .pred)) (qH : ByteArray) (qI : Int) (qK : Option Bool) (qL : Bool) (qJ : List (Ty .val)) (v : S.zv4a_3_V) : mk_zv4a_3 qD qE qA qH qI qK qL qJ v = ⟨envOf 25 [(0, V.v false [C.d (.sl qD qE .pred qA)]), (3, V.v false [C.ptr 0 0]), (5, V.v false [C.own 4 .bool v.t5_f 0 v.t5_l]), (6, (cV v.t6_))], heapOf 5 [(0, some (Blk.box 29 [C.d (.sc (.str qH)), (cI qI), C.d (.sl qK qL .val qJ)])), (4, some (Blk.arr 4 .bool v.h_4))], 0⟩ := by kernel_rfl
theorem lo1_zv4a_3 (e0 : V) (e3 : V) (e5 : V) (e6 : V) (h0 : Option Blk) (h4 : Option Blk) e st2 (h : (T1_zv4a_3 e0 e3 e5 e6 h0 h4).eval = some (e, st2)) : Circles Try.prog cx_zv4a b_zv4a_3 ⟨envOf 25 [(0, e0), (3, e3), (5, e5), (6, e6)], heapOf 5 [(0, h0), (4, h4)], 0⟩ e st2 := by
 unfold T1_zv4a_3 at h
 split at h
 ·have := loop_tree (mk := mk_zv4a_3 _ _ _ _ _ _ _ _) (ci_zv4a_3 _ _ _ _ _ _ _ _) _ _ e st2 h
  rw [mke_zv4a_3] at this
  exact this
 ·cases h
theorem lok_zv4a_3 : LoopOk Try.prog cx_zv4a b_zv4a_3 T_zv4a_3 := by
 intro st e st2 h
 unfold T_zv4a_3 at h
 cases hk : okSt 25 5 0 [0, 4] st with
 | false => rw [hk] at h; cases h
 | true =>
  rw [hk] at h
  exact circles_keep (ks := [0, 3, 5, 6]) hk (lo1_zv4a_3 _ _ _ _ _ _ e st2 h)
structure S.zv4a_T where
 x0 : List (Ty .bool)
 x1 : Bool
 x2 : Nat
 deriving Inhabited
def S.zv4a_R (a0 : List (Ty .pred)) (a1_0 : ByteArray) (a1_1 : Int) (a1_2 : List (Ty .val)) : DT S.zv4a_T :=
let y0 : S.zv4a_3_V := { t5_f := true, t5_l := 0, t6_ := 0, h_4 := [] : S.zv4a_3_V }
let y1 : S.zv4a_3_V := S.zv4a_3_v a0 a1_0 a1_1 a1_2 y0
(.br (S.zv4a_3_j a0 a1_0 a1_1 a1_2 y0 0)
(.leaf ⟨y1.h_4, y1.t5_f, y1.t5_l⟩)
.fail)
def S.zv4a (a0 : List (Ty .pred)) (a1_0 : ByteArray) (a1_1 : Int) (a1_2 : List (Ty .val)) : Option S.zv4a_T := (S.zv4a_R a0 a1_0 a1_1 a1_2).run
def S.zv4a_is (a0 : List (Ty .pred)) (a1_0 : ByteArray) (a1_1 : Int) (a1_2 : List (Ty .val)) : Bool := (S.zv4a a0 a1_0 a1_1 a1_2).isSome
def S.zv4a_o (a0 : List (Ty .pred)) (a1_0 : ByteArray) (a1_1 : Int) (a1_2 : List (Ty .val)) : S.zv4a_T := (S.zv4a a0 a1_0 a1_1 a1_2).getD default
def ret_zv4a (b : Bool) (r : S.zv4a_T) : Ret := ⟨b, some (4, (⟨.bool, r.x0⟩ : (t : ET) × List (Ty t))), [(false, [C.own 4 .bool r.x1 0 r.x2])]⟩
def g_zv4a : Con
 | [(false, [.sl a0n a0f .pred a0]), (true, [.sc (.str a1_0), .sc (.int .i64 a1_1), .sl a1_2n a1_2f .val a1_2])] => some (ret_zv4a (S.zv4a_is a0 a1_0 a1_1 a1_2) (S.zv4a_o a0 a1_0 a1_1 a1_2))
 | _ => none
theorem raw_zv4a (a0n : Option Bool) (a0f : Bool) (a0 : List (Ty .pred)) (a1_0 : ByteArray) (a1_1 : Int) (a1_2n : Option Bool) (a1_2f : Bool) (a1_2 : List (Ty .val)) : evR2 cx_zv4a (hdI cx_zv4a (find [(3, T_zv4a_3)]) [] none 0) none Try.f43 43 (some 4) [(false, [.sl a0n a0f .pred a0]), (true, [.sc (.str a1_0), .sc (.int .i64 a1_1), .sl a1_2n a1_2f .val a1_2])] some = (S.zv4a_R a0 a1_0 a1_1 a1_2).go (ret_zv4a true) := by kernel_rfl
theorem bs_zv4a : loopsIn Try.f43 [] = [b_zv4a_3] := by kernel_rfl
theorem zv4a_ok : Stands Try.prog tyTab 43 g_zv4a := by
 refine stands3 (L := find [(3, T_zv4a_3)]) (n := 0) (hints := [(43, 3, { keep := [0, 3, 5, 6], acc := [(5, none, .bool, 4)] })]) (cx_ok rfl) rdy_zv4a ⟨by kernel_rfl, by kernel_rfl, by kernel_rfl⟩ bs_zv4a (consB (fun T h => by have e : T_zv4a_3 = T := Option.some.inj (show some T_zv4a_3 = some T from h); exact e ▸ lok_zv4a_3) nilB) (fun das r hG hr => ?_)
 unfold g_zv4a at hG
 split at hG
 ·rename_i a0n a0f a0 a1_0 a1_1 a1_2n a1_2f a1_2
  injection hG with hG; subst hG
  exact ⟨(some 4), true, win default ((raw_zv4a a0n a0f a0 a1_0 a1_1 a1_2n a1_2f a1_2).trans (DT.go_run _ _)) hr⟩
 ·cases hG
abbrev cx_zecp : Cx := mkCx2 tyTab [(46, g_zcq4)] [] [(40, 6, { keep := [0, 3, 4, 5], acc := [(3, none, .pred, 26)] }), (40, 3, { keep := [0, 3, 4], acc := [(3, none, .pred, 26)] })] []
theorem rdy_zecp : Ready Try.prog tyTab [(46, g_zcq4)] [] [] := ⟨consG2 zcq4_ok (noneG2), noneI2, noneF2⟩
structure S.zecp_6_V where
 t3_f : Bool
 t3_l : Nat
 t5_ : Int
 h_3 : List (Ty .pred)
def S.zecp_6_R (qA : List (Ty .query)) (t4_ : Int) (v : S.zecp_6_V) : DT (Option Nat × S.zecp_6_V) :=
let y0 : Bool := xdec (0 ≤ t4_) && xdec (t4_ < (↑qA.length : Int))
let y1 : List Step := (qA.getD t4_.toNat (dflt .query)).steps
let y2 : Bool := xdec (v.t5_ < (↑y1.length : Int))
let y3 : Nat := 0 + v.t3_l
let y4 : Nat := v.h_3.length
let y5 : Bool := xdec (y3 ≤ y4) && true && true
let y6 : List (Ty .pred) := sub v.h_3 0 y3
let y7 : Ty .step := y1.getD v.t5_.toNat (dflt .step)
let y8 : ByteArray := y7.name
let y9 : List Opn := y7.ifs
let y10 : Nat := 0 + 1
let y11 : List (Ty .pred) := List.replicate 1 (dflt .pred)
let y12 : Pred := { name := y8, ifs := y9 : Pred }
let y13 : Bool := xdec (v.t3_l ≤ y4)
let y14 : Nat := v.t3_l + 1
let y15 : Bool := y7.guard
let y16 : Nat := 0 + y14
let y17 : List (Ty .pred) := List.take v.t3_l v.h_3
let y18 : List (Ty .pred) := y17 ++ [y12]
let y19 : Nat := y18.length
let y20 : List (Ty .pred) := sub y18 0 y16
let y21 : ByteArray := y7.notName
let y22 : List Opn := y7.notIf
let y23 : Pred := { name := y21, ifs := y22 : Pred }
let y24 : Bool := xdec (y10 ≤ (y11.set 0 y23).length)
let y25 : Nat := y14 + 1
let y26 : Int := xwrap .i64 (v.t5_ + 1)
let y27 : List (Ty .pred) := [y23]
(.br (y0)
(.br (y2)
(.br (y0)
(.br (xdec (0 ≤ v.t5_) && y2)
(.br (y5 && S.zcq4_is y6 y8 y9)
(.br (xdec ((S.zcq4_o y6 y8 y9).x0 < 0))
(.br (xdec (y10 ≤ (y11.set 0 y12).length) && y13 && xdec (y14 ≤ 1048576))
(.br (y15)
(.br (xdec (y16 ≤ y19) && true && true && S.zcq4_is y20 y21 y22)
(.br (xdec ((S.zcq4_o y20 y21 y22).x0 < 0))
(.br (y24 && xdec (y14 ≤ y19) && xdec (y25 ≤ 1048576))
(.leaf (none, ⟨false, y25, y26, List.take y14 y18 ++ y27⟩))
.fail)
(.leaf (none, ⟨false, y14, y26, y18⟩)))
.fail)
(.leaf (none, ⟨false, y14, y26, y18⟩)))
.fail)
(.br (y15)
(.br (y5 && S.zcq4_is y6 y21 y22)
(.br (xdec ((S.zcq4_o y6 y21 y22).x0 < 0))
(.br (y24 && y13 && xdec (y14 ≤ 1048576))
(.leaf (none, ⟨false, y14, y26, y17 ++ y27⟩))
.fail)
(.leaf (none, ⟨v.t3_f, v.t3_l, y26, v.h_3⟩)))
.fail)
(.leaf (none, ⟨v.t3_f, v.t3_l, y26, v.h_3⟩))))
.fail)
.fail)
.fail)
(.leaf (some 0, v)))
.fail)
def S.zecp_6_r (qA : List (Ty .query)) (t4_ : Int) (v : S.zecp_6_V) : Option (Option Nat × S.zecp_6_V) := (S.zecp_6_R qA t4_ v).run
def S.zecp_6_j (qA : List (Ty .query)) (t4_ : Int) (v : S.zecp_6_V) (j : Nat) : Bool := Lp_j (S.zecp_6_r qA t4_) v j
def S.zecp_6_v (qA : List (Ty .query)) (t4_ : Int) (v : S.zecp_6_V) : S.zecp_6_V := Lp_v (S.zecp_6_r qA t4_) v
def mk_zecp_6 (qD : Option Bool) (qE : Bool) (qA : List (Ty .query)) (t4_ : Int) (v : S.zecp_6_V) : St := ⟨(V.v false [C.d (.sl qD qE .query qA)] :: (V.any :: (V.any :: (V.v false [C.own 3 .pred v.t3_f 0 v.t3_l] :: ((cV t4_) :: ((cV v.t5_) :: (vs 58 []))))))), (ns 3 (some (Blk.arr 26 .pred v.h_3) :: (ns 5 []))), 0⟩
def ex_zecp_6 (qD : Option Bool) (qE : Bool) (qA : List (Ty .query)) (t4_ : Int) (j : Nat) (v : S.zecp_6_V) : Ex × St := match j with
 | 0 => (Ex.exit 2, ⟨(V.v false [C.d (.sl qD qE .query qA)] :: (V.any :: (V.any :: (V.v false [C.own 3 .pred v.t3_f 0 v.t3_l] :: ((cV t4_) :: (vs 59 [])))))), (ns 3 (some (Blk.arr 26 .pred v.h_3) :: (ns 13 []))), 0⟩)
 | _ => (.ret, ⟨[], [], 0⟩)
def T1_zecp_6 : V → V → V → V → Option Blk → Tree
 | V.v false [C.d (.sl qD qE .query qA)], V.v false [C.own 3 .pred t3_f 0 t3_l], V.v false [C.d (.sc (.int .i64 t4_))], V.v false [C.d (.sc (.int .i64 t5_))], some (Blk.arr 26 .pred h_3) => exT (fun j => ex_zecp_6 qD qE qA t4_ j (S.zecp_6_v qA t4_ ⟨t3_f, t3_l, t5_, h_3⟩)) (S.zecp_6_j qA t4_ ⟨t3_f, t3_l, t5_, h_3⟩) [0]
 | _, _, _, _, _ => .bad
def T_zecp_6 (st : St) : Tree := bif okSt 64 9 0 [3] st then T1_zecp_6 (st.env.getD 0 .any) (st.env.getD 3 .any) (st.env.getD 4 .any) (st.env.getD 5 .any) (lk st.heap 3) else .bad
def b_zecp_6 : Code := loopBy Try.f40 6
theorem rnd_zecp_6 (qD : Option Bool) (qE : Bool) (qA : List (Ty .query)) (t4_ : Int) (v : S.zecp_6_V) : round2 cx_zecp (hdI cx_zecp (find []) [] none 0) 40 b_zecp_6 [3] 9 [0, 3, 4] (mk_zecp_6 qD qE qA t4_ v) = (S.zecp_6_R qA t4_ v).go (roundOut (mk_zecp_6 qD qE qA t4_) (ex_zecp_6 qD qE qA t4_)) := by kernel_rfl
theorem bs_zecp_6 : loopsOf b_zecp_6 ++ loopsInl [] = [] := by kernel_rfl
theorem ci_zecp_6 (qD : Option Bool) (qE : Bool) (qA : List (Ty .query)) (t4_ : Int) : ∀ v j v2, Lp (S.zecp_6_r qA t4_) v = some (j, v2) → Circles Try.prog cx_zecp b_zecp_6 (mk_zecp_6 qD qE qA t4_ v) (ex_zecp_6 qD qE qA t4_ j v2).1 (ex_zecp_6 qD qE qA t4_ j v2).2 :=
 loop_ok2 (L := find []) (n := 0) (hints := [(40, 6, { keep := [0, 3, 4, 5], acc := [(3, none, .pred, 26)] }), (40, 3, { keep := [0, 3, 4], acc := [(3, none, .pred, 26)] })]) (cx_ok rfl) rdy_zecp bs_zecp_6 nilB (fun v => (rnd_zecp_6 qD qE qA t4_ v).trans (DT.go_run _ _)) (by intro j v; unfold ex_zecp_6; split <;> rfl)
theorem mke_zecp_6 (qD : Option Bool) (qE : Bool) (qA : List (Ty .query)) (t4_ : Int) (v : S.zecp_6_V) : mk_zecp_6 qD qE qA t4_ v = ⟨envOf 64 [(0, V.v false [C.d (.sl qD qE .query qA)]), (3, V.v false [C.own 3 .pred v.t3_f 0 v.t3_l]), (4, (cV t4_)), (5, (cV v.t5_))], heapOf 9 [(3, some (Blk.arr 26 .pred v.h_3))], 0⟩ := by kernel_rfl
theorem lo1_zecp_6 (e0 : V) (e3 : V) (e4 : V) (e5 : V) (h3 : Option Blk) e st2 (h : (T1_zecp_6 e0 e3 e4 e5 h3).eval = some (e, st2)) : Circles Try.prog cx_zecp b_zecp_6 ⟨envOf 64 [(0, e0), (3, e3), (4, e4), (5, e5)], heapOf 9 [(3, h3)], 0⟩ e st2 := by
 unfold T1_zecp_6 at h
 split at h
 ·have := loop_tree (mk := mk_zecp_6 _ _ _ _) (ci_zecp_6 _ _ _ _) _ _ e st2 h
  rw [mke_zecp_6] at this
  exact this
 ·cases h
theorem lok_zecp_6 : LoopOk Try.prog cx_zecp b_zecp_6 T_zecp_6 := by
 intro st e st2 h
 unfold T_zecp_6 at h
 cases hk : okSt 64 9 0 [3] st with
 | false => rw [hk] at h; cases h
 | true =>
  rw [hk] at h
  exact circles_keep (ks := [0, 3, 4, 5]) hk (lo1_zecp_6 _ _ _ _ _ e st2 h)
structure S.zecp_3_V where
 t3_f : Bool
 t3_l : Nat
 t4_ : Int
 h_3 : List (Ty .pred)
def S.zecp_3_R (qA : List (Ty .query)) (v : S.zecp_3_V) : DT (Option Nat × S.zecp_3_V) :=
let y0 : S.zecp_6_V := { t3_f := v.t3_f, t3_l := v.t3_l, t5_ := 0, h_3 := v.h_3 : S.zecp_6_V }
let y1 : S.zecp_6_V := S.zecp_6_v qA v.t4_ y0
(.br (xdec (v.t4_ < (↑qA.length : Int)))
(.br (S.zecp_6_j qA v.t4_ y0 0)
(.leaf (none, ⟨y1.t3_f, y1.t3_l, xwrap .i64 (v.t4_ + 1), y1.h_3⟩))
.fail)
(.leaf (some 0, v)))
def S.zecp_3_r (qA : List (Ty .query)) (v : S.zecp_3_V) : Option (Option Nat × S.zecp_3_V) := (S.zecp_3_R qA v).run
def S.zecp_3_j (qA : List (Ty .query)) (v : S.zecp_3_V) (j : Nat) : Bool := Lp_j (S.zecp_3_r qA) v j
def S.zecp_3_v (qA : List (Ty .query)) (v : S.zecp_3_V) : S.zecp_3_V := Lp_v (S.zecp_3_r qA) v
def mk_zecp_3 (qD : Option Bool) (qE : Bool) (qA : List (Ty .query)) (v : S.zecp_3_V) : St := ⟨(V.v false [C.d (.sl qD qE .query qA)] :: (V.any :: (V.any :: (V.v false [C.own 3 .pred v.t3_f 0 v.t3_l] :: ((cV v.t4_) :: (vs 59 [])))))), (ns 3 (some (Blk.arr 26 .pred v.h_3) :: [])), 0⟩
def ex_zecp_3 (qD : Option Bool) (qE : Bool) (qA : List (Ty .query)) (j : Nat) (v : S.zecp_3_V) : Ex × St := match j with
 | 0 => (Ex.exit 0, ⟨(vs 3 (V.v false [C.own 3 .pred v.t3_f 0 v.t3_l] :: (vs 60 []))), (ns 3 (some (Blk.arr 26 .pred v.h_3) :: (ns 4 []))), 0⟩)
 | _ => (.ret, ⟨[], [], 0⟩)
def T1_zecp_3 : V → V → V → Option Blk → Tree
 | V.v false [C.d (.sl qD qE .query qA)], V.v false [C.own 3 .pred t3_f 0 t3_l], V.v false [C.d (.sc (.int .i64 t4_))], some (Blk.arr 26 .pred h_3) => exT (fun j => ex_zecp_3 qD qE qA j (S.zecp_3_v qA ⟨t3_f, t3_l, t4_, h_3⟩)) (S.zecp_3_j qA ⟨t3_f, t3_l, t4_, h_3⟩) [0]
 | _, _, _, _ => .bad
def T_zecp_3 (st : St) : Tree := bif okSt 64 4 0 [3] st then T1_zecp_3 (st.env.getD 0 .any) (st.env.getD 3 .any) (st.env.getD 4 .any) (lk st.heap 3) else .bad
def b_zecp_3 : Code := loopBy Try.f40 3
theorem rnd_zecp_3 (qD : Option Bool) (qE : Bool) (qA : List (Ty .query)) (v : S.zecp_3_V) : round2 cx_zecp (hdI cx_zecp (find [(6, T_zecp_6)]) [] none 0) 40 b_zecp_3 [3] 4 [3] (mk_zecp_3 qD qE qA v) = (S.zecp_3_R qA v).go (roundOut (mk_zecp_3 qD qE qA) (ex_zecp_3 qD qE qA)) := by kernel_rfl
theorem bs_zecp_3 : loopsOf b_zecp_3 ++ loopsInl [] = [b_zecp_6] := by kernel_rfl
theorem ci_zecp_3 (qD : Option Bool) (qE : Bool) (qA : List (Ty .query)) : ∀ v j v2, Lp (S.zecp_3_r qA) v = some (j, v2) → Circles Try.prog cx_zecp b_zecp_3 (mk_zecp_3 qD qE qA v) (ex_zecp_3 qD qE qA j v2).1 (ex_zecp_3 qD qE qA j v2).2 :=
 loop_ok2 (L := find [(6, T_zecp_6)]) (n := 0) (hints := [(40, 6, { keep := [0, 3, 4, 5], acc := [(3, none, .pred, 26)] }), (40, 3, { keep := [0, 3, 4], acc := [(3, none, .pred, 26)] })]) (cx_ok rfl) rdy_zecp bs_zecp_3 (consB (fun T h => by have e : T_zecp_6 = T := Option.some.inj (show some T_zecp_6 = some T from h); exact e ▸ lok_zecp_6) nilB) (fun v => (rnd_zecp_3 qD qE qA v).trans (DT.go_run _ _)) (by intro j v; unfold ex_zecp_3; split <;> rfl)
theorem mke_zecp_3 (qD : Option Bool) (qE : Bool) (qA : List (Ty .query)) (v : S.zecp_3_V) : mk_zecp_3 qD qE qA v = ⟨envOf 64 [(0, V.v false [C.d (.sl qD qE .query qA)]), (3, V.v false [C.own 3 .pred v.t3_f 0 v.t3_l]), (4, (cV v.t4_))], heapOf 4 [(3, some (Blk.arr 26 .pred v.h_3))], 0⟩ := by kernel_rfl
theorem lo1_zecp_3 (e0 : V) (e3 : V) (e4 : V) (h3 : Option Blk) e st2 (h : (T1_zecp_3 e0 e3 e4 h3).eval = some (e, st2)) : Circles Try.prog cx_zecp b_zecp_3 ⟨envOf 64 [(0, e0), (3, e3), (4, e4)], heapOf 4 [(3, h3)], 0⟩ e st2 := by
 unfold T1_zecp_3 at h
 split at h
 ·have := loop_tree (mk := mk_zecp_3 _ _ _) (ci_zecp_3 _ _ _) _ _ e st2 h
  rw [mke_zecp_3] at this
  exact this
 ·cases h
theorem lok_zecp_3 : LoopOk Try.prog cx_zecp b_zecp_3 T_zecp_3 := by
 intro st e st2 h
 unfold T_zecp_3 at h
 cases hk : okSt 64 4 0 [3] st with
 | false => rw [hk] at h; cases h
 | true =>
  rw [hk] at h
  exact circles_keep (ks := [0, 3, 4]) hk (lo1_zecp_3 _ _ _ _ e st2 h)
structure S.zecp_T where
 x0 : List (Ty .pred)
 x1 : Bool
 x2 : Nat
 deriving Inhabited
def S.zecp_R (a0 : List (Ty .query)) : DT S.zecp_T :=
let y0 : S.zecp_3_V := { t3_f := true, t3_l := 0, t4_ := 0, h_3 := [] : S.zecp_3_V }
let y1 : S.zecp_3_V := S.zecp_3_v a0 y0
(.br (S.zecp_3_j a0 y0 0)
(.leaf ⟨y1.h_3, y1.t3_f, y1.t3_l⟩)
.fail)
def S.zecp (a0 : List (Ty .query)) : Option S.zecp_T := (S.zecp_R a0).run
def S.zecp_is (a0 : List (Ty .query)) : Bool := (S.zecp a0).isSome
def S.zecp_o (a0 : List (Ty .query)) : S.zecp_T := (S.zecp a0).getD default
def ret_zecp (b : Bool) (r : S.zecp_T) : Ret := ⟨b, some (26, (⟨.pred, r.x0⟩ : (t : ET) × List (Ty t))), [(false, [C.own 3 .pred r.x1 0 r.x2])]⟩
def g_zecp : Con
 | [(false, [.sl a0n a0f .query a0])] => some (ret_zecp (S.zecp_is a0) (S.zecp_o a0))
 | _ => none
theorem raw_zecp (a0n : Option Bool) (a0f : Bool) (a0 : List (Ty .query)) : evR2 cx_zecp (hdI cx_zecp (find [(6, T_zecp_6), (3, T_zecp_3)]) [] none 0) none Try.f40 40 (some 26) [(false, [.sl a0n a0f .query a0])] some = (S.zecp_R a0).go (ret_zecp true) := by kernel_rfl
theorem bs_zecp : loopsIn Try.f40 [] = [b_zecp_3] := by kernel_rfl
theorem zecp_ok : Stands Try.prog tyTab 40 g_zecp := by
 refine stands3 (L := find [(6, T_zecp_6), (3, T_zecp_3)]) (n := 0) (hints := [(40, 6, { keep := [0, 3, 4, 5], acc := [(3, none, .pred, 26)] }), (40, 3, { keep := [0, 3, 4], acc := [(3, none, .pred, 26)] })]) (cx_ok rfl) rdy_zecp ⟨by kernel_rfl, by kernel_rfl, by kernel_rfl⟩ bs_zecp (consB (fun T h => by have e : T_zecp_3 = T := Option.some.inj (show some T_zecp_3 = some T from h); exact e ▸ lok_zecp_3) nilB) (fun das r hG hr => ?_)
 unfold g_zecp at hG
 split at hG
 ·rename_i a0n a0f a0
  injection hG with hG; subst hG
  exact ⟨(some 26), true, win default ((raw_zecp a0n a0f a0).trans (DT.go_run _ _)) hr⟩
 ·cases hG
end
end Go.Eng
