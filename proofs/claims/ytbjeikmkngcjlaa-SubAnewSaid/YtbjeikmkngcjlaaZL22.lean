/- Contracts, laid by program. -/
import Derived.Test.YtbjeikmkngcjlaaZG9
set_option maxHeartbeats 2000000
set_option maxRecDepth 10000
set_option linter.unusedVariables false
set_option linter.unusedSimpArgs false
namespace Go.Eng
noncomputable section
open Go Go.Eng Go.Proofs Go.Eng.Tab
abbrev cx_law15_SubAnew : Cx := mkCx2 tyTab [(63, g_law15_awake), (64, g_law15_Few), (65, g_sub_May), (68, g_sub_Give), (69, g_sub_Go)] [] [(22, 9, { keep := [2, 7, 9], acc := [] })] []
theorem rdy_law15_SubAnew : Ready Try.prog tyTab [(63, g_law15_awake), (64, g_law15_Few), (65, g_sub_May), (68, g_sub_Give), (69, g_sub_Go)] [] [] := ⟨consG2 law15_awake_ok (consG2 law15_Few_ok (consG2 sub_May_ok (consG2 sub_Give_ok (consG2 sub_Go_ok (noneG2))))), noneI2, noneF2⟩
structure S.law15_SubAnew_9_V where
  t_9_0 : Int
  h_24_0 : Int
  h_24_1 : Int
  h_24_2 : List (Ty .step)
  h_24_3 : Int
  h_24_4 : Int
  h_24_5 : Int
  h_24_6 : Int
  h_24_7 : List (Ty .run)
  h_24_8 : Int
  h_24_9 : Int
  h_24_10 : Int
  h_24_11 : List (Ty .mat)
  h_24_12 : Bool
  h_24_13 : Int
  h_24_14 : Bool
def S.law15_SubAnew_9_R (qA : Int) (qB : Int) (qC : List (Ty .mat)) (v : S.law15_SubAnew_9_V) : DT (Option Nat × S.law15_SubAnew_9_V) :=
let y0 : Bool := xdec (v.t_9_0 < (↑qC.length : Int))
let y1 : S.sub_Give_T := S.sub_Give_o v.h_24_0 v.h_24_1 v.h_24_2 v.h_24_3 v.h_24_4 v.h_24_5 v.h_24_6 v.h_24_7 v.h_24_8 v.h_24_9 v.h_24_10 v.h_24_11 v.h_24_12 v.h_24_13 v.h_24_14
let y2 : Ty ET.mat := qC.getD v.t_9_0.toNat (dflt ET.mat)
(.br (y0)
(.br (S.sub_Give_is v.h_24_0 v.h_24_1 v.h_24_2 v.h_24_3 v.h_24_4 v.h_24_5 v.h_24_6 v.h_24_7 v.h_24_8 v.h_24_9 v.h_24_10 v.h_24_11 v.h_24_12 v.h_24_13 v.h_24_14)
(.br (xnot y1.x22)
(.leaf (some 0, v))
(.br (xneI y1.x17 0)
(.leaf (some 0, v))
(.br (xneI y1.x16 (xwrap IntKind.i64 (xwrap IntKind.i64 (qB + v.t_9_0) + 1)))
(.leaf (some 0, v))
(.br (xdec (0 ≤ v.t_9_0) && y0)
(.br (bif xeqI y1.x18 y2.start && (xeqI y1.x19 y2.fin && (xeqI y1.x20 y2.agg && xeqB y1.x21 y2.bad)) then false else true)
(.leaf (some 0, v))
(.br (xneI y1.x15 qA)
(.leaf (some 0, v))
(.leaf (none, ⟨xwrap IntKind.i64 (v.t_9_0 + 1), y1.x0, y1.x1, y1.x2, y1.x3, y1.x4, y1.x5, y1.x6, y1.x7, y1.x8, y1.x9, y1.x10, y1.x11, y1.x12, y1.x13, y1.x14⟩))))
.fail))))
.fail)
(.leaf (some 1, v)))
def S.law15_SubAnew_9_r (qA : Int) (qB : Int) (qC : List (Ty .mat)) (v : S.law15_SubAnew_9_V) : Option (Option Nat × S.law15_SubAnew_9_V) := (S.law15_SubAnew_9_R qA qB qC v).run
def S.law15_SubAnew_9_j (qA : Int) (qB : Int) (qC : List (Ty .mat)) (v : S.law15_SubAnew_9_V) (j : Nat) : Bool := Lp_j (S.law15_SubAnew_9_r qA qB qC) v j
def S.law15_SubAnew_9_v (qA : Int) (qB : Int) (qC : List (Ty .mat)) (v : S.law15_SubAnew_9_V) : S.law15_SubAnew_9_V := Lp_v (S.law15_SubAnew_9_r qA qB qC) v
def mk_law15_SubAnew_9 (qA : Int) (qD : Int) (qE : Option Bool) (qF : Bool) (qG : List (Ty .step)) (qH : Int) (qI : Int) (qJ : Int) (qK : Int) (qL : Option Bool) (qM : Bool) (qN : List (Ty .run)) (qO : Int) (qB : Int) (qP : Int) (qQ : Option Bool) (qR : Bool) (qC : List (Ty .mat)) (qS : Bool) (qT : Int) (qU : Bool) (v : S.law15_SubAnew_9_V) : St := ⟨[V.any, V.any, V.v false [C.ptr 0 0], V.any, V.any, V.any, V.any, V.v false [C.ptr 24 0], V.any, V.v false [C.d (.sc (.int .i64 v.t_9_0))], V.any, V.any, V.any, V.any,
  V.any, V.any, V.any, V.any, V.any, V.any, V.any, V.any, V.any, V.any, V.any, V.any, V.any, V.any, V.any, V.any, V.any, V.any, V.any, V.any, V.any, V.any, V.any, V.any, V.any,
  V.any, V.any, V.any, V.any, V.any, V.any, V.any, V.any, V.any, V.any, V.any, V.any, V.any, V.any, V.any, V.any, V.any, V.any, V.any, V.any, V.any, V.any, V.any, V.any, V.any,
  V.any, V.any, V.any, V.any, V.any, V.any, V.any, V.any, V.any, V.any, V.any, V.any, V.any, V.any, V.any, V.any, V.any, V.any, V.any, V.any, V.any, V.any, V.any, V.any, V.any,
  V.any, V.any, V.any, V.any, V.any, V.any, V.any, V.any, V.any, V.any, V.any, V.any, V.any, V.any, V.any, V.any, V.any, V.any, V.any, V.any, V.any, V.any, V.any, V.any, V.any,
  V.any, V.any, V.any, V.any, V.any, V.any, V.any, V.any, V.any, V.any, V.any, V.any, V.any, V.any], [some
    (Blk.box 89
      [C.d (.sc (.int .i64 qA)), C.d (.sc (.int .i64 qD)), C.d (.sl qE qF ET.step qG), C.d (.sc (.int .i64 qH)),
        C.d (.sc (.int .i64 qI)), C.d (.sc (.int .i64 qJ)), C.d (.sc (.int .i64 qK)), C.d (.sl qL qM ET.run qN),
        C.d (.sc (.int .i64 qO)), C.d (.sc (.int .i64 qB)), C.d (.sc (.int .i64 qP)), C.d (.sl qQ qR ET.mat qC),
        C.d (.sc (.bool qS)), C.d (.sc (.int .i64 qT)), C.d (.sc (.bool qU))]),
  none, none, none, none, none, none, none, none, none, none, none, none, none, none, none, none, none, none, none, none, none, none, none,
  some
    (Blk.box 89
      [C.d (.sc (.int .i64 v.h_24_0)), C.d (.sc (.int .i64 v.h_24_1)), C.d (.sl none false ET.step v.h_24_2), C.d (.sc (.int .i64 v.h_24_3)),
        C.d (.sc (.int .i64 v.h_24_4)), C.d (.sc (.int .i64 v.h_24_5)), C.d (.sc (.int .i64 v.h_24_6)), C.d (.sl none false ET.run v.h_24_7),
        C.d (.sc (.int .i64 v.h_24_8)), C.d (.sc (.int .i64 v.h_24_9)), C.d (.sc (.int .i64 v.h_24_10)), C.d (.sl none false ET.mat v.h_24_11),
        C.d (.sc (.bool v.h_24_12)), C.d (.sc (.int .i64 v.h_24_13)), C.d (.sc (.bool v.h_24_14))]),
  none, none, none, none, none, none, none, none, none, none], 0⟩
def ex_law15_SubAnew_9 (qA : Int) (qD : Int) (qE : Option Bool) (qF : Bool) (qG : List (Ty .step)) (qH : Int) (qI : Int) (qJ : Int) (qK : Int) (qL : Option Bool) (qM : Bool) (qN : List (Ty .run)) (qO : Int) (qB : Int) (qP : Int) (qQ : Option Bool) (qR : Bool) (qC : List (Ty .mat)) (qS : Bool) (qT : Int) (qU : Bool) (j : Nat) (v : S.law15_SubAnew_9_V) : Ex × St := match j with
  | 0 => (Ex.ret, ⟨[V.any, V.any, V.v false [C.ptr 0 0], V.any, V.v false [C.d (.sc (.bool false))], V.any, V.any, V.v false [C.ptr 24 0], V.any, V.any, V.any, V.any, V.any, V.any, V.any, V.any,
  V.any, V.any, V.any, V.any, V.any, V.any, V.any, V.any, V.any, V.any, V.any, V.any, V.any, V.any, V.any, V.any, V.any, V.any, V.any, V.any, V.any, V.any, V.any, V.any, V.any,
  V.any, V.any, V.any, V.any, V.any, V.any, V.any, V.any, V.any, V.any, V.any, V.any, V.any, V.any, V.any, V.any, V.any, V.any, V.any, V.any, V.any, V.any, V.any, V.any, V.any,
  V.any, V.any, V.any, V.any, V.any, V.any, V.any, V.any, V.any, V.any, V.any, V.any, V.any, V.any, V.any, V.any, V.any, V.any, V.any, V.any, V.any, V.any, V.any, V.any, V.any,
  V.any, V.any, V.any, V.any, V.any, V.any, V.any, V.any, V.any, V.any, V.any, V.any, V.any, V.any, V.any, V.any, V.any, V.any, V.any, V.any, V.any, V.any, V.any, V.any, V.any,
  V.any, V.any, V.any, V.any, V.any, V.any, V.any, V.any, V.any, V.any, V.any, V.any], [some
    (Blk.box 89
      [C.d (.sc (.int .i64 qA)), C.d (.sc (.int .i64 qD)), C.d (.sl qE qF ET.step qG), C.d (.sc (.int .i64 qH)),
        C.d (.sc (.int .i64 qI)), C.d (.sc (.int .i64 qJ)), C.d (.sc (.int .i64 qK)), C.d (.sl qL qM ET.run qN),
        C.d (.sc (.int .i64 qO)), C.d (.sc (.int .i64 qB)), C.d (.sc (.int .i64 qP)), C.d (.sl qQ qR ET.mat qC),
        C.d (.sc (.bool qS)), C.d (.sc (.int .i64 qT)), C.d (.sc (.bool qU))]),
  none, none, none, none, none, none, none, none, none, none, none, none, none, none, none, none, none, none, none, none, none, none, none,
  some
    (Blk.box 89
      [C.d (.sc (.int .i64 v.h_24_0)), C.d (.sc (.int .i64 v.h_24_1)), C.d (.sl none false ET.step v.h_24_2), C.d (.sc (.int .i64 v.h_24_3)),
        C.d (.sc (.int .i64 v.h_24_4)), C.d (.sc (.int .i64 v.h_24_5)), C.d (.sc (.int .i64 v.h_24_6)), C.d (.sl none false ET.run v.h_24_7),
        C.d (.sc (.int .i64 v.h_24_8)), C.d (.sc (.int .i64 v.h_24_9)), C.d (.sc (.int .i64 v.h_24_10)), C.d (.sl none false ET.mat v.h_24_11),
        C.d (.sc (.bool v.h_24_12)), C.d (.sc (.int .i64 v.h_24_13)), C.d (.sc (.bool v.h_24_14))]),
  none, none, none, none, none, none, none, none, none, none, none, none, none, none, none, none, none, none, none, none, none, none,
  some
    (Blk.box 89
      [C.d
          (D.sc
            (Sc.int IntKind.i64
              (S.sub_Give_o v.h_24_0 v.h_24_1 v.h_24_2 v.h_24_3 v.h_24_4 v.h_24_5 v.h_24_6 v.h_24_7 v.h_24_8 v.h_24_9 v.h_24_10 v.h_24_11 v.h_24_12 v.h_24_13 v.h_24_14).x0)),
        C.d
          (D.sc
            (Sc.int IntKind.i64
              (S.sub_Give_o v.h_24_0 v.h_24_1 v.h_24_2 v.h_24_3 v.h_24_4 v.h_24_5 v.h_24_6 v.h_24_7 v.h_24_8 v.h_24_9 v.h_24_10 v.h_24_11 v.h_24_12 v.h_24_13 v.h_24_14).x1)),
        C.d
          (D.sl none false ET.step
            (S.sub_Give_o v.h_24_0 v.h_24_1 v.h_24_2 v.h_24_3 v.h_24_4 v.h_24_5 v.h_24_6 v.h_24_7 v.h_24_8 v.h_24_9 v.h_24_10 v.h_24_11 v.h_24_12 v.h_24_13 v.h_24_14).x2),
        C.d
          (D.sc
            (Sc.int IntKind.i64
              (S.sub_Give_o v.h_24_0 v.h_24_1 v.h_24_2 v.h_24_3 v.h_24_4 v.h_24_5 v.h_24_6 v.h_24_7 v.h_24_8 v.h_24_9 v.h_24_10 v.h_24_11 v.h_24_12 v.h_24_13 v.h_24_14).x3)),
        C.d
          (D.sc
            (Sc.int IntKind.i64
              (S.sub_Give_o v.h_24_0 v.h_24_1 v.h_24_2 v.h_24_3 v.h_24_4 v.h_24_5 v.h_24_6 v.h_24_7 v.h_24_8 v.h_24_9 v.h_24_10 v.h_24_11 v.h_24_12 v.h_24_13 v.h_24_14).x4)),
        C.d
          (D.sc
            (Sc.int IntKind.i64
              (S.sub_Give_o v.h_24_0 v.h_24_1 v.h_24_2 v.h_24_3 v.h_24_4 v.h_24_5 v.h_24_6 v.h_24_7 v.h_24_8 v.h_24_9 v.h_24_10 v.h_24_11 v.h_24_12 v.h_24_13 v.h_24_14).x5)),
        C.d
          (D.sc
            (Sc.int IntKind.i64
              (S.sub_Give_o v.h_24_0 v.h_24_1 v.h_24_2 v.h_24_3 v.h_24_4 v.h_24_5 v.h_24_6 v.h_24_7 v.h_24_8 v.h_24_9 v.h_24_10 v.h_24_11 v.h_24_12 v.h_24_13 v.h_24_14).x6)),
        C.d
          (D.sl none false ET.run
            (S.sub_Give_o v.h_24_0 v.h_24_1 v.h_24_2 v.h_24_3 v.h_24_4 v.h_24_5 v.h_24_6 v.h_24_7 v.h_24_8 v.h_24_9 v.h_24_10 v.h_24_11 v.h_24_12 v.h_24_13 v.h_24_14).x7),
        C.d
          (D.sc
            (Sc.int IntKind.i64
              (S.sub_Give_o v.h_24_0 v.h_24_1 v.h_24_2 v.h_24_3 v.h_24_4 v.h_24_5 v.h_24_6 v.h_24_7 v.h_24_8 v.h_24_9 v.h_24_10 v.h_24_11 v.h_24_12 v.h_24_13 v.h_24_14).x8)),
        C.d
          (D.sc
            (Sc.int IntKind.i64
              (S.sub_Give_o v.h_24_0 v.h_24_1 v.h_24_2 v.h_24_3 v.h_24_4 v.h_24_5 v.h_24_6 v.h_24_7 v.h_24_8 v.h_24_9 v.h_24_10 v.h_24_11 v.h_24_12 v.h_24_13 v.h_24_14).x9)),
        C.d
          (D.sc
            (Sc.int IntKind.i64
              (S.sub_Give_o v.h_24_0 v.h_24_1 v.h_24_2 v.h_24_3 v.h_24_4 v.h_24_5 v.h_24_6 v.h_24_7 v.h_24_8 v.h_24_9 v.h_24_10 v.h_24_11 v.h_24_12 v.h_24_13 v.h_24_14).x10)),
        C.d
          (D.sl none false ET.mat
            (S.sub_Give_o v.h_24_0 v.h_24_1 v.h_24_2 v.h_24_3 v.h_24_4 v.h_24_5 v.h_24_6 v.h_24_7 v.h_24_8 v.h_24_9 v.h_24_10 v.h_24_11 v.h_24_12 v.h_24_13 v.h_24_14).x11),
        C.d
          (D.sc
            (Sc.bool
              (S.sub_Give_o v.h_24_0 v.h_24_1 v.h_24_2 v.h_24_3 v.h_24_4 v.h_24_5 v.h_24_6 v.h_24_7 v.h_24_8 v.h_24_9 v.h_24_10 v.h_24_11 v.h_24_12 v.h_24_13 v.h_24_14).x12)),
        C.d
          (D.sc
            (Sc.int IntKind.i64
              (S.sub_Give_o v.h_24_0 v.h_24_1 v.h_24_2 v.h_24_3 v.h_24_4 v.h_24_5 v.h_24_6 v.h_24_7 v.h_24_8 v.h_24_9 v.h_24_10 v.h_24_11 v.h_24_12 v.h_24_13 v.h_24_14).x13)),
        C.d
          (D.sc
            (Sc.bool
              (S.sub_Give_o v.h_24_0 v.h_24_1 v.h_24_2 v.h_24_3 v.h_24_4 v.h_24_5 v.h_24_6 v.h_24_7 v.h_24_8 v.h_24_9 v.h_24_10 v.h_24_11 v.h_24_12 v.h_24_13 v.h_24_14).x14))]),
  some
    (Blk.box 95
      [C.d
          (D.sc
            (Sc.int IntKind.i64
              (S.sub_Give_o v.h_24_0 v.h_24_1 v.h_24_2 v.h_24_3 v.h_24_4 v.h_24_5 v.h_24_6 v.h_24_7 v.h_24_8 v.h_24_9 v.h_24_10 v.h_24_11 v.h_24_12 v.h_24_13 v.h_24_14).x15)),
        C.d
          (D.sc
            (Sc.int IntKind.i64
              (S.sub_Give_o v.h_24_0 v.h_24_1 v.h_24_2 v.h_24_3 v.h_24_4 v.h_24_5 v.h_24_6 v.h_24_7 v.h_24_8 v.h_24_9 v.h_24_10 v.h_24_11 v.h_24_12 v.h_24_13 v.h_24_14).x16)),
        C.d
          (D.sc
            (Sc.int IntKind.i64
              (S.sub_Give_o v.h_24_0 v.h_24_1 v.h_24_2 v.h_24_3 v.h_24_4 v.h_24_5 v.h_24_6 v.h_24_7 v.h_24_8 v.h_24_9 v.h_24_10 v.h_24_11 v.h_24_12 v.h_24_13 v.h_24_14).x17)),
        C.d
          (D.sc
            (Sc.int IntKind.i64
              (S.sub_Give_o v.h_24_0 v.h_24_1 v.h_24_2 v.h_24_3 v.h_24_4 v.h_24_5 v.h_24_6 v.h_24_7 v.h_24_8 v.h_24_9 v.h_24_10 v.h_24_11 v.h_24_12 v.h_24_13 v.h_24_14).x18)),
        C.d
          (D.sc
            (Sc.int IntKind.i64
              (S.sub_Give_o v.h_24_0 v.h_24_1 v.h_24_2 v.h_24_3 v.h_24_4 v.h_24_5 v.h_24_6 v.h_24_7 v.h_24_8 v.h_24_9 v.h_24_10 v.h_24_11 v.h_24_12 v.h_24_13 v.h_24_14).x19)),
        C.d
          (D.sc
            (Sc.int IntKind.i64
              (S.sub_Give_o v.h_24_0 v.h_24_1 v.h_24_2 v.h_24_3 v.h_24_4 v.h_24_5 v.h_24_6 v.h_24_7 v.h_24_8 v.h_24_9 v.h_24_10 v.h_24_11 v.h_24_12 v.h_24_13 v.h_24_14).x20)),
        C.d
          (D.sc
            (Sc.bool
              (S.sub_Give_o v.h_24_0 v.h_24_1 v.h_24_2 v.h_24_3 v.h_24_4 v.h_24_5 v.h_24_6 v.h_24_7 v.h_24_8 v.h_24_9 v.h_24_10 v.h_24_11 v.h_24_12 v.h_24_13 v.h_24_14).x21))]),
  none, none, none, none, none, none, none, none, none, none, none, none, none, none, none, none, none, none, none, none, none, none, none, none, none, none, none, none, none,
  none, none, none, none, none, none, none, none, none, none, none], 0⟩)
  | 1 => (Ex.exit 0, ⟨[V.any, V.any, V.v false [C.ptr 0 0], V.any, V.any, V.any, V.any, V.v false [C.ptr 24 0], V.any, V.any, V.any, V.any, V.any, V.any, V.any, V.any, V.any, V.any, V.any, V.any, V.any,
  V.any, V.any, V.any, V.any, V.any, V.any, V.any, V.any, V.any, V.any, V.any, V.any, V.any, V.any, V.any, V.any, V.any, V.any, V.any, V.any, V.any, V.any, V.any, V.any, V.any,
  V.any, V.any, V.any, V.any, V.any, V.any, V.any, V.any, V.any, V.any, V.any, V.any, V.any, V.any, V.any, V.any, V.any, V.any, V.any, V.any, V.any, V.any, V.any, V.any, V.any,
  V.any, V.any, V.any, V.any, V.any, V.any, V.any, V.any, V.any, V.any, V.any, V.any, V.any, V.any, V.any, V.any, V.any, V.any, V.any, V.any, V.any, V.any, V.any, V.any, V.any,
  V.any, V.any, V.any, V.any, V.any, V.any, V.any, V.any, V.any, V.any, V.any, V.any, V.any, V.any, V.any, V.any, V.any, V.any, V.any, V.any, V.any, V.any, V.any, V.any, V.any,
  V.any, V.any, V.any, V.any, V.any, V.any, V.any], [some
    (Blk.box 89
      [C.d (.sc (.int .i64 qA)), C.d (.sc (.int .i64 qD)), C.d (.sl qE qF ET.step qG), C.d (.sc (.int .i64 qH)),
        C.d (.sc (.int .i64 qI)), C.d (.sc (.int .i64 qJ)), C.d (.sc (.int .i64 qK)), C.d (.sl qL qM ET.run qN),
        C.d (.sc (.int .i64 qO)), C.d (.sc (.int .i64 qB)), C.d (.sc (.int .i64 qP)), C.d (.sl qQ qR ET.mat qC),
        C.d (.sc (.bool qS)), C.d (.sc (.int .i64 qT)), C.d (.sc (.bool qU))]),
  none, none, none, none, none, none, none, none, none, none, none, none, none, none, none, none, none, none, none, none, none, none, none,
  some
    (Blk.box 89
      [C.d (.sc (.int .i64 v.h_24_0)), C.d (.sc (.int .i64 v.h_24_1)), C.d (.sl none false ET.step v.h_24_2), C.d (.sc (.int .i64 v.h_24_3)),
        C.d (.sc (.int .i64 v.h_24_4)), C.d (.sc (.int .i64 v.h_24_5)), C.d (.sc (.int .i64 v.h_24_6)), C.d (.sl none false ET.run v.h_24_7),
        C.d (.sc (.int .i64 v.h_24_8)), C.d (.sc (.int .i64 v.h_24_9)), C.d (.sc (.int .i64 v.h_24_10)), C.d (.sl none false ET.mat v.h_24_11),
        C.d (.sc (.bool v.h_24_12)), C.d (.sc (.int .i64 v.h_24_13)), C.d (.sc (.bool v.h_24_14))]),
  none, none, none, none, none, none, none, none, none, none, none, none, none, none, none, none], 0⟩)
  | _ => (.ret, ⟨[], [], 0⟩)
def U_law15_SubAnew_9_e2 (x : V) (K : Tree) : Tree := match x with
  | V.v false [C.ptr 0 0] => K
  | _ => .bad
def U_law15_SubAnew_9_e7 (x : V) (K : Tree) : Tree := match x with
  | V.v false [C.ptr 24 0] => K
  | _ => .bad
def U_law15_SubAnew_9_e9 (x : V) (K : Int → Tree) : Tree := match x with
  | V.v false [C.d (.sc (.int .i64 t_9_0))] => K t_9_0
  | _ => .bad
def U_law15_SubAnew_9_h0 (x : Option Blk) (K : Int → Int → (Option Bool) → Bool → (List (Ty .step)) → Int → Int → Int → Int → (Option Bool) → Bool → (List (Ty .run)) → Int → Int → Int → (Option Bool) → Bool → (List (Ty .mat)) → Bool → Int → Bool → Tree) : Tree := match x with
  | some (Blk.box 89 [C.d (.sc (.int .i64 qA)), C.d (.sc (.int .i64 qD)), C.d (.sl qE qF ET.step qG), C.d (.sc (.int .i64 qH)), C.d (.sc (.int .i64 qI)), C.d (.sc (.int .i64 qJ)), C.d (.sc (.int .i64 qK)), C.d (.sl qL qM ET.run qN), C.d (.sc (.int .i64 qO)), C.d (.sc (.int .i64 qB)), C.d (.sc (.int .i64 qP)), C.d (.sl qQ qR ET.mat qC), C.d (.sc (.bool qS)), C.d (.sc (.int .i64 qT)), C.d (.sc (.bool qU))]) => K qA qD qE qF qG qH qI qJ qK qL qM qN qO qB qP qQ qR qC qS qT qU
  | _ => .bad
def U_law15_SubAnew_9_h24 (x : Option Blk) (K : Int → Int → (List (Ty .step)) → Int → Int → Int → Int → (List (Ty .run)) → Int → Int → Int → (List (Ty .mat)) → Bool → Int → Bool → Tree) : Tree := match x with
  | some (Blk.box 89 [C.d (.sc (.int .i64 h_24_0)), C.d (.sc (.int .i64 h_24_1)), C.d (.sl none false ET.step h_24_2), C.d (.sc (.int .i64 h_24_3)), C.d (.sc (.int .i64 h_24_4)), C.d (.sc (.int .i64 h_24_5)), C.d (.sc (.int .i64 h_24_6)), C.d (.sl none false ET.run h_24_7), C.d (.sc (.int .i64 h_24_8)), C.d (.sc (.int .i64 h_24_9)), C.d (.sc (.int .i64 h_24_10)), C.d (.sl none false ET.mat h_24_11), C.d (.sc (.bool h_24_12)), C.d (.sc (.int .i64 h_24_13)), C.d (.sc (.bool h_24_14))]) => K h_24_0 h_24_1 h_24_2 h_24_3 h_24_4 h_24_5 h_24_6 h_24_7 h_24_8 h_24_9 h_24_10 h_24_11 h_24_12 h_24_13 h_24_14
  | _ => .bad
def T1_law15_SubAnew_9 (e2 : V) (e7 : V) (e9 : V) (h0 : Option Blk) (h24 : Option Blk) : Tree := U_law15_SubAnew_9_e2 e2 (U_law15_SubAnew_9_e7 e7 (U_law15_SubAnew_9_e9 e9 (fun t_9_0 => U_law15_SubAnew_9_h0 h0 (fun qA qD qE qF qG qH qI qJ qK qL qM qN qO qB qP qQ qR qC qS qT qU => U_law15_SubAnew_9_h24 h24 (fun h_24_0 h_24_1 h_24_2 h_24_3 h_24_4 h_24_5 h_24_6 h_24_7 h_24_8 h_24_9 h_24_10 h_24_11 h_24_12 h_24_13 h_24_14 => exT (fun j => ex_law15_SubAnew_9 qA qD qE qF qG qH qI qJ qK qL qM qN qO qB qP qQ qR qC qS qT qU j (S.law15_SubAnew_9_v qA qB qC ⟨t_9_0, h_24_0, h_24_1, h_24_2, h_24_3, h_24_4, h_24_5, h_24_6, h_24_7, h_24_8, h_24_9, h_24_10, h_24_11, h_24_12, h_24_13, h_24_14⟩)) (S.law15_SubAnew_9_j qA qB qC ⟨t_9_0, h_24_0, h_24_1, h_24_2, h_24_3, h_24_4, h_24_5, h_24_6, h_24_7, h_24_8, h_24_9, h_24_10, h_24_11, h_24_12, h_24_13, h_24_14⟩) [0, 1])))))
def T_law15_SubAnew_9 (st : St) : Tree := bif okSt 128 35 0 [0, 24] st then T1_law15_SubAnew_9 (st.env.getD 2 .any) (st.env.getD 7 .any) (st.env.getD 9 .any) (lk st.heap 0) (lk st.heap 24) else .bad
def b_law15_SubAnew_9 : Code := loopBy Try.f22 9
theorem rnd_law15_SubAnew_9 (qA : Int) (qD : Int) (qE : Option Bool) (qF : Bool) (qG : List (Ty .step)) (qH : Int) (qI : Int) (qJ : Int) (qK : Int) (qL : Option Bool) (qM : Bool) (qN : List (Ty .run)) (qO : Int) (qB : Int) (qP : Int) (qQ : Option Bool) (qR : Bool) (qC : List (Ty .mat)) (qS : Bool) (qT : Int) (qU : Bool) (v : S.law15_SubAnew_9_V) : round2 cx_law15_SubAnew (hdI cx_law15_SubAnew (find []) [] none 0) 22 b_law15_SubAnew_9 [] 35 [2, 4, 7] (mk_law15_SubAnew_9 qA qD qE qF qG qH qI qJ qK qL qM qN qO qB qP qQ qR qC qS qT qU v) = (S.law15_SubAnew_9_R qA qB qC v).go (roundOut (mk_law15_SubAnew_9 qA qD qE qF qG qH qI qJ qK qL qM qN qO qB qP qQ qR qC qS qT qU) (ex_law15_SubAnew_9 qA qD qE qF qG qH qI qJ qK qL qM qN qO qB qP qQ qR qC qS qT qU)) := by kernel_rfl
theorem bs_law15_SubAnew_9 : loopsOf b_law15_SubAnew_9 ++ loopsInl [] = [] := by kernel_rfl
theorem ci_law15_SubAnew_9 (qA : Int) (qD : Int) (qE : Option Bool) (qF : Bool) (qG : List (Ty .step)) (qH : Int) (qI : Int) (qJ : Int) (qK : Int) (qL : Option Bool) (qM : Bool) (qN : List (Ty .run)) (qO : Int) (qB : Int) (qP : Int) (qQ : Option Bool) (qR : Bool) (qC : List (Ty .mat)) (qS : Bool) (qT : Int) (qU : Bool) : ∀ v j v2, Lp (S.law15_SubAnew_9_r qA qB qC) v = some (j, v2) → Circles Try.prog cx_law15_SubAnew b_law15_SubAnew_9 (mk_law15_SubAnew_9 qA qD qE qF qG qH qI qJ qK qL qM qN qO qB qP qQ qR qC qS qT qU v) (ex_law15_SubAnew_9 qA qD qE qF qG qH qI qJ qK qL qM qN qO qB qP qQ qR qC qS qT qU j v2).1 (ex_law15_SubAnew_9 qA qD qE qF qG qH qI qJ qK qL qM qN qO qB qP qQ qR qC qS qT qU j v2).2 :=
  loop_ok2 (L := find []) (n := 0) (hints := [(22, 9, { keep := [2, 7, 9], acc := [] })]) (cx_ok rfl) rdy_law15_SubAnew bs_law15_SubAnew_9 nilB (fun v => (rnd_law15_SubAnew_9 qA qD qE qF qG qH qI qJ qK qL qM qN qO qB qP qQ qR qC qS qT qU v).trans (DT.go_run _ _)) (by intro j v; unfold ex_law15_SubAnew_9; split <;> rfl)
theorem mke_law15_SubAnew_9 (qA : Int) (qD : Int) (qE : Option Bool) (qF : Bool) (qG : List (Ty .step)) (qH : Int) (qI : Int) (qJ : Int) (qK : Int) (qL : Option Bool) (qM : Bool) (qN : List (Ty .run)) (qO : Int) (qB : Int) (qP : Int) (qQ : Option Bool) (qR : Bool) (qC : List (Ty .mat)) (qS : Bool) (qT : Int) (qU : Bool) (v : S.law15_SubAnew_9_V) : mk_law15_SubAnew_9 qA qD qE qF qG qH qI qJ qK qL qM qN qO qB qP qQ qR qC qS qT qU v = ⟨envOf 128 [(2, V.v false [C.ptr 0 0]), (7, V.v false [C.ptr 24 0]), (9, V.v false [C.d (.sc (.int .i64 v.t_9_0))])], heapOf 35 [(0, some
  (Blk.box 89
    [C.d (.sc (.int .i64 qA)), C.d (.sc (.int .i64 qD)), C.d (.sl qE qF ET.step qG), C.d (.sc (.int .i64 qH)),
      C.d (.sc (.int .i64 qI)), C.d (.sc (.int .i64 qJ)), C.d (.sc (.int .i64 qK)), C.d (.sl qL qM ET.run qN),
      C.d (.sc (.int .i64 qO)), C.d (.sc (.int .i64 qB)), C.d (.sc (.int .i64 qP)), C.d (.sl qQ qR ET.mat qC),
      C.d (.sc (.bool qS)), C.d (.sc (.int .i64 qT)), C.d (.sc (.bool qU))])), (24, some
  (Blk.box 89
    [C.d (.sc (.int .i64 v.h_24_0)), C.d (.sc (.int .i64 v.h_24_1)), C.d (.sl none false ET.step v.h_24_2), C.d (.sc (.int .i64 v.h_24_3)),
      C.d (.sc (.int .i64 v.h_24_4)), C.d (.sc (.int .i64 v.h_24_5)), C.d (.sc (.int .i64 v.h_24_6)), C.d (.sl none false ET.run v.h_24_7),
      C.d (.sc (.int .i64 v.h_24_8)), C.d (.sc (.int .i64 v.h_24_9)), C.d (.sc (.int .i64 v.h_24_10)), C.d (.sl none false ET.mat v.h_24_11),
      C.d (.sc (.bool v.h_24_12)), C.d (.sc (.int .i64 v.h_24_13)), C.d (.sc (.bool v.h_24_14))]))], 0⟩ := by kernel_rfl
theorem Ui_law15_SubAnew_9_e2 {x : V} {K : Tree} {z : Ex × St} (h : (U_law15_SubAnew_9_e2 x K).eval = some z) : x = V.v false [C.ptr 0 0] ∧ (K).eval = some z := by
  unfold U_law15_SubAnew_9_e2 at h
  split at h
  · exact ⟨rfl, h⟩
  · cases h
theorem Ui_law15_SubAnew_9_e7 {x : V} {K : Tree} {z : Ex × St} (h : (U_law15_SubAnew_9_e7 x K).eval = some z) : x = V.v false [C.ptr 24 0] ∧ (K).eval = some z := by
  unfold U_law15_SubAnew_9_e7 at h
  split at h
  · exact ⟨rfl, h⟩
  · cases h
theorem Ui_law15_SubAnew_9_e9 {x : V} {K : Int → Tree} {z : Ex × St} (h : (U_law15_SubAnew_9_e9 x K).eval = some z) : ∃ (t_9_0 : Int), x = V.v false [C.d (.sc (.int .i64 t_9_0))] ∧ (K t_9_0).eval = some z := by
  unfold U_law15_SubAnew_9_e9 at h
  split at h
  · exact ⟨_, rfl, h⟩
  · cases h
theorem Ui_law15_SubAnew_9_h0 {x : Option Blk} {K : Int → Int → (Option Bool) → Bool → (List (Ty .step)) → Int → Int → Int → Int → (Option Bool) → Bool → (List (Ty .run)) → Int → Int → Int → (Option Bool) → Bool → (List (Ty .mat)) → Bool → Int → Bool → Tree} {z : Ex × St} (h : (U_law15_SubAnew_9_h0 x K).eval = some z) : ∃ (qA : Int) (qD : Int) (qE : Option Bool) (qF : Bool) (qG : List (Ty .step)) (qH : Int) (qI : Int) (qJ : Int) (qK : Int) (qL : Option Bool) (qM : Bool) (qN : List (Ty .run)) (qO : Int) (qB : Int) (qP : Int) (qQ : Option Bool) (qR : Bool) (qC : List (Ty .mat)) (qS : Bool) (qT : Int) (qU : Bool), x = some (Blk.box 89 [C.d (.sc (.int .i64 qA)), C.d (.sc (.int .i64 qD)), C.d (.sl qE qF ET.step qG), C.d (.sc (.int .i64 qH)), C.d (.sc (.int .i64 qI)), C.d (.sc (.int .i64 qJ)), C.d (.sc (.int .i64 qK)), C.d (.sl qL qM ET.run qN), C.d (.sc (.int .i64 qO)), C.d (.sc (.int .i64 qB)), C.d (.sc (.int .i64 qP)), C.d (.sl qQ qR ET.mat qC), C.d (.sc (.bool qS)), C.d (.sc (.int .i64 qT)), C.d (.sc (.bool qU))]) ∧ (K qA qD qE qF qG qH qI qJ qK qL qM qN qO qB qP qQ qR qC qS qT qU).eval = some z := by
  unfold U_law15_SubAnew_9_h0 at h
  split at h
  · exact ⟨_, _, _, _, _, _, _, _, _, _, _, _, _, _, _, _, _, _, _, _, _, rfl, h⟩
  · cases h
theorem Ui_law15_SubAnew_9_h24 {x : Option Blk} {K : Int → Int → (List (Ty .step)) → Int → Int → Int → Int → (List (Ty .run)) → Int → Int → Int → (List (Ty .mat)) → Bool → Int → Bool → Tree} {z : Ex × St} (h : (U_law15_SubAnew_9_h24 x K).eval = some z) : ∃ (h_24_0 : Int) (h_24_1 : Int) (h_24_2 : List (Ty .step)) (h_24_3 : Int) (h_24_4 : Int) (h_24_5 : Int) (h_24_6 : Int) (h_24_7 : List (Ty .run)) (h_24_8 : Int) (h_24_9 : Int) (h_24_10 : Int) (h_24_11 : List (Ty .mat)) (h_24_12 : Bool) (h_24_13 : Int) (h_24_14 : Bool), x = some (Blk.box 89 [C.d (.sc (.int .i64 h_24_0)), C.d (.sc (.int .i64 h_24_1)), C.d (.sl none false ET.step h_24_2), C.d (.sc (.int .i64 h_24_3)), C.d (.sc (.int .i64 h_24_4)), C.d (.sc (.int .i64 h_24_5)), C.d (.sc (.int .i64 h_24_6)), C.d (.sl none false ET.run h_24_7), C.d (.sc (.int .i64 h_24_8)), C.d (.sc (.int .i64 h_24_9)), C.d (.sc (.int .i64 h_24_10)), C.d (.sl none false ET.mat h_24_11), C.d (.sc (.bool h_24_12)), C.d (.sc (.int .i64 h_24_13)), C.d (.sc (.bool h_24_14))]) ∧ (K h_24_0 h_24_1 h_24_2 h_24_3 h_24_4 h_24_5 h_24_6 h_24_7 h_24_8 h_24_9 h_24_10 h_24_11 h_24_12 h_24_13 h_24_14).eval = some z := by
  unfold U_law15_SubAnew_9_h24 at h
  split at h
  · exact ⟨_, _, _, _, _, _, _, _, _, _, _, _, _, _, _, rfl, h⟩
  · cases h
theorem lo1_law15_SubAnew_9 (e2 : V) (e7 : V) (e9 : V) (h0 : Option Blk) (h24 : Option Blk) e st2 (h : (T1_law15_SubAnew_9 e2 e7 e9 h0 h24).eval = some (e, st2)) : Circles Try.prog cx_law15_SubAnew b_law15_SubAnew_9 ⟨envOf 128 [(2, e2), (7, e7), (9, e9)], heapOf 35 [(0, h0), (24, h24)], 0⟩ e st2 := by
  unfold T1_law15_SubAnew_9 at h
  obtain ⟨rfl, h⟩ := Ui_law15_SubAnew_9_e2 h
  obtain ⟨rfl, h⟩ := Ui_law15_SubAnew_9_e7 h
  obtain ⟨t_9_0, rfl, h⟩ := Ui_law15_SubAnew_9_e9 h
  obtain ⟨qA, qD, qE, qF, qG, qH, qI, qJ, qK, qL, qM, qN, qO, qB, qP, qQ, qR, qC, qS, qT, qU, rfl, h⟩ := Ui_law15_SubAnew_9_h0 h
  obtain ⟨h_24_0, h_24_1, h_24_2, h_24_3, h_24_4, h_24_5, h_24_6, h_24_7, h_24_8, h_24_9, h_24_10, h_24_11, h_24_12, h_24_13, h_24_14, rfl, h⟩ := Ui_law15_SubAnew_9_h24 h
  have := loop_tree (mk := mk_law15_SubAnew_9 qA qD qE qF qG qH qI qJ qK qL qM qN qO qB qP qQ qR qC qS qT qU) (ci_law15_SubAnew_9 qA qD qE qF qG qH qI qJ qK qL qM qN qO qB qP qQ qR qC qS qT qU) _ _ e st2 h
  rw [mke_law15_SubAnew_9] at this
  exact this
theorem lok_law15_SubAnew_9 : LoopOk Try.prog cx_law15_SubAnew b_law15_SubAnew_9 T_law15_SubAnew_9 := by
  intro st e st2 h
  unfold T_law15_SubAnew_9 at h
  cases hk : okSt 128 35 0 [0, 24] st with
  | false => rw [hk] at h; cases h
  | true =>
    rw [hk] at h
    exact circles_keep (ks := [2, 7, 9]) hk (lo1_law15_SubAnew_9 _ _ _ _ _ e st2 h)
structure S.law15_SubAnew_T where
  x0 : Bool
  deriving Inhabited
def S.law15_SubAnew_R (a0_0 : Int) (a0_1 : Int) (a0_2 : List (Ty .step)) (a0_3 : Int) (a0_4 : Int) (a0_5 : Int) (a0_6 : Int) (a0_7 : List (Ty .run)) (a0_8 : Int) (a0_9 : Int) (a0_10 : Int) (a0_11 : List (Ty .mat)) (a0_13 : Int) (a0_14 : Bool) (a1 : Int) : DT S.law15_SubAnew_T :=
let y0 : S.sub_Go_T := S.sub_Go_o a0_0 a0_1 a0_2 a0_3 a0_4 a0_5 a0_6 a0_7 a0_8 a0_9 a0_10 a0_11 a0_13 a1
let y1 : S.law15_SubAnew_9_V := { t_9_0 := xwrap IntKind.i64 (a1 - a0_9), h_24_0 := y0.x0, h_24_1 := y0.x1, h_24_2 := y0.x2, h_24_3 := y0.x3, h_24_4 := y0.x4, h_24_5 := y0.x5, h_24_6 := y0.x6, h_24_7 := y0.x7, h_24_8 := y0.x8, h_24_9 := y0.x9, h_24_10 := y0.x10, h_24_11 := y0.x11, h_24_12 := y0.x12, h_24_13 := y0.x13, h_24_14 := y0.x14 : S.law15_SubAnew_9_V }
let y2 : S.law15_SubAnew_9_V := S.law15_SubAnew_9_v a0_0 a0_9 a0_11 y1
let y3 : Int := y2.h_24_0
let y4 : Int := y2.h_24_1
let y5 : List (Ty .step) := y2.h_24_2
let y6 : Int := y2.h_24_3
let y7 : Int := y2.h_24_4
let y8 : Int := y2.h_24_5
let y9 : Int := y2.h_24_6
let y10 : List (Ty .run) := y2.h_24_7
let y11 : Int := y2.h_24_8
let y12 : Int := y2.h_24_9
let y13 : Int := y2.h_24_10
let y14 : List (Ty .mat) := y2.h_24_11
let y15 : Bool := y2.h_24_12
let y16 : Int := y2.h_24_13
let y17 : Bool := y2.h_24_14
let y18 : S.sub_Give_T := S.sub_Give_o y3 y4 y5 y6 y7 y8 y9 y10 y11 y12 y13 y14 y15 y16 y17
let y19 : Bool := y18.x22
(.br (S.law15_awake_is)
(.br (S.law15_Few_is a0_2 a0_7 a0_11)
(.br (xnot S.law15_awake_o.x0)
(.leaf ⟨S.law15_awake_o.x0⟩)
(.br (xnot (S.law15_Few_o a0_2 a0_7 a0_11).x0)
(.leaf ⟨S.law15_awake_o.x0⟩)
(.br (S.sub_May_is a0_0 a0_1 a0_2 a0_7 a0_8 a0_9 a0_10 a0_11 a0_13 a0_14)
(.br (xnot (S.sub_May_o a0_0 a0_1 a0_2 a0_7 a0_8 a0_9 a0_10 a0_11 a0_13 a0_14).x0)
(.leaf ⟨S.law15_awake_o.x0⟩)
(.br (S.sub_Go_is a0_0 a0_1 a0_2 a0_3 a0_4 a0_5 a0_6 a0_7 a0_8 a0_9 a0_10 a0_11 a0_13 a1)
(.br (xneI y0.x15 0)
(.br (xdec (a1 < a0_9))
(.leaf ⟨true⟩)
(.leaf ⟨xdec (a1 > a0_10)⟩))
(.br (S.law15_SubAnew_9_j a0_0 a0_9 a0_11 y1 0)
(.leaf ⟨false⟩)
(.br (S.law15_SubAnew_9_j a0_0 a0_9 a0_11 y1 1)
(.br (S.sub_Give_is y3 y4 y5 y6 y7 y8 y9 y10 y11 y12 y13 y14 y15 y16 y17)
(.br (xeqI a0_13 0)
(.leaf ⟨xnot y19⟩)
(.br (y19)
(.leaf ⟨xeqI y18.x15 a0_0 && (xeqI y18.x16 0 && (xeqI y18.x17 a0_13 && (xeqI y18.x18 0 && (xeqI y18.x19 0 && (xeqI y18.x20 0 && xeqB y18.x21 false)))))⟩)
(.leaf ⟨false⟩)))
.fail)
.fail)))
.fail))
.fail)))
.fail)
.fail)
def S.law15_SubAnew (a0_0 : Int) (a0_1 : Int) (a0_2 : List (Ty .step)) (a0_3 : Int) (a0_4 : Int) (a0_5 : Int) (a0_6 : Int) (a0_7 : List (Ty .run)) (a0_8 : Int) (a0_9 : Int) (a0_10 : Int) (a0_11 : List (Ty .mat)) (a0_13 : Int) (a0_14 : Bool) (a1 : Int) : Option S.law15_SubAnew_T := (S.law15_SubAnew_R a0_0 a0_1 a0_2 a0_3 a0_4 a0_5 a0_6 a0_7 a0_8 a0_9 a0_10 a0_11 a0_13 a0_14 a1).run
def S.law15_SubAnew_is (a0_0 : Int) (a0_1 : Int) (a0_2 : List (Ty .step)) (a0_3 : Int) (a0_4 : Int) (a0_5 : Int) (a0_6 : Int) (a0_7 : List (Ty .run)) (a0_8 : Int) (a0_9 : Int) (a0_10 : Int) (a0_11 : List (Ty .mat)) (a0_13 : Int) (a0_14 : Bool) (a1 : Int) : Bool := (S.law15_SubAnew a0_0 a0_1 a0_2 a0_3 a0_4 a0_5 a0_6 a0_7 a0_8 a0_9 a0_10 a0_11 a0_13 a0_14 a1).isSome
def S.law15_SubAnew_o (a0_0 : Int) (a0_1 : Int) (a0_2 : List (Ty .step)) (a0_3 : Int) (a0_4 : Int) (a0_5 : Int) (a0_6 : Int) (a0_7 : List (Ty .run)) (a0_8 : Int) (a0_9 : Int) (a0_10 : Int) (a0_11 : List (Ty .mat)) (a0_13 : Int) (a0_14 : Bool) (a1 : Int) : S.law15_SubAnew_T := (S.law15_SubAnew a0_0 a0_1 a0_2 a0_3 a0_4 a0_5 a0_6 a0_7 a0_8 a0_9 a0_10 a0_11 a0_13 a0_14 a1).getD default
def ret_law15_SubAnew (b : Bool) (r : S.law15_SubAnew_T) : Ret := ⟨b, none, [(false, [C.d (.sc (.bool r.x0))])]⟩
def g_law15_SubAnew : Con
  | [(true, [.sc (.int .i64 a0_0), .sc (.int .i64 a0_1), .sl a0_2n a0_2f .step a0_2, .sc (.int .i64 a0_3), .sc (.int .i64 a0_4), .sc (.int .i64 a0_5), .sc (.int .i64 a0_6), .sl a0_7n a0_7f .run a0_7, .sc (.int .i64 a0_8), .sc (.int .i64 a0_9), .sc (.int .i64 a0_10), .sl a0_11n a0_11f .mat a0_11, .sc (.bool a0_12), .sc (.int .i64 a0_13), .sc (.bool a0_14)]), (false, [.sc (.int .i64 a1)])] => some (ret_law15_SubAnew (S.law15_SubAnew_is a0_0 a0_1 a0_2 a0_3 a0_4 a0_5 a0_6 a0_7 a0_8 a0_9 a0_10 a0_11 a0_13 a0_14 a1) (S.law15_SubAnew_o a0_0 a0_1 a0_2 a0_3 a0_4 a0_5 a0_6 a0_7 a0_8 a0_9 a0_10 a0_11 a0_13 a0_14 a1))
  | _ => none
theorem raw_law15_SubAnew (a0_0 : Int) (a0_1 : Int) (a0_2n : Option Bool) (a0_2f : Bool) (a0_2 : List (Ty .step)) (a0_3 : Int) (a0_4 : Int) (a0_5 : Int) (a0_6 : Int) (a0_7n : Option Bool) (a0_7f : Bool) (a0_7 : List (Ty .run)) (a0_8 : Int) (a0_9 : Int) (a0_10 : Int) (a0_11n : Option Bool) (a0_11f : Bool) (a0_11 : List (Ty .mat)) (a0_12 : Bool) (a0_13 : Int) (a0_14 : Bool) (a1 : Int) : evR2 cx_law15_SubAnew (hdI cx_law15_SubAnew (find [(9, T_law15_SubAnew_9)]) [] none 0) none Try.f22 22 none [(true, [.sc (.int .i64 a0_0), .sc (.int .i64 a0_1), .sl a0_2n a0_2f .step a0_2, .sc (.int .i64 a0_3), .sc (.int .i64 a0_4), .sc (.int .i64 a0_5), .sc (.int .i64 a0_6), .sl a0_7n a0_7f .run a0_7, .sc (.int .i64 a0_8), .sc (.int .i64 a0_9), .sc (.int .i64 a0_10), .sl a0_11n a0_11f .mat a0_11, .sc (.bool a0_12), .sc (.int .i64 a0_13), .sc (.bool a0_14)]), (false, [.sc (.int .i64 a1)])] some = (S.law15_SubAnew_R a0_0 a0_1 a0_2 a0_3 a0_4 a0_5 a0_6 a0_7 a0_8 a0_9 a0_10 a0_11 a0_13 a0_14 a1).go (ret_law15_SubAnew true) := by kernel_rfl
theorem bs_law15_SubAnew : loopsIn Try.f22 [] = [b_law15_SubAnew_9] := by kernel_rfl
theorem law15_SubAnew_ok : Stands Try.prog tyTab 22 g_law15_SubAnew := by
  refine stands3 (L := find [(9, T_law15_SubAnew_9)]) (n := 0) (hints := [(22, 9, { keep := [2, 7, 9], acc := [] })]) (cx_ok rfl) rdy_law15_SubAnew ⟨by kernel_rfl, by kernel_rfl, by kernel_rfl⟩ bs_law15_SubAnew (consB (fun T h => by have e : T_law15_SubAnew_9 = T := Option.some.inj (show some T_law15_SubAnew_9 = some T from h); exact e ▸ lok_law15_SubAnew_9) nilB) (fun das r hG hr => ?_)
  unfold g_law15_SubAnew at hG
  split at hG
  · rename_i a0_0 a0_1 a0_2n a0_2f a0_2 a0_3 a0_4 a0_5 a0_6 a0_7n a0_7f a0_7 a0_8 a0_9 a0_10 a0_11n a0_11f a0_11 a0_12 a0_13 a0_14 a1
    injection hG with hG; subst hG
    exact ⟨none, true, win default ((raw_law15_SubAnew a0_0 a0_1 a0_2n a0_2f a0_2 a0_3 a0_4 a0_5 a0_6 a0_7n a0_7f a0_7 a0_8 a0_9 a0_10 a0_11n a0_11f a0_11 a0_12 a0_13 a0_14 a1).trans (DT.go_run _ _)) hr⟩
  · cases hG
end
end Go.Eng
