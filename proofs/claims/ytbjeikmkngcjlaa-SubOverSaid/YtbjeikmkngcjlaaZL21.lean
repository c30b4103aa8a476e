/- Contracts, laid by program. -/
import Derived.Test.YtbjeikmkngcjlaaZG9
set_option maxHeartbeats 2000000
set_option maxRecDepth 10000
set_option linter.unusedVariables false
set_option linter.unusedSimpArgs false
namespace Go.Eng
noncomputable section
open Go Go.Eng Go.Proofs Go.Eng.Tab
abbrev cx_law15_SubOver : Cx := mkCx2 tyTab [(36, g_law06_Few), (63, g_law15_awake), (64, g_law15_Few), (65, g_sub_May), (66, g_sub_Feed), (68, g_sub_Give)] [] [(21, 9, { keep := [2, 3, 4, 10, 11, 12], acc := [] })] []
theorem rdy_law15_SubOver : Ready Try.prog tyTab [(36, g_law06_Few), (63, g_law15_awake), (64, g_law15_Few), (65, g_sub_May), (66, g_sub_Feed), (68, g_sub_Give)] [] [] := ⟨consG2 law06_Few_ok (consG2 law15_awake_ok (consG2 law15_Few_ok (consG2 sub_May_ok (consG2 sub_Feed_ok (consG2 sub_Give_ok (noneG2)))))), noneI2, noneF2⟩
structure S.law15_SubOver_9_V where
  t_11_0 : Int
  t_12_0 : Int
  h_36_0 : Int
  h_36_1 : Int
  h_36_2n : Option Bool
  h_36_2f : Bool
  h_36_2 : List (Ty .step)
  h_36_3 : Int
  h_36_4 : Int
  h_36_5 : Int
  h_36_6 : Int
  h_36_7n : Option Bool
  h_36_7f : Bool
  h_36_7 : List (Ty .run)
  h_36_8 : Int
  h_36_9 : Int
  h_36_10 : Int
  h_36_11n : Option Bool
  h_36_11f : Bool
  h_36_11 : List (Ty .mat)
  h_36_12 : Bool
  h_36_13 : Int
  h_36_14 : Bool
def S.law15_SubOver_9_R  (v : S.law15_SubOver_9_V) : DT (Option Nat × S.law15_SubOver_9_V) :=
let y0 : S.sub_Give_T := S.sub_Give_o v.h_36_0 v.h_36_1 v.h_36_2 v.h_36_3 v.h_36_4 v.h_36_5 v.h_36_6 v.h_36_7 v.h_36_8 v.h_36_9 v.h_36_10 v.h_36_11 v.h_36_12 v.h_36_13 v.h_36_14
let y1 : Int := xwrap IntKind.i64 (v.t_12_0 + 1)
let y2 : Int := y0.x0
let y3 : Int := y0.x1
let y4 : List (Ty .step) := y0.x2
let y5 : Int := y0.x3
let y6 : Int := y0.x4
let y7 : Int := y0.x5
let y8 : Int := y0.x6
let y9 : List (Ty .run) := y0.x7
let y10 : Int := y0.x8
let y11 : Int := y0.x9
let y12 : Int := y0.x10
let y13 : List (Ty .mat) := y0.x11
let y14 : Bool := y0.x12
let y15 : Int := y0.x13
let y16 : Bool := y0.x14
(.br (xdec (v.t_12_0 < 10))
(.br (S.sub_Give_is v.h_36_0 v.h_36_1 v.h_36_2 v.h_36_3 v.h_36_4 v.h_36_5 v.h_36_6 v.h_36_7 v.h_36_8 v.h_36_9 v.h_36_10 v.h_36_11 v.h_36_12 v.h_36_13 v.h_36_14)
(.br (xnot y0.x22)
(.leaf (some 0, v))
(.br (xneI y0.x17 0)
(.leaf (none, ⟨xwrap IntKind.i64 (v.t_11_0 + 1), y1, y2, y3, none, false, y4, y5, y6, y7, y8, none, false, y9, y10, y11, y12, none, false, y13, y14, y15, y16⟩))
(.leaf (none, ⟨v.t_11_0, y1, y2, y3, none, false, y4, y5, y6, y7, y8, none, false, y9, y10, y11, y12, none, false, y13, y14, y15, y16⟩))))
.fail)
(.leaf (some 1, v)))
def S.law15_SubOver_9_r  (v : S.law15_SubOver_9_V) : Option (Option Nat × S.law15_SubOver_9_V) := (S.law15_SubOver_9_R  v).run
def S.law15_SubOver_9_j  (v : S.law15_SubOver_9_V) (j : Nat) : Bool := Lp_j (S.law15_SubOver_9_r ) v j
def S.law15_SubOver_9_v  (v : S.law15_SubOver_9_V) : S.law15_SubOver_9_V := Lp_v (S.law15_SubOver_9_r ) v
def mk_law15_SubOver_9 (qA : Int) (qB : Int) (qC : Int) (qD : Option Bool) (qE : Bool) (qF : List (Ty .step)) (qG : Int) (qH : Int) (qI : Int) (qJ : Int) (qK : Option Bool) (qL : Bool) (qM : List (Ty .run)) (qN : Int) (qO : Int) (qP : Int) (qQ : Option Bool) (qR : Bool) (qS : List (Ty .mat)) (qT : Bool) (qU : Int) (qV : Bool) (qW : ByteArray) (qX : Int) (qY : Option Bool) (qZ : Bool) (rA : List (Ty .val)) (v : S.law15_SubOver_9_V) : St := ⟨[V.any, V.any, V.v false [C.d (.sc (.int .i64 qA))], V.v false [C.ptr 0 0], V.v false [C.ptr 1 0], V.any, V.any, V.any, V.any, V.any, V.v false [C.ptr 36 0],
  V.v false [C.d (.sc (.int .i64 v.t_11_0))], V.v false [C.d (.sc (.int .i64 v.t_12_0))], V.any, V.any, V.any, V.any, V.any, V.any, V.any, V.any, V.any, V.any,
  V.any, V.any, V.any, V.any, V.any, V.any, V.any, V.any, V.any, V.any, V.any, V.any, V.any, V.any, V.any, V.any, V.any, V.any, V.any, V.any, V.any, V.any, V.any, V.any, V.any,
  V.any, V.any, V.any, V.any, V.any, V.any, V.any, V.any, V.any, V.any, V.any, V.any, V.any, V.any, V.any, V.any, V.any, V.any, V.any, V.any, V.any, V.any, V.any, V.any, V.any,
  V.any, V.any, V.any, V.any, V.any, V.any, V.any, V.any, V.any, V.any, V.any, V.any, V.any, V.any, V.any, V.any, V.any, V.any, V.any, V.any, V.any, V.any], [some
    (Blk.box 89
      [C.d (.sc (.int .i64 qB)), C.d (.sc (.int .i64 qC)), C.d (.sl qD qE ET.step qF), C.d (.sc (.int .i64 qG)),
        C.d (.sc (.int .i64 qH)), C.d (.sc (.int .i64 qI)), C.d (.sc (.int .i64 qJ)), C.d (.sl qK qL ET.run qM),
        C.d (.sc (.int .i64 qN)), C.d (.sc (.int .i64 qO)), C.d (.sc (.int .i64 qP)), C.d (.sl qQ qR ET.mat qS),
        C.d (.sc (.bool qT)), C.d (.sc (.int .i64 qU)), C.d (.sc (.bool qV))]),
  some (Blk.box 29 [C.d (.sc (.str qW)), C.d (.sc (.int .i64 qX)), C.d (.sl qY qZ ET.val rA)]), none, none, none, none, none, none, none, none, none,
  none, none, none, none, none, none, none, none, none, none, none, none, none, none, none, none, none, none, none, none, none, none, none, none, none,
  some
    (Blk.box 89
      [C.d (.sc (.int .i64 v.h_36_0)), C.d (.sc (.int .i64 v.h_36_1)), C.d (.sl v.h_36_2n v.h_36_2f ET.step v.h_36_2),
        C.d (.sc (.int .i64 v.h_36_3)), C.d (.sc (.int .i64 v.h_36_4)), C.d (.sc (.int .i64 v.h_36_5)), C.d (.sc (.int .i64 v.h_36_6)),
        C.d (.sl v.h_36_7n v.h_36_7f ET.run v.h_36_7), C.d (.sc (.int .i64 v.h_36_8)), C.d (.sc (.int .i64 v.h_36_9)),
        C.d (.sc (.int .i64 v.h_36_10)), C.d (.sl v.h_36_11n v.h_36_11f ET.mat v.h_36_11), C.d (.sc (.bool v.h_36_12)), C.d (.sc (.int .i64 v.h_36_13)),
        C.d (.sc (.bool v.h_36_14))]),
  none, none, none], 0⟩
def ex_law15_SubOver_9 (qA : Int) (qB : Int) (qC : Int) (qD : Option Bool) (qE : Bool) (qF : List (Ty .step)) (qG : Int) (qH : Int) (qI : Int) (qJ : Int) (qK : Option Bool) (qL : Bool) (qM : List (Ty .run)) (qN : Int) (qO : Int) (qP : Int) (qQ : Option Bool) (qR : Bool) (qS : List (Ty .mat)) (qT : Bool) (qU : Int) (qV : Bool) (qW : ByteArray) (qX : Int) (qY : Option Bool) (qZ : Bool) (rA : List (Ty .val)) (j : Nat) (v : S.law15_SubOver_9_V) : Ex × St := match j with
  | 0 => (Ex.exit 0, ⟨[V.any, V.any, V.v false [C.d (.sc (.int .i64 qA))], V.v false [C.ptr 0 0], V.v false [C.ptr 1 0], V.any, V.any, V.any, V.any, V.any, V.v false [C.ptr 36 0],
  V.v false [C.d (.sc (.int .i64 v.t_11_0))], V.any, V.any, V.any, V.any, V.any, V.any, V.any, V.any, V.any, V.any, V.any, V.any, V.any, V.any, V.any, V.any, V.any,
  V.any, V.any, V.any, V.any, V.any, V.any, V.any, V.any, V.any, V.any, V.any, V.any, V.any, V.any, V.any, V.any, V.any, V.any, V.any, V.any, V.any, V.any, V.any, V.any, V.any,
  V.any, V.any, V.any, V.any, V.any, V.any, V.any, V.any, V.any, V.any, V.any, V.any, V.any, V.any, V.any, V.any, V.any, V.any, V.any, V.any, V.any, V.any, V.any, V.any, V.any,
  V.any, V.any, V.any, V.any, V.any, V.any, V.any, V.any, V.any, V.any, V.any, V.any, V.any, V.any, V.any, V.any], [some
    (Blk.box 89
      [C.d (.sc (.int .i64 qB)), C.d (.sc (.int .i64 qC)), C.d (.sl qD qE ET.step qF), C.d (.sc (.int .i64 qG)),
        C.d (.sc (.int .i64 qH)), C.d (.sc (.int .i64 qI)), C.d (.sc (.int .i64 qJ)), C.d (.sl qK qL ET.run qM),
        C.d (.sc (.int .i64 qN)), C.d (.sc (.int .i64 qO)), C.d (.sc (.int .i64 qP)), C.d (.sl qQ qR ET.mat qS),
        C.d (.sc (.bool qT)), C.d (.sc (.int .i64 qU)), C.d (.sc (.bool qV))]),
  some (Blk.box 29 [C.d (.sc (.str qW)), C.d (.sc (.int .i64 qX)), C.d (.sl qY qZ ET.val rA)]), none, none, none, none, none, none, none, none, none,
  none, none, none, none, none, none, none, none, none, none, none, none, none, none, none, none, none, none, none, none, none, none, none, none, none,
  some
    (Blk.box 89
      [C.d (.sc (.int .i64 v.h_36_0)), C.d (.sc (.int .i64 v.h_36_1)), C.d (.sl v.h_36_2n v.h_36_2f ET.step v.h_36_2),
        C.d (.sc (.int .i64 v.h_36_3)), C.d (.sc (.int .i64 v.h_36_4)), C.d (.sc (.int .i64 v.h_36_5)), C.d (.sc (.int .i64 v.h_36_6)),
        C.d (.sl v.h_36_7n v.h_36_7f ET.run v.h_36_7), C.d (.sc (.int .i64 v.h_36_8)), C.d (.sc (.int .i64 v.h_36_9)),
        C.d (.sc (.int .i64 v.h_36_10)), C.d (.sl v.h_36_11n v.h_36_11f ET.mat v.h_36_11), C.d (.sc (.bool v.h_36_12)), C.d (.sc (.int .i64 v.h_36_13)),
        C.d (.sc (.bool v.h_36_14))]),
  none, none, none, none, none, none, none, none, none, none, none,
  some
    (Blk.box 89
      [C.d
          (D.sc
            (Sc.int IntKind.i64
              (S.sub_Give_o v.h_36_0 v.h_36_1 v.h_36_2 v.h_36_3 v.h_36_4 v.h_36_5 v.h_36_6 v.h_36_7 v.h_36_8 v.h_36_9 v.h_36_10 v.h_36_11 v.h_36_12 v.h_36_13 v.h_36_14).x0)),
        C.d
          (D.sc
            (Sc.int IntKind.i64
              (S.sub_Give_o v.h_36_0 v.h_36_1 v.h_36_2 v.h_36_3 v.h_36_4 v.h_36_5 v.h_36_6 v.h_36_7 v.h_36_8 v.h_36_9 v.h_36_10 v.h_36_11 v.h_36_12 v.h_36_13 v.h_36_14).x1)),
        C.d
          (D.sl none false ET.step
            (S.sub_Give_o v.h_36_0 v.h_36_1 v.h_36_2 v.h_36_3 v.h_36_4 v.h_36_5 v.h_36_6 v.h_36_7 v.h_36_8 v.h_36_9 v.h_36_10 v.h_36_11 v.h_36_12 v.h_36_13 v.h_36_14).x2),
        C.d
          (D.sc
            (Sc.int IntKind.i64
              (S.sub_Give_o v.h_36_0 v.h_36_1 v.h_36_2 v.h_36_3 v.h_36_4 v.h_36_5 v.h_36_6 v.h_36_7 v.h_36_8 v.h_36_9 v.h_36_10 v.h_36_11 v.h_36_12 v.h_36_13 v.h_36_14).x3)),
        C.d
          (D.sc
            (Sc.int IntKind.i64
              (S.sub_Give_o v.h_36_0 v.h_36_1 v.h_36_2 v.h_36_3 v.h_36_4 v.h_36_5 v.h_36_6 v.h_36_7 v.h_36_8 v.h_36_9 v.h_36_10 v.h_36_11 v.h_36_12 v.h_36_13 v.h_36_14).x4)),
        C.d
          (D.sc
            (Sc.int IntKind.i64
              (S.sub_Give_o v.h_36_0 v.h_36_1 v.h_36_2 v.h_36_3 v.h_36_4 v.h_36_5 v.h_36_6 v.h_36_7 v.h_36_8 v.h_36_9 v.h_36_10 v.h_36_11 v.h_36_12 v.h_36_13 v.h_36_14).x5)),
        C.d
          (D.sc
            (Sc.int IntKind.i64
              (S.sub_Give_o v.h_36_0 v.h_36_1 v.h_36_2 v.h_36_3 v.h_36_4 v.h_36_5 v.h_36_6 v.h_36_7 v.h_36_8 v.h_36_9 v.h_36_10 v.h_36_11 v.h_36_12 v.h_36_13 v.h_36_14).x6)),
        C.d
          (D.sl none false ET.run
            (S.sub_Give_o v.h_36_0 v.h_36_1 v.h_36_2 v.h_36_3 v.h_36_4 v.h_36_5 v.h_36_6 v.h_36_7 v.h_36_8 v.h_36_9 v.h_36_10 v.h_36_11 v.h_36_12 v.h_36_13 v.h_36_14).x7),
        C.d
          (D.sc
            (Sc.int IntKind.i64
              (S.sub_Give_o v.h_36_0 v.h_36_1 v.h_36_2 v.h_36_3 v.h_36_4 v.h_36_5 v.h_36_6 v.h_36_7 v.h_36_8 v.h_36_9 v.h_36_10 v.h_36_11 v.h_36_12 v.h_36_13 v.h_36_14).x8)),
        C.d
          (D.sc
            (Sc.int IntKind.i64
              (S.sub_Give_o v.h_36_0 v.h_36_1 v.h_36_2 v.h_36_3 v.h_36_4 v.h_36_5 v.h_36_6 v.h_36_7 v.h_36_8 v.h_36_9 v.h_36_10 v.h_36_11 v.h_36_12 v.h_36_13 v.h_36_14).x9)),
        C.d
          (D.sc
            (Sc.int IntKind.i64
              (S.sub_Give_o v.h_36_0 v.h_36_1 v.h_36_2 v.h_36_3 v.h_36_4 v.h_36_5 v.h_36_6 v.h_36_7 v.h_36_8 v.h_36_9 v.h_36_10 v.h_36_11 v.h_36_12 v.h_36_13 v.h_36_14).x10)),
        C.d
          (D.sl none false ET.mat
            (S.sub_Give_o v.h_36_0 v.h_36_1 v.h_36_2 v.h_36_3 v.h_36_4 v.h_36_5 v.h_36_6 v.h_36_7 v.h_36_8 v.h_36_9 v.h_36_10 v.h_36_11 v.h_36_12 v.h_36_13 v.h_36_14).x11),
        C.d
          (D.sc
            (Sc.bool
              (S.sub_Give_o v.h_36_0 v.h_36_1 v.h_36_2 v.h_36_3 v.h_36_4 v.h_36_5 v.h_36_6 v.h_36_7 v.h_36_8 v.h_36_9 v.h_36_10 v.h_36_11 v.h_36_12 v.h_36_13 v.h_36_14).x12)),
        C.d
          (D.sc
            (Sc.int IntKind.i64
              (S.sub_Give_o v.h_36_0 v.h_36_1 v.h_36_2 v.h_36_3 v.h_36_4 v.h_36_5 v.h_36_6 v.h_36_7 v.h_36_8 v.h_36_9 v.h_36_10 v.h_36_11 v.h_36_12 v.h_36_13 v.h_36_14).x13)),
        C.d
          (D.sc
            (Sc.bool
              (S.sub_Give_o v.h_36_0 v.h_36_1 v.h_36_2 v.h_36_3 v.h_36_4 v.h_36_5 v.h_36_6 v.h_36_7 v.h_36_8 v.h_36_9 v.h_36_10 v.h_36_11 v.h_36_12 v.h_36_13 v.h_36_14).x14))]),
  some
    (Blk.box 95
      [C.d
          (D.sc
            (Sc.int IntKind.i64
              (S.sub_Give_o v.h_36_0 v.h_36_1 v.h_36_2 v.h_36_3 v.h_36_4 v.h_36_5 v.h_36_6 v.h_36_7 v.h_36_8 v.h_36_9 v.h_36_10 v.h_36_11 v.h_36_12 v.h_36_13 v.h_36_14).x15)),
        C.d
          (D.sc
            (Sc.int IntKind.i64
              (S.sub_Give_o v.h_36_0 v.h_36_1 v.h_36_2 v.h_36_3 v.h_36_4 v.h_36_5 v.h_36_6 v.h_36_7 v.h_36_8 v.h_36_9 v.h_36_10 v.h_36_11 v.h_36_12 v.h_36_13 v.h_36_14).x16)),
        C.d
          (D.sc
            (Sc.int IntKind.i64
              (S.sub_Give_o v.h_36_0 v.h_36_1 v.h_36_2 v.h_36_3 v.h_36_4 v.h_36_5 v.h_36_6 v.h_36_7 v.h_36_8 v.h_36_9 v.h_36_10 v.h_36_11 v.h_36_12 v.h_36_13 v.h_36_14).x17)),
        C.d
          (D.sc
            (Sc.int IntKind.i64
              (S.sub_Give_o v.h_36_0 v.h_36_1 v.h_36_2 v.h_36_3 v.h_36_4 v.h_36_5 v.h_36_6 v.h_36_7 v.h_36_8 v.h_36_9 v.h_36_10 v.h_36_11 v.h_36_12 v.h_36_13 v.h_36_14).x18)),
        C.d
          (D.sc
            (Sc.int IntKind.i64
              (S.sub_Give_o v.h_36_0 v.h_36_1 v.h_36_2 v.h_36_3 v.h_36_4 v.h_36_5 v.h_36_6 v.h_36_7 v.h_36_8 v.h_36_9 v.h_36_10 v.h_36_11 v.h_36_12 v.h_36_13 v.h_36_14).x19)),
        C.d
          (D.sc
            (Sc.int IntKind.i64
              (S.sub_Give_o v.h_36_0 v.h_36_1 v.h_36_2 v.h_36_3 v.h_36_4 v.h_36_5 v.h_36_6 v.h_36_7 v.h_36_8 v.h_36_9 v.h_36_10 v.h_36_11 v.h_36_12 v.h_36_13 v.h_36_14).x20)),
        C.d
          (D.sc
            (Sc.bool
              (S.sub_Give_o v.h_36_0 v.h_36_1 v.h_36_2 v.h_36_3 v.h_36_4 v.h_36_5 v.h_36_6 v.h_36_7 v.h_36_8 v.h_36_9 v.h_36_10 v.h_36_11 v.h_36_12 v.h_36_13 v.h_36_14).x21))]),
  none, none, none, none, none], 0⟩)
  | 1 => (Ex.exit 0, ⟨[V.any, V.any, V.v false [C.d (.sc (.int .i64 qA))], V.v false [C.ptr 0 0], V.v false [C.ptr 1 0], V.any, V.any, V.any, V.any, V.any, V.v false [C.ptr 36 0],
  V.v false [C.d (.sc (.int .i64 v.t_11_0))], V.any, V.any, V.any, V.any, V.any, V.any, V.any, V.any, V.any, V.any, V.any, V.any, V.any, V.any, V.any, V.any, V.any,
  V.any, V.any, V.any, V.any, V.any, V.any, V.any, V.any, V.any, V.any, V.any, V.any, V.any, V.any, V.any, V.any, V.any, V.any, V.any, V.any, V.any, V.any, V.any, V.any, V.any,
  V.any, V.any, V.any, V.any, V.any, V.any, V.any, V.any, V.any, V.any, V.any, V.any, V.any, V.any, V.any, V.any, V.any, V.any, V.any, V.any, V.any, V.any, V.any, V.any, V.any,
  V.any, V.any, V.any, V.any, V.any, V.any, V.any, V.any, V.any, V.any, V.any, V.any, V.any, V.any, V.any, V.any], [some
    (Blk.box 89
      [C.d (.sc (.int .i64 qB)), C.d (.sc (.int .i64 qC)), C.d (.sl qD qE ET.step qF), C.d (.sc (.int .i64 qG)),
        C.d (.sc (.int .i64 qH)), C.d (.sc (.int .i64 qI)), C.d (.sc (.int .i64 qJ)), C.d (.sl qK qL ET.run qM),
        C.d (.sc (.int .i64 qN)), C.d (.sc (.int .i64 qO)), C.d (.sc (.int .i64 qP)), C.d (.sl qQ qR ET.mat qS),
        C.d (.sc (.bool qT)), C.d (.sc (.int .i64 qU)), C.d (.sc (.bool qV))]),
  some (Blk.box 29 [C.d (.sc (.str qW)), C.d (.sc (.int .i64 qX)), C.d (.sl qY qZ ET.val rA)]), none, none, none, none, none, none, none, none, none,
  none, none, none, none, none, none, none, none, none, none, none, none, none, none, none, none, none, none, none, none, none, none, none, none, none,
  some
    (Blk.box 89
      [C.d (.sc (.int .i64 v.h_36_0)), C.d (.sc (.int .i64 v.h_36_1)), C.d (.sl v.h_36_2n v.h_36_2f ET.step v.h_36_2),
        C.d (.sc (.int .i64 v.h_36_3)), C.d (.sc (.int .i64 v.h_36_4)), C.d (.sc (.int .i64 v.h_36_5)), C.d (.sc (.int .i64 v.h_36_6)),
        C.d (.sl v.h_36_7n v.h_36_7f ET.run v.h_36_7), C.d (.sc (.int .i64 v.h_36_8)), C.d (.sc (.int .i64 v.h_36_9)),
        C.d (.sc (.int .i64 v.h_36_10)), C.d (.sl v.h_36_11n v.h_36_11f ET.mat v.h_36_11), C.d (.sc (.bool v.h_36_12)), C.d (.sc (.int .i64 v.h_36_13)),
        C.d (.sc (.bool v.h_36_14))]),
  none, none, none, none, none], 0⟩)
  | _ => (.ret, ⟨[], [], 0⟩)
def U_law15_SubOver_9_e2 (x : V) (K : Int → Tree) : Tree := match x with
  | V.v false [C.d (.sc (.int .i64 qA))] => K qA
  | _ => .bad
def U_law15_SubOver_9_e3 (x : V) (K : Tree) : Tree := match x with
  | V.v false [C.ptr 0 0] => K
  | _ => .bad
def U_law15_SubOver_9_e4 (x : V) (K : Tree) : Tree := match x with
  | V.v false [C.ptr 1 0] => K
  | _ => .bad
def U_law15_SubOver_9_e10 (x : V) (K : Tree) : Tree := match x with
  | V.v false [C.ptr 36 0] => K
  | _ => .bad
def U_law15_SubOver_9_e11 (x : V) (K : Int → Tree) : Tree := match x with
  | V.v false [C.d (.sc (.int .i64 t_11_0))] => K t_11_0
  | _ => .bad
def U_law15_SubOver_9_e12 (x : V) (K : Int → Tree) : Tree := match x with
  | V.v false [C.d (.sc (.int .i64 t_12_0))] => K t_12_0
  | _ => .bad
def U_law15_SubOver_9_h0 (x : Option Blk) (K : Int → Int → (Option Bool) → Bool → (List (Ty .step)) → Int → Int → Int → Int → (Option Bool) → Bool → (List (Ty .run)) → Int → Int → Int → (Option Bool) → Bool → (List (Ty .mat)) → Bool → Int → Bool → Tree) : Tree := match x with
  | some (Blk.box 89 [C.d (.sc (.int .i64 qB)), C.d (.sc (.int .i64 qC)), C.d (.sl qD qE ET.step qF), C.d (.sc (.int .i64 qG)), C.d (.sc (.int .i64 qH)), C.d (.sc (.int .i64 qI)), C.d (.sc (.int .i64 qJ)), C.d (.sl qK qL ET.run qM), C.d (.sc (.int .i64 qN)), C.d (.sc (.int .i64 qO)), C.d (.sc (.int .i64 qP)), C.d (.sl qQ qR ET.mat qS), C.d (.sc (.bool qT)), C.d (.sc (.int .i64 qU)), C.d (.sc (.bool qV))]) => K qB qC qD qE qF qG qH qI qJ qK qL qM qN qO qP qQ qR qS qT qU qV
  | _ => .bad
def U_law15_SubOver_9_h1 (x : Option Blk) (K : ByteArray → Int → (Option Bool) → Bool → (List (Ty .val)) → Tree) : Tree := match x with
  | some (Blk.box 29 [C.d (.sc (.str qW)), C.d (.sc (.int .i64 qX)), C.d (.sl qY qZ ET.val rA)]) => K qW qX qY qZ rA
  | _ => .bad
def U_law15_SubOver_9_h36 (x : Option Blk) (K : Int → Int → (Option Bool) → Bool → (List (Ty .step)) → Int → Int → Int → Int → (Option Bool) → Bool → (List (Ty .run)) → Int → Int → Int → (Option Bool) → Bool → (List (Ty .mat)) → Bool → Int → Bool → Tree) : Tree := match x with
  | some (Blk.box 89 [C.d (.sc (.int .i64 h_36_0)), C.d (.sc (.int .i64 h_36_1)), C.d (.sl h_36_2n h_36_2f ET.step h_36_2), C.d (.sc (.int .i64 h_36_3)), C.d (.sc (.int .i64 h_36_4)), C.d (.sc (.int .i64 h_36_5)), C.d (.sc (.int .i64 h_36_6)), C.d (.sl h_36_7n h_36_7f ET.run h_36_7), C.d (.sc (.int .i64 h_36_8)), C.d (.sc (.int .i64 h_36_9)), C.d (.sc (.int .i64 h_36_10)), C.d (.sl h_36_11n h_36_11f ET.mat h_36_11), C.d (.sc (.bool h_36_12)), C.d (.sc (.int .i64 h_36_13)), C.d (.sc (.bool h_36_14))]) => K h_36_0 h_36_1 h_36_2n h_36_2f h_36_2 h_36_3 h_36_4 h_36_5 h_36_6 h_36_7n h_36_7f h_36_7 h_36_8 h_36_9 h_36_10 h_36_11n h_36_11f h_36_11 h_36_12 h_36_13 h_36_14
  | _ => .bad
def T1_law15_SubOver_9 (e2 : V) (e3 : V) (e4 : V) (e10 : V) (e11 : V) (e12 : V) (h0 : Option Blk) (h1 : Option Blk) (h36 : Option Blk) : Tree := U_law15_SubOver_9_e2 e2 (fun qA => U_law15_SubOver_9_e3 e3 (U_law15_SubOver_9_e4 e4 (U_law15_SubOver_9_e10 e10 (U_law15_SubOver_9_e11 e11 (fun t_11_0 => U_law15_SubOver_9_e12 e12 (fun t_12_0 => U_law15_SubOver_9_h0 h0 (fun qB qC qD qE qF qG qH qI qJ qK qL qM qN qO qP qQ qR qS qT qU qV => U_law15_SubOver_9_h1 h1 (fun qW qX qY qZ rA => U_law15_SubOver_9_h36 h36 (fun h_36_0 h_36_1 h_36_2n h_36_2f h_36_2 h_36_3 h_36_4 h_36_5 h_36_6 h_36_7n h_36_7f h_36_7 h_36_8 h_36_9 h_36_10 h_36_11n h_36_11f h_36_11 h_36_12 h_36_13 h_36_14 => exT (fun j => ex_law15_SubOver_9 qA qB qC qD qE qF qG qH qI qJ qK qL qM qN qO qP qQ qR qS qT qU qV qW qX qY qZ rA j (S.law15_SubOver_9_v  ⟨t_11_0, t_12_0, h_36_0, h_36_1, h_36_2n, h_36_2f, h_36_2, h_36_3, h_36_4, h_36_5, h_36_6, h_36_7n, h_36_7f, h_36_7, h_36_8, h_36_9, h_36_10, h_36_11n, h_36_11f, h_36_11, h_36_12, h_36_13, h_36_14⟩)) (S.law15_SubOver_9_j  ⟨t_11_0, t_12_0, h_36_0, h_36_1, h_36_2n, h_36_2f, h_36_2, h_36_3, h_36_4, h_36_5, h_36_6, h_36_7n, h_36_7f, h_36_7, h_36_8, h_36_9, h_36_10, h_36_11n, h_36_11f, h_36_11, h_36_12, h_36_13, h_36_14⟩) [0, 1])))))))))
def T_law15_SubOver_9 (st : St) : Tree := bif okSt 95 40 0 [0, 1, 36] st then T1_law15_SubOver_9 (st.env.getD 2 .any) (st.env.getD 3 .any) (st.env.getD 4 .any) (st.env.getD 10 .any) (st.env.getD 11 .any) (st.env.getD 12 .any) (lk st.heap 0) (lk st.heap 1) (lk st.heap 36) else .bad
def b_law15_SubOver_9 : Code := loopBy Try.f21 9
theorem rnd_law15_SubOver_9 (qA : Int) (qB : Int) (qC : Int) (qD : Option Bool) (qE : Bool) (qF : List (Ty .step)) (qG : Int) (qH : Int) (qI : Int) (qJ : Int) (qK : Option Bool) (qL : Bool) (qM : List (Ty .run)) (qN : Int) (qO : Int) (qP : Int) (qQ : Option Bool) (qR : Bool) (qS : List (Ty .mat)) (qT : Bool) (qU : Int) (qV : Bool) (qW : ByteArray) (qX : Int) (qY : Option Bool) (qZ : Bool) (rA : List (Ty .val)) (v : S.law15_SubOver_9_V) : round2 cx_law15_SubOver (hdI cx_law15_SubOver (find []) [] none 0) 21 b_law15_SubOver_9 [] 40 [2, 3, 4, 10, 11] (mk_law15_SubOver_9 qA qB qC qD qE qF qG qH qI qJ qK qL qM qN qO qP qQ qR qS qT qU qV qW qX qY qZ rA v) = (S.law15_SubOver_9_R  v).go (roundOut (mk_law15_SubOver_9 qA qB qC qD qE qF qG qH qI qJ qK qL qM qN qO qP qQ qR qS qT qU qV qW qX qY qZ rA) (ex_law15_SubOver_9 qA qB qC qD qE qF qG qH qI qJ qK qL qM qN qO qP qQ qR qS qT qU qV qW qX qY qZ rA)) := by kernel_rfl
theorem bs_law15_SubOver_9 : loopsOf b_law15_SubOver_9 ++ loopsInl [] = [] := by kernel_rfl
theorem ci_law15_SubOver_9 (qA : Int) (qB : Int) (qC : Int) (qD : Option Bool) (qE : Bool) (qF : List (Ty .step)) (qG : Int) (qH : Int) (qI : Int) (qJ : Int) (qK : Option Bool) (qL : Bool) (qM : List (Ty .run)) (qN : Int) (qO : Int) (qP : Int) (qQ : Option Bool) (qR : Bool) (qS : List (Ty .mat)) (qT : Bool) (qU : Int) (qV : Bool) (qW : ByteArray) (qX : Int) (qY : Option Bool) (qZ : Bool) (rA : List (Ty .val)) : ∀ v j v2, Lp (S.law15_SubOver_9_r ) v = some (j, v2) → Circles Try.prog cx_law15_SubOver b_law15_SubOver_9 (mk_law15_SubOver_9 qA qB qC qD qE qF qG qH qI qJ qK qL qM qN qO qP qQ qR qS qT qU qV qW qX qY qZ rA v) (ex_law15_SubOver_9 qA qB qC qD qE qF qG qH qI qJ qK qL qM qN qO qP qQ qR qS qT qU qV qW qX qY qZ rA j v2).1 (ex_law15_SubOver_9 qA qB qC qD qE qF qG qH qI qJ qK qL qM qN qO qP qQ qR qS qT qU qV qW qX qY qZ rA j v2).2 :=
  loop_ok2 (L := find []) (n := 0) (hints := [(21, 9, { keep := [2, 3, 4, 10, 11, 12], acc := [] })]) (cx_ok rfl) rdy_law15_SubOver bs_law15_SubOver_9 nilB (fun v => (rnd_law15_SubOver_9 qA qB qC qD qE qF qG qH qI qJ qK qL qM qN qO qP qQ qR qS qT qU qV qW qX qY qZ rA v).trans (DT.go_run _ _)) (by intro j v; unfold ex_law15_SubOver_9; split <;> rfl)
theorem mke_law15_SubOver_9 (qA : Int) (qB : Int) (qC : Int) (qD : Option Bool) (qE : Bool) (qF : List (Ty .step)) (qG : Int) (qH : Int) (qI : Int) (qJ : Int) (qK : Option Bool) (qL : Bool) (qM : List (Ty .run)) (qN : Int) (qO : Int) (qP : Int) (qQ : Option Bool) (qR : Bool) (qS : List (Ty .mat)) (qT : Bool) (qU : Int) (qV : Bool) (qW : ByteArray) (qX : Int) (qY : Option Bool) (qZ : Bool) (rA : List (Ty .val)) (v : S.law15_SubOver_9_V) : mk_law15_SubOver_9 qA qB qC qD qE qF qG qH qI qJ qK qL qM qN qO qP qQ qR qS qT qU qV qW qX qY qZ rA v = ⟨envOf 95 [(2, V.v false [C.d (.sc (.int .i64 qA))]), (3, V.v false [C.ptr 0 0]), (4, V.v false [C.ptr 1 0]), (10, V.v false [C.ptr 36 0]), (11, V.v false [C.d (.sc (.int .i64 v.t_11_0))]), (12, V.v false [C.d (.sc (.int .i64 v.t_12_0))])], heapOf 40 [(0, some
  (Blk.box 89
    [C.d (.sc (.int .i64 qB)), C.d (.sc (.int .i64 qC)), C.d (.sl qD qE ET.step qF), C.d (.sc (.int .i64 qG)),
      C.d (.sc (.int .i64 qH)), C.d (.sc (.int .i64 qI)), C.d (.sc (.int .i64 qJ)), C.d (.sl qK qL ET.run qM),
      C.d (.sc (.int .i64 qN)), C.d (.sc (.int .i64 qO)), C.d (.sc (.int .i64 qP)), C.d (.sl qQ qR ET.mat qS),
      C.d (.sc (.bool qT)), C.d (.sc (.int .i64 qU)), C.d (.sc (.bool qV))])), (1, some (Blk.box 29 [C.d (.sc (.str qW)), C.d (.sc (.int .i64 qX)), C.d (.sl qY qZ ET.val rA)])), (36, some
  (Blk.box 89
    [C.d (.sc (.int .i64 v.h_36_0)), C.d (.sc (.int .i64 v.h_36_1)), C.d (.sl v.h_36_2n v.h_36_2f ET.step v.h_36_2), C.d (.sc (.int .i64 v.h_36_3)),
      C.d (.sc (.int .i64 v.h_36_4)), C.d (.sc (.int .i64 v.h_36_5)), C.d (.sc (.int .i64 v.h_36_6)), C.d (.sl v.h_36_7n v.h_36_7f ET.run v.h_36_7),
      C.d (.sc (.int .i64 v.h_36_8)), C.d (.sc (.int .i64 v.h_36_9)), C.d (.sc (.int .i64 v.h_36_10)),
      C.d (.sl v.h_36_11n v.h_36_11f ET.mat v.h_36_11), C.d (.sc (.bool v.h_36_12)), C.d (.sc (.int .i64 v.h_36_13)), C.d (.sc (.bool v.h_36_14))]))], 0⟩ := by kernel_rfl
theorem Ui_law15_SubOver_9_e2 {x : V} {K : Int → Tree} {z : Ex × St} (h : (U_law15_SubOver_9_e2 x K).eval = some z) : ∃ (qA : Int), x = V.v false [C.d (.sc (.int .i64 qA))] ∧ (K qA).eval = some z := by
  unfold U_law15_SubOver_9_e2 at h
  split at h
  · exact ⟨_, rfl, h⟩
  · cases h
theorem Ui_law15_SubOver_9_e3 {x : V} {K : Tree} {z : Ex × St} (h : (U_law15_SubOver_9_e3 x K).eval = some z) : x = V.v false [C.ptr 0 0] ∧ (K).eval = some z := by
  unfold U_law15_SubOver_9_e3 at h
  split at h
  · exact ⟨rfl, h⟩
  · cases h
theorem Ui_law15_SubOver_9_e4 {x : V} {K : Tree} {z : Ex × St} (h : (U_law15_SubOver_9_e4 x K).eval = some z) : x = V.v false [C.ptr 1 0] ∧ (K).eval = some z := by
  unfold U_law15_SubOver_9_e4 at h
  split at h
  · exact ⟨rfl, h⟩
  · cases h
theorem Ui_law15_SubOver_9_e10 {x : V} {K : Tree} {z : Ex × St} (h : (U_law15_SubOver_9_e10 x K).eval = some z) : x = V.v false [C.ptr 36 0] ∧ (K).eval = some z := by
  unfold U_law15_SubOver_9_e10 at h
  split at h
  · exact ⟨rfl, h⟩
  · cases h
theorem Ui_law15_SubOver_9_e11 {x : V} {K : Int → Tree} {z : Ex × St} (h : (U_law15_SubOver_9_e11 x K).eval = some z) : ∃ (t_11_0 : Int), x = V.v false [C.d (.sc (.int .i64 t_11_0))] ∧ (K t_11_0).eval = some z := by
  unfold U_law15_SubOver_9_e11 at h
  split at h
  · exact ⟨_, rfl, h⟩
  · cases h
theorem Ui_law15_SubOver_9_e12 {x : V} {K : Int → Tree} {z : Ex × St} (h : (U_law15_SubOver_9_e12 x K).eval = some z) : ∃ (t_12_0 : Int), x = V.v false [C.d (.sc (.int .i64 t_12_0))] ∧ (K t_12_0).eval = some z := by
  unfold U_law15_SubOver_9_e12 at h
  split at h
  · exact ⟨_, rfl, h⟩
  · cases h
theorem Ui_law15_SubOver_9_h0 {x : Option Blk} {K : Int → Int → (Option Bool) → Bool → (List (Ty .step)) → Int → Int → Int → Int → (Option Bool) → Bool → (List (Ty .run)) → Int → Int → Int → (Option Bool) → Bool → (List (Ty .mat)) → Bool → Int → Bool → Tree} {z : Ex × St} (h : (U_law15_SubOver_9_h0 x K).eval = some z) : ∃ (qB : Int) (qC : Int) (qD : Option Bool) (qE : Bool) (qF : List (Ty .step)) (qG : Int) (qH : Int) (qI : Int) (qJ : Int) (qK : Option Bool) (qL : Bool) (qM : List (Ty .run)) (qN : Int) (qO : Int) (qP : Int) (qQ : Option Bool) (qR : Bool) (qS : List (Ty .mat)) (qT : Bool) (qU : Int) (qV : Bool), x = some (Blk.box 89 [C.d (.sc (.int .i64 qB)), C.d (.sc (.int .i64 qC)), C.d (.sl qD qE ET.step qF), C.d (.sc (.int .i64 qG)), C.d (.sc (.int .i64 qH)), C.d (.sc (.int .i64 qI)), C.d (.sc (.int .i64 qJ)), C.d (.sl qK qL ET.run qM), C.d (.sc (.int .i64 qN)), C.d (.sc (.int .i64 qO)), C.d (.sc (.int .i64 qP)), C.d (.sl qQ qR ET.mat qS), C.d (.sc (.bool qT)), C.d (.sc (.int .i64 qU)), C.d (.sc (.bool qV))]) ∧ (K qB qC qD qE qF qG qH qI qJ qK qL qM qN qO qP qQ qR qS qT qU qV).eval = some z := by
  unfold U_law15_SubOver_9_h0 at h
  split at h
  · exact ⟨_, _, _, _, _, _, _, _, _, _, _, _, _, _, _, _, _, _, _, _, _, rfl, h⟩
  · cases h
theorem Ui_law15_SubOver_9_h1 {x : Option Blk} {K : ByteArray → Int → (Option Bool) → Bool → (List (Ty .val)) → Tree} {z : Ex × St} (h : (U_law15_SubOver_9_h1 x K).eval = some z) : ∃ (qW : ByteArray) (qX : Int) (qY : Option Bool) (qZ : Bool) (rA : List (Ty .val)), x = some (Blk.box 29 [C.d (.sc (.str qW)), C.d (.sc (.int .i64 qX)), C.d (.sl qY qZ ET.val rA)]) ∧ (K qW qX qY qZ rA).eval = some z := by
  unfold U_law15_SubOver_9_h1 at h
  split at h
  · exact ⟨_, _, _, _, _, rfl, h⟩
  · cases h
theorem Ui_law15_SubOver_9_h36 {x : Option Blk} {K : Int → Int → (Option Bool) → Bool → (List (Ty .step)) → Int → Int → Int → Int → (Option Bool) → Bool → (List (Ty .run)) → Int → Int → Int → (Option Bool) → Bool → (List (Ty .mat)) → Bool → Int → Bool → Tree} {z : Ex × St} (h : (U_law15_SubOver_9_h36 x K).eval = some z) : ∃ (h_36_0 : Int) (h_36_1 : Int) (h_36_2n : Option Bool) (h_36_2f : Bool) (h_36_2 : List (Ty .step)) (h_36_3 : Int) (h_36_4 : Int) (h_36_5 : Int) (h_36_6 : Int) (h_36_7n : Option Bool) (h_36_7f : Bool) (h_36_7 : List (Ty .run)) (h_36_8 : Int) (h_36_9 : Int) (h_36_10 : Int) (h_36_11n : Option Bool) (h_36_11f : Bool) (h_36_11 : List (Ty .mat)) (h_36_12 : Bool) (h_36_13 : Int) (h_36_14 : Bool), x = some (Blk.box 89 [C.d (.sc (.int .i64 h_36_0)), C.d (.sc (.int .i64 h_36_1)), C.d (.sl h_36_2n h_36_2f ET.step h_36_2), C.d (.sc (.int .i64 h_36_3)), C.d (.sc (.int .i64 h_36_4)), C.d (.sc (.int .i64 h_36_5)), C.d (.sc (.int .i64 h_36_6)), C.d (.sl h_36_7n h_36_7f ET.run h_36_7), C.d (.sc (.int .i64 h_36_8)), C.d (.sc (.int .i64 h_36_9)), C.d (.sc (.int .i64 h_36_10)), C.d (.sl h_36_11n h_36_11f ET.mat h_36_11), C.d (.sc (.bool h_36_12)), C.d (.sc (.int .i64 h_36_13)), C.d (.sc (.bool h_36_14))]) ∧ (K h_36_0 h_36_1 h_36_2n h_36_2f h_36_2 h_36_3 h_36_4 h_36_5 h_36_6 h_36_7n h_36_7f h_36_7 h_36_8 h_36_9 h_36_10 h_36_11n h_36_11f h_36_11 h_36_12 h_36_13 h_36_14).eval = some z := by
  unfold U_law15_SubOver_9_h36 at h
  split at h
  · exact ⟨_, _, _, _, _, _, _, _, _, _, _, _, _, _, _, _, _, _, _, _, _, rfl, h⟩
  · cases h
theorem lo1_law15_SubOver_9 (e2 : V) (e3 : V) (e4 : V) (e10 : V) (e11 : V) (e12 : V) (h0 : Option Blk) (h1 : Option Blk) (h36 : Option Blk) e st2 (h : (T1_law15_SubOver_9 e2 e3 e4 e10 e11 e12 h0 h1 h36).eval = some (e, st2)) : Circles Try.prog cx_law15_SubOver b_law15_SubOver_9 ⟨envOf 95 [(2, e2), (3, e3), (4, e4), (10, e10), (11, e11), (12, e12)], heapOf 40 [(0, h0), (1, h1), (36, h36)], 0⟩ e st2 := by
  unfold T1_law15_SubOver_9 at h
  obtain ⟨qA, rfl, h⟩ := Ui_law15_SubOver_9_e2 h
  obtain ⟨rfl, h⟩ := Ui_law15_SubOver_9_e3 h
  obtain ⟨rfl, h⟩ := Ui_law15_SubOver_9_e4 h
  obtain ⟨rfl, h⟩ := Ui_law15_SubOver_9_e10 h
  obtain ⟨t_11_0, rfl, h⟩ := Ui_law15_SubOver_9_e11 h
  obtain ⟨t_12_0, rfl, h⟩ := Ui_law15_SubOver_9_e12 h
  obtain ⟨qB, qC, qD, qE, qF, qG, qH, qI, qJ, qK, qL, qM, qN, qO, qP, qQ, qR, qS, qT, qU, qV, rfl, h⟩ := Ui_law15_SubOver_9_h0 h
  obtain ⟨qW, qX, qY, qZ, rA, rfl, h⟩ := Ui_law15_SubOver_9_h1 h
  obtain ⟨h_36_0, h_36_1, h_36_2n, h_36_2f, h_36_2, h_36_3, h_36_4, h_36_5, h_36_6, h_36_7n, h_36_7f, h_36_7, h_36_8, h_36_9, h_36_10, h_36_11n, h_36_11f, h_36_11, h_36_12, h_36_13, h_36_14, rfl, h⟩ := Ui_law15_SubOver_9_h36 h
  have := loop_tree (mk := mk_law15_SubOver_9 qA qB qC qD qE qF qG qH qI qJ qK qL qM qN qO qP qQ qR qS qT qU qV qW qX qY qZ rA) (ci_law15_SubOver_9 qA qB qC qD qE qF qG qH qI qJ qK qL qM qN qO qP qQ qR qS qT qU qV qW qX qY qZ rA) _ _ e st2 h
  rw [mke_law15_SubOver_9] at this
  exact this
theorem lok_law15_SubOver_9 : LoopOk Try.prog cx_law15_SubOver b_law15_SubOver_9 T_law15_SubOver_9 := by
  intro st e st2 h
  unfold T_law15_SubOver_9 at h
  cases hk : okSt 95 40 0 [0, 1, 36] st with
  | false => rw [hk] at h; cases h
  | true =>
    rw [hk] at h
    exact circles_keep (ks := [2, 3, 4, 10, 11, 12]) hk (lo1_law15_SubOver_9 _ _ _ _ _ _ _ _ _ e st2 h)
structure S.law15_SubOver_T where
  x0 : Bool
  deriving Inhabited
def S.law15_SubOver_R (a0_0 : Int) (a0_1 : Int) (a0_2n : Option Bool) (a0_2f : Bool) (a0_2 : List (Ty .step)) (a0_3 : Int) (a0_4 : Int) (a0_5 : Int) (a0_6 : Int) (a0_7n : Option Bool) (a0_7f : Bool) (a0_7 : List (Ty .run)) (a0_8 : Int) (a0_9 : Int) (a0_10 : Int) (a0_11n : Option Bool) (a0_11f : Bool) (a0_11 : List (Ty .mat)) (a0_12 : Bool) (a0_13 : Int) (a0_14 : Bool) (a1_0 : ByteArray) (a1_1 : Int) (a1_2 : List (Ty .val)) (a2 : Int) : DT S.law15_SubOver_T :=
let y0 : S.law15_SubOver_9_V := { t_11_0 := 0, t_12_0 := 0, h_36_0 := a0_0, h_36_1 := a0_1, h_36_2n := a0_2n, h_36_2f := a0_2f, h_36_2 := a0_2, h_36_3 := a0_3, h_36_4 := a0_4, h_36_5 := a0_5, h_36_6 := a0_6, h_36_7n := a0_7n, h_36_7f := a0_7f, h_36_7 := a0_7, h_36_8 := a0_8, h_36_9 := a0_9, h_36_10 := a0_10, h_36_11n := a0_11n, h_36_11f := a0_11f, h_36_11 := a0_11, h_36_12 := a0_12, h_36_13 := a0_13, h_36_14 := a0_14 : S.law15_SubOver_9_V }
let y1 : S.law15_SubOver_9_V := S.law15_SubOver_9_v y0
let y2 : Int := y1.h_36_0
let y3 : Int := y1.h_36_1
let y4 : List (Ty .step) := y1.h_36_2
let y5 : Int := y1.h_36_3
let y6 : Int := y1.h_36_4
let y7 : Int := y1.h_36_5
let y8 : Int := y1.h_36_6
let y9 : List (Ty .run) := y1.h_36_7
let y10 : Int := y1.h_36_8
let y11 : Int := y1.h_36_9
let y12 : Int := y1.h_36_10
let y13 : List (Ty .mat) := y1.h_36_11
let y14 : Bool := y1.h_36_12
let y15 : Int := y1.h_36_13
let y16 : Bool := y1.h_36_14
let y17 : Bool := S.sub_Feed_is y2 y3 y4 y5 y6 y7 y8 y9 y10 y11 y12 y13 y14 y15 y16 a1_0 a1_1 a1_2 a2
let y18 : S.sub_Feed_T := S.sub_Feed_o y2 y3 y4 y5 y6 y7 y8 y9 y10 y11 y12 y13 y14 y15 y16 a1_0 a1_1 a1_2 a2
let y19 : Int := y18.x0
let y20 : Int := y18.x1
let y21 : List (Ty .step) := y18.x2
let y22 : Int := y18.x3
let y23 : Int := y18.x4
let y24 : Int := y18.x5
let y25 : Int := y18.x6
let y26 : List (Ty .run) := y18.x7
let y27 : Int := y18.x8
let y28 : Int := y18.x9
let y29 : Int := y18.x10
let y30 : List (Ty .mat) := y18.x11
let y31 : Bool := y18.x12
let y32 : Int := y18.x13
let y33 : Bool := y18.x14
let y34 : Bool := S.sub_Give_is y19 y20 y21 y22 y23 y24 y25 y26 y27 y28 y29 y30 y31 y32 y33
let y35 : Bool := xnot (S.sub_Give_o y19 y20 y21 y22 y23 y24 y25 y26 y27 y28 y29 y30 y31 y32 y33).x22
let y36 : Int := y1.t_11_0
let y37 : Bool := xeqI y36 1 == xnot a0_14
let y38 : Bool := xdec (y36 ≤ 1)
(.br (S.law15_awake_is)
(.br (S.law15_Few_is a0_2 a0_7 a0_11)
(.br (S.law06_Few_is a1_0 a1_2)
(.br (xnot S.law15_awake_o.x0)
(.leaf ⟨S.law15_awake_o.x0⟩)
(.br (xnot (S.law15_Few_o a0_2 a0_7 a0_11).x0)
(.leaf ⟨S.law15_awake_o.x0⟩)
(.br (xnot (S.law06_Few_o a1_0 a1_2).x0)
(.leaf ⟨S.law15_awake_o.x0⟩)
(.br (S.sub_May_is a0_0 a0_1 a0_2 a0_7 a0_8 a0_9 a0_10 a0_11 a0_13 a0_14)
(.br (xnot (S.sub_May_o a0_0 a0_1 a0_2 a0_7 a0_8 a0_9 a0_10 a0_11 a0_13 a0_14).x0)
(.leaf ⟨S.law15_awake_o.x0⟩)
(.br (xeqI a0_13 0)
(.leaf ⟨S.law15_awake_o.x0⟩)
(.br (a0_12)
(.leaf ⟨S.law15_awake_o.x0⟩)
(.br (S.law15_SubOver_9_j y0 0)
(.br (y17)
(.br (y34)
(.br (y16)
(.br (y35)
(.br (y37)
(.leaf ⟨y38⟩)
(.leaf ⟨false⟩))
(.leaf ⟨false⟩))
(.leaf ⟨false⟩))
.fail)
.fail)
(.br (S.law15_SubOver_9_j y0 1)
(.br (y17)
(.br (y34)
(.br (y16)
(.br (y35)
(.br (y37)
(.leaf ⟨y38⟩)
(.leaf ⟨false⟩))
(.leaf ⟨false⟩))
(.leaf ⟨false⟩))
.fail)
.fail)
.fail)))))
.fail))))
.fail)
.fail)
.fail)
def S.law15_SubOver (a0_0 : Int) (a0_1 : Int) (a0_2n : Option Bool) (a0_2f : Bool) (a0_2 : List (Ty .step)) (a0_3 : Int) (a0_4 : Int) (a0_5 : Int) (a0_6 : Int) (a0_7n : Option Bool) (a0_7f : Bool) (a0_7 : List (Ty .run)) (a0_8 : Int) (a0_9 : Int) (a0_10 : Int) (a0_11n : Option Bool) (a0_11f : Bool) (a0_11 : List (Ty .mat)) (a0_12 : Bool) (a0_13 : Int) (a0_14 : Bool) (a1_0 : ByteArray) (a1_1 : Int) (a1_2 : List (Ty .val)) (a2 : Int) : Option S.law15_SubOver_T := (S.law15_SubOver_R a0_0 a0_1 a0_2n a0_2f a0_2 a0_3 a0_4 a0_5 a0_6 a0_7n a0_7f a0_7 a0_8 a0_9 a0_10 a0_11n a0_11f a0_11 a0_12 a0_13 a0_14 a1_0 a1_1 a1_2 a2).run
def S.law15_SubOver_is (a0_0 : Int) (a0_1 : Int) (a0_2n : Option Bool) (a0_2f : Bool) (a0_2 : List (Ty .step)) (a0_3 : Int) (a0_4 : Int) (a0_5 : Int) (a0_6 : Int) (a0_7n : Option Bool) (a0_7f : Bool) (a0_7 : List (Ty .run)) (a0_8 : Int) (a0_9 : Int) (a0_10 : Int) (a0_11n : Option Bool) (a0_11f : Bool) (a0_11 : List (Ty .mat)) (a0_12 : Bool) (a0_13 : Int) (a0_14 : Bool) (a1_0 : ByteArray) (a1_1 : Int) (a1_2 : List (Ty .val)) (a2 : Int) : Bool := (S.law15_SubOver a0_0 a0_1 a0_2n a0_2f a0_2 a0_3 a0_4 a0_5 a0_6 a0_7n a0_7f a0_7 a0_8 a0_9 a0_10 a0_11n a0_11f a0_11 a0_12 a0_13 a0_14 a1_0 a1_1 a1_2 a2).isSome
def S.law15_SubOver_o (a0_0 : Int) (a0_1 : Int) (a0_2n : Option Bool) (a0_2f : Bool) (a0_2 : List (Ty .step)) (a0_3 : Int) (a0_4 : Int) (a0_5 : Int) (a0_6 : Int) (a0_7n : Option Bool) (a0_7f : Bool) (a0_7 : List (Ty .run)) (a0_8 : Int) (a0_9 : Int) (a0_10 : Int) (a0_11n : Option Bool) (a0_11f : Bool) (a0_11 : List (Ty .mat)) (a0_12 : Bool) (a0_13 : Int) (a0_14 : Bool) (a1_0 : ByteArray) (a1_1 : Int) (a1_2 : List (Ty .val)) (a2 : Int) : S.law15_SubOver_T := (S.law15_SubOver a0_0 a0_1 a0_2n a0_2f a0_2 a0_3 a0_4 a0_5 a0_6 a0_7n a0_7f a0_7 a0_8 a0_9 a0_10 a0_11n a0_11f a0_11 a0_12 a0_13 a0_14 a1_0 a1_1 a1_2 a2).getD default
def ret_law15_SubOver (b : Bool) (r : S.law15_SubOver_T) : Ret := ⟨b, none, [(false, [C.d (.sc (.bool r.x0))])]⟩
def g_law15_SubOver : Con
  | [(true, [.sc (.int .i64 a0_0), .sc (.int .i64 a0_1), .sl a0_2n a0_2f .step a0_2, .sc (.int .i64 a0_3), .sc (.int .i64 a0_4), .sc (.int .i64 a0_5), .sc (.int .i64 a0_6), .sl a0_7n a0_7f .run a0_7, .sc (.int .i64 a0_8), .sc (.int .i64 a0_9), .sc (.int .i64 a0_10), .sl a0_11n a0_11f .mat a0_11, .sc (.bool a0_12), .sc (.int .i64 a0_13), .sc (.bool a0_14)]), (true, [.sc (.str a1_0), .sc (.int .i64 a1_1), .sl a1_2n a1_2f .val a1_2]), (false, [.sc (.int .i64 a2)])] => some (ret_law15_SubOver (S.law15_SubOver_is a0_0 a0_1 a0_2n a0_2f a0_2 a0_3 a0_4 a0_5 a0_6 a0_7n a0_7f a0_7 a0_8 a0_9 a0_10 a0_11n a0_11f a0_11 a0_12 a0_13 a0_14 a1_0 a1_1 a1_2 a2) (S.law15_SubOver_o a0_0 a0_1 a0_2n a0_2f a0_2 a0_3 a0_4 a0_5 a0_6 a0_7n a0_7f a0_7 a0_8 a0_9 a0_10 a0_11n a0_11f a0_11 a0_12 a0_13 a0_14 a1_0 a1_1 a1_2 a2))
  | _ => none
theorem raw_law15_SubOver (a0_0 : Int) (a0_1 : Int) (a0_2n : Option Bool) (a0_2f : Bool) (a0_2 : List (Ty .step)) (a0_3 : Int) (a0_4 : Int) (a0_5 : Int) (a0_6 : Int) (a0_7n : Option Bool) (a0_7f : Bool) (a0_7 : List (Ty .run)) (a0_8 : Int) (a0_9 : Int) (a0_10 : Int) (a0_11n : Option Bool) (a0_11f : Bool) (a0_11 : List (Ty .mat)) (a0_12 : Bool) (a0_13 : Int) (a0_14 : Bool) (a1_0 : ByteArray) (a1_1 : Int) (a1_2n : Option Bool) (a1_2f : Bool) (a1_2 : List (Ty .val)) (a2 : Int) : evR2 cx_law15_SubOver (hdI cx_law15_SubOver (find [(9, T_law15_SubOver_9)]) [] none 0) none Try.f21 21 none [(true, [.sc (.int .i64 a0_0), .sc (.int .i64 a0_1), .sl a0_2n a0_2f .step a0_2, .sc (.int .i64 a0_3), .sc (.int .i64 a0_4), .sc (.int .i64 a0_5), .sc (.int .i64 a0_6), .sl a0_7n a0_7f .run a0_7, .sc (.int .i64 a0_8), .sc (.int .i64 a0_9), .sc (.int .i64 a0_10), .sl a0_11n a0_11f .mat a0_11, .sc (.bool a0_12), .sc (.int .i64 a0_13), .sc (.bool a0_14)]), (true, [.sc (.str a1_0), .sc (.int .i64 a1_1), .sl a1_2n a1_2f .val a1_2]), (false, [.sc (.int .i64 a2)])] some = (S.law15_SubOver_R a0_0 a0_1 a0_2n a0_2f a0_2 a0_3 a0_4 a0_5 a0_6 a0_7n a0_7f a0_7 a0_8 a0_9 a0_10 a0_11n a0_11f a0_11 a0_12 a0_13 a0_14 a1_0 a1_1 a1_2 a2).go (ret_law15_SubOver true) := by kernel_rfl
theorem bs_law15_SubOver : loopsIn Try.f21 [] = [b_law15_SubOver_9] := by kernel_rfl
theorem law15_SubOver_ok : Stands Try.prog tyTab 21 g_law15_SubOver := by
  refine stands3 (L := find [(9, T_law15_SubOver_9)]) (n := 0) (hints := [(21, 9, { keep := [2, 3, 4, 10, 11, 12], acc := [] })]) (cx_ok rfl) rdy_law15_SubOver ⟨by kernel_rfl, by kernel_rfl, by kernel_rfl⟩ bs_law15_SubOver (consB (fun T h => by have e : T_law15_SubOver_9 = T := Option.some.inj (show some T_law15_SubOver_9 = some T from h); exact e ▸ lok_law15_SubOver_9) nilB) (fun das r hG hr => ?_)
  unfold g_law15_SubOver at hG
  split at hG
  · rename_i a0_0 a0_1 a0_2n a0_2f a0_2 a0_3 a0_4 a0_5 a0_6 a0_7n a0_7f a0_7 a0_8 a0_9 a0_10 a0_11n a0_11f a0_11 a0_12 a0_13 a0_14 a1_0 a1_1 a1_2n a1_2f a1_2 a2
    injection hG with hG; subst hG
    exact ⟨none, true, win default ((raw_law15_SubOver a0_0 a0_1 a0_2n a0_2f a0_2 a0_3 a0_4 a0_5 a0_6 a0_7n a0_7f a0_7 a0_8 a0_9 a0_10 a0_11n a0_11f a0_11 a0_12 a0_13 a0_14 a1_0 a1_1 a1_2n a1_2f a1_2 a2).trans (DT.go_run _ _)) hr⟩
  · cases hG
end
end Go.Eng
