/- Contracts, laid by program. -/
import Derived.Test.YtbjeikmkngcjlaaZG8
set_option linter.unusedVariables false
set_option linter.unusedSimpArgs false
namespace Go.Eng
open Go Go.Eng Go.Proofs Go.Eng.Tab
noncomputable abbrev cx_law13_MatchOrder : Cx := mkCx2 tyTab [(50, g_law09_Few), (51, g_ref09_May), (55, g_law13_awake), (58, g_match_Feed), (60, g_law12_Log), (61, g_match_New)] [] [(16, 18, { keep := [1, 9, 10, 11, 14], acc := [] }), (16, 13, { keep := [1, 9, 10, 11, 12, 13], acc := [] }), (16, 9, { keep := [1, 9, 10], acc := [] })] []
theorem rdy_law13_MatchOrder : Ready Try.prog tyTab [(50, g_law09_Few), (51, g_ref09_May), (55, g_law13_awake), (58, g_match_Feed), (60, g_law12_Log), (61, g_match_New)] [] [] := ⟨consG2 law09_Few_ok (consG2 ref09_May_ok (consG2 law13_awake_ok (consG2 match_Feed_ok (consG2 law12_Log_ok (consG2 match_New_ok (noneG2)))))), noneI2, noneF2⟩
structure S.law13_MatchOrder_13_V where
  t_13_0 : Int
noncomputable def S.law13_MatchOrder_13_R (t_10_0 : Int) (t_12_0 : List (Ty ET.mat)) (v : S.law13_MatchOrder_13_V) : DT (Option Nat × S.law13_MatchOrder_13_V) :=
let y0 : Int := (↑t_12_0.length : Int)
let y1 : Bool := xdec (v.t_13_0 < y0)
let y2 : Bool := xdec (0 ≤ v.t_13_0) && y1
let y3 : Ty ET.mat := t_12_0.getD v.t_13_0.toNat (dflt ET.mat)
let y4 : Int := xwrap IntKind.i64 (v.t_13_0 - 1)
let y5 : Int := y3.start
let y6 : Bool := xdec (y5 > t_10_0)
let y7 : Int := xwrap IntKind.i64 (v.t_13_0 + 1)
(.br (y1)
(.br (y2)
(.br (xneI y3.fin t_10_0)
(.leaf (some 0, v))
(.br (xdec (v.t_13_0 > 0))
(.br (y2)
(.br (xdec (0 ≤ y4) && xdec (y4 < y0))
(.br (xdec (y5 ≤ (t_12_0.getD y4.toNat (dflt ET.mat)).start))
(.leaf (some 0, v))
(.br (y2)
(.br (y6)
(.leaf (some 0, v))
(.leaf (none, ⟨y7⟩)))
.fail))
.fail)
.fail)
(.br (y2)
(.br (y6)
(.leaf (some 0, v))
(.leaf (none, ⟨y7⟩)))
.fail)))
.fail)
(.leaf (some 1, v)))
noncomputable def S.law13_MatchOrder_13_r (t_10_0 : Int) (t_12_0 : List (Ty ET.mat)) (v : S.law13_MatchOrder_13_V) : Option (Option Nat × S.law13_MatchOrder_13_V) := (S.law13_MatchOrder_13_R t_10_0 t_12_0 v).run
noncomputable def S.law13_MatchOrder_13_j (t_10_0 : Int) (t_12_0 : List (Ty ET.mat)) (v : S.law13_MatchOrder_13_V) (j : Nat) : Bool := Lp_j (S.law13_MatchOrder_13_r t_10_0 t_12_0) v j
noncomputable def S.law13_MatchOrder_13_v (t_10_0 : Int) (t_12_0 : List (Ty ET.mat)) (v : S.law13_MatchOrder_13_V) : S.law13_MatchOrder_13_V := Lp_v (S.law13_MatchOrder_13_r t_10_0 t_12_0) v
noncomputable def mk_law13_MatchOrder_13 (t_1_0n : Option Bool) (t_1_0f : Bool) (t_1_0 : List (Ty ET.evt)) (t_10_0 : Int) (t_12_0 : List (Ty ET.mat)) (h_0_0n : Option Bool) (h_0_0f : Bool) (h_0_0 : List (Ty ET.step)) (h_0_1 : Int) (h_0_2 : Int) (h_0_3 : Int) (h_0_4 : Int) (h_29_0 : List (Ty ET.step)) (h_29_1 : Int) (h_29_2 : Int) (h_29_3 : Int) (h_29_4 : Int) (h_29_5 : List (Ty ET.run)) (h_29_6 : Int) (h_46_0 : List (Ty ET.step)) (h_46_1 : Int) (h_46_2 : Int) (h_46_3 : Int) (h_46_4 : Int) (h_46_5 : List (Ty ET.run)) (h_46_6 : Int) (v : S.law13_MatchOrder_13_V) : St := ⟨[V.any, V.v false [C.d (D.sl t_1_0n t_1_0f ET.evt t_1_0)], V.any, V.any, V.any, V.any, V.any, V.any, V.any, V.v false [C.ptr 29 0],
  V.v false [C.d (D.sc (Sc.int IntKind.i64 t_10_0))], V.v false [C.ptr 46 0], V.v false [C.d (D.sl none false ET.mat t_12_0)], V.v false [C.d (D.sc (Sc.int IntKind.i64 v.t_13_0))],
  V.any, V.any, V.any, V.any, V.any, V.any, V.any, V.any, V.any, V.any, V.any, V.any, V.any, V.any, V.any, V.any, V.any, V.any, V.any, V.any, V.any, V.any, V.any, V.any, V.any,
  V.any, V.any, V.any, V.any, V.any, V.any, V.any, V.any, V.any, V.any, V.any, V.any, V.any, V.any, V.any, V.any, V.any, V.any, V.any, V.any, V.any, V.any, V.any, V.any, V.any,
  V.any, V.any, V.any, V.any, V.any, V.any, V.any, V.any, V.any, V.any, V.any, V.any, V.any, V.any, V.any, V.any, V.any, V.any, V.any, V.any, V.any, V.any, V.any, V.any, V.any,
  V.any, V.any, V.any, V.any, V.any, V.any, V.any, V.any, V.any, V.any, V.any, V.any, V.any, V.any, V.any, V.any, V.any, V.any, V.any, V.any, V.any, V.any, V.any, V.any, V.any,
  V.any, V.any, V.any, V.any, V.any, V.any, V.any, V.any, V.any, V.any, V.any, V.any, V.any, V.any, V.any, V.any, V.any, V.any, V.any, V.any, V.any, V.any, V.any, V.any, V.any,
  V.any, V.any, V.any, V.any, V.any, V.any, V.any, V.any, V.any, V.any], [some
    (Blk.box 45
      [C.d (D.sl h_0_0n h_0_0f ET.step h_0_0), C.d (D.sc (Sc.int IntKind.i64 h_0_1)), C.d (D.sc (Sc.int IntKind.i64 h_0_2)), C.d (D.sc (Sc.int IntKind.i64 h_0_3)),
        C.d (D.sc (Sc.int IntKind.i64 h_0_4))]),
  none, none, none, none, none, none, none, none, none, none, none, none, none, none, none, none, none, none, none, none, none, none, none, none, none, none, none, none,
  some
    (Blk.box 71
      [C.d (D.sl none false ET.step h_29_0), C.d (D.sc (Sc.int IntKind.i64 h_29_1)), C.d (D.sc (Sc.int IntKind.i64 h_29_2)), C.d (D.sc (Sc.int IntKind.i64 h_29_3)),
        C.d (D.sc (Sc.int IntKind.i64 h_29_4)), C.d (D.sl none false ET.run h_29_5), C.d (D.sc (Sc.int IntKind.i64 h_29_6))]),
  none, none, none, none, none, none, none, none, none, none, none, none, none, none, none, none,
  some
    (Blk.box 71
      [C.d (D.sl none false ET.step h_46_0), C.d (D.sc (Sc.int IntKind.i64 h_46_1)), C.d (D.sc (Sc.int IntKind.i64 h_46_2)), C.d (D.sc (Sc.int IntKind.i64 h_46_3)),
        C.d (D.sc (Sc.int IntKind.i64 h_46_4)), C.d (D.sl none false ET.run h_46_5), C.d (D.sc (Sc.int IntKind.i64 h_46_6))]),
  none, none, none], 0⟩
noncomputable def ex_law13_MatchOrder_13 (t_1_0n : Option Bool) (t_1_0f : Bool) (t_1_0 : List (Ty ET.evt)) (t_10_0 : Int) (t_12_0 : List (Ty ET.mat)) (h_0_0n : Option Bool) (h_0_0f : Bool) (h_0_0 : List (Ty ET.step)) (h_0_1 : Int) (h_0_2 : Int) (h_0_3 : Int) (h_0_4 : Int) (h_29_0 : List (Ty ET.step)) (h_29_1 : Int) (h_29_2 : Int) (h_29_3 : Int) (h_29_4 : Int) (h_29_5 : List (Ty ET.run)) (h_29_6 : Int) (h_46_0 : List (Ty ET.step)) (h_46_1 : Int) (h_46_2 : Int) (h_46_3 : Int) (h_46_4 : Int) (h_46_5 : List (Ty ET.run)) (h_46_6 : Int) (j : Nat) (v : S.law13_MatchOrder_13_V) : Ex × St := match j with
  | 0 => (Ex.ret, ⟨[V.any, V.v false [C.d (D.sl t_1_0n t_1_0f ET.evt t_1_0)], V.any, V.any, V.v false [C.d (D.sc (Sc.bool false))], V.any, V.any, V.any, V.any, V.v false [C.ptr 29 0],
  V.v false [C.d (D.sc (Sc.int IntKind.i64 t_10_0))], V.v false [C.ptr 46 0], V.any, V.any, V.any, V.any, V.any, V.any, V.any, V.any, V.any, V.any, V.any, V.any, V.any, V.any,
  V.any, V.any, V.any, V.any, V.any, V.any, V.any, V.any, V.any, V.any, V.any, V.any, V.any, V.any, V.any, V.any, V.any, V.any, V.any, V.any, V.any, V.any, V.any, V.any, V.any,
  V.any, V.any, V.any, V.any, V.any, V.any, V.any, V.any, V.any, V.any, V.any, V.any, V.any, V.any, V.any, V.any, V.any, V.any, V.any, V.any, V.any, V.any, V.any, V.any, V.any,
  V.any, V.any, V.any, V.any, V.any, V.any, V.any, V.any, V.any, V.any, V.any, V.any, V.any, V.any, V.any, V.any, V.any, V.any, V.any, V.any, V.any, V.any, V.any, V.any, V.any,
  V.any, V.any, V.any, V.any, V.any, V.any, V.any, V.any, V.any, V.any, V.any, V.any, V.any, V.any, V.any, V.any, V.any, V.any, V.any, V.any, V.any, V.any, V.any, V.any, V.any,
  V.any, V.any, V.any, V.any, V.any, V.any, V.any, V.any, V.any, V.any, V.any, V.any, V.any, V.any, V.any, V.any, V.any, V.any, V.any, V.any, V.any, V.any, V.any], [some
    (Blk.box 45
      [C.d (D.sl h_0_0n h_0_0f ET.step h_0_0), C.d (D.sc (Sc.int IntKind.i64 h_0_1)), C.d (D.sc (Sc.int IntKind.i64 h_0_2)), C.d (D.sc (Sc.int IntKind.i64 h_0_3)),
        C.d (D.sc (Sc.int IntKind.i64 h_0_4))]),
  none, none, none, none, none, none, none, none, none, none, none, none, none, none, none, none, none, none, none, none, none, none, none, none, none, none, none, none,
  some
    (Blk.box 71
      [C.d (D.sl none false ET.step h_29_0), C.d (D.sc (Sc.int IntKind.i64 h_29_1)), C.d (D.sc (Sc.int IntKind.i64 h_29_2)), C.d (D.sc (Sc.int IntKind.i64 h_29_3)),
        C.d (D.sc (Sc.int IntKind.i64 h_29_4)), C.d (D.sl none false ET.run h_29_5), C.d (D.sc (Sc.int IntKind.i64 h_29_6))]),
  none, none, none, none, none, none, none, none, none, none, none, none, none, none, none, none,
  some
    (Blk.box 71
      [C.d (D.sl none false ET.step h_46_0), C.d (D.sc (Sc.int IntKind.i64 h_46_1)), C.d (D.sc (Sc.int IntKind.i64 h_46_2)), C.d (D.sc (Sc.int IntKind.i64 h_46_3)),
        C.d (D.sc (Sc.int IntKind.i64 h_46_4)), C.d (D.sl none false ET.run h_46_5), C.d (D.sc (Sc.int IntKind.i64 h_46_6))]),
  none, none, none, none, none, none, none, none, none, none, none, none, none, none, none, none, none, none, none, none, none, none, none, none, none, none, none, none, none,
  none, none, none, none, none, none, none, none, none, none, none, none, none], 0⟩)
  | 1 => (Ex.exit 2, ⟨[V.any, V.v false [C.d (D.sl t_1_0n t_1_0f ET.evt t_1_0)], V.any, V.any, V.any, V.any, V.any, V.any, V.any, V.v false [C.ptr 29 0],
  V.v false [C.d (D.sc (Sc.int IntKind.i64 t_10_0))], V.v false [C.ptr 46 0], V.any, V.any, V.any, V.any, V.any, V.any, V.any, V.any, V.any, V.any, V.any, V.any, V.any, V.any,
  V.any, V.any, V.any, V.any, V.any, V.any, V.any, V.any, V.any, V.any, V.any, V.any, V.any, V.any, V.any, V.any, V.any, V.any, V.any, V.any, V.any, V.any, V.any, V.any, V.any,
  V.any, V.any, V.any, V.any, V.any, V.any, V.any, V.any, V.any, V.any, V.any, V.any, V.any, V.any, V.any, V.any, V.any, V.any, V.any, V.any, V.any, V.any, V.any, V.any, V.any,
  V.any, V.any, V.any, V.any, V.any, V.any, V.any, V.any, V.any, V.any, V.any, V.any, V.any, V.any, V.any, V.any, V.any, V.any, V.any, V.any, V.any, V.any, V.any, V.any, V.any,
  V.any, V.any, V.any, V.any, V.any, V.any, V.any, V.any, V.any, V.any, V.any, V.any, V.any, V.any, V.any, V.any, V.any, V.any, V.any, V.any, V.any, V.any, V.any, V.any, V.any,
  V.any, V.any, V.any, V.any, V.any, V.any, V.any, V.any, V.any, V.any, V.any, V.any, V.any, V.any, V.any, V.any, V.any, V.any, V.any, V.any, V.any, V.any, V.any], [some
    (Blk.box 45
      [C.d (D.sl h_0_0n h_0_0f ET.step h_0_0), C.d (D.sc (Sc.int IntKind.i64 h_0_1)), C.d (D.sc (Sc.int IntKind.i64 h_0_2)), C.d (D.sc (Sc.int IntKind.i64 h_0_3)),
        C.d (D.sc (Sc.int IntKind.i64 h_0_4))]),
  none, none, none, none, none, none, none, none, none, none, none, none, none, none, none, none, none, none, none, none, none, none, none, none, none, none, none, none,
  some
    (Blk.box 71
      [C.d (D.sl none false ET.step h_29_0), C.d (D.sc (Sc.int IntKind.i64 h_29_1)), C.d (D.sc (Sc.int IntKind.i64 h_29_2)), C.d (D.sc (Sc.int IntKind.i64 h_29_3)),
        C.d (D.sc (Sc.int IntKind.i64 h_29_4)), C.d (D.sl none false ET.run h_29_5), C.d (D.sc (Sc.int IntKind.i64 h_29_6))]),
  none, none, none, none, none, none, none, none, none, none, none, none, none, none, none, none,
  some
    (Blk.box 71
      [C.d (D.sl none false ET.step h_46_0), C.d (D.sc (Sc.int IntKind.i64 h_46_1)), C.d (D.sc (Sc.int IntKind.i64 h_46_2)), C.d (D.sc (Sc.int IntKind.i64 h_46_3)),
        C.d (D.sc (Sc.int IntKind.i64 h_46_4)), C.d (D.sl none false ET.run h_46_5), C.d (D.sc (Sc.int IntKind.i64 h_46_6))]),
  none, none, none, none, none, none, none], 0⟩)
  | _ => (.ret, ⟨[], [], 0⟩)
noncomputable def T1_law13_MatchOrder_13 : V → V → V → V → V → V → Option Blk → Option Blk → Option Blk → Tree
  | V.v false [C.d (D.sl t_1_0n t_1_0f ET.evt t_1_0)], V.v false [C.ptr 29 0], V.v false [C.d (D.sc (Sc.int IntKind.i64 t_10_0))], V.v false [C.ptr 46 0], V.v false [C.d (D.sl none false ET.mat t_12_0)], V.v false [C.d (D.sc (Sc.int IntKind.i64 t_13_0))], some (Blk.box 45 [C.d (D.sl h_0_0n h_0_0f ET.step h_0_0), C.d (D.sc (Sc.int IntKind.i64 h_0_1)), C.d (D.sc (Sc.int IntKind.i64 h_0_2)), C.d (D.sc (Sc.int IntKind.i64 h_0_3)), C.d (D.sc (Sc.int IntKind.i64 h_0_4))]), some (Blk.box 71 [C.d (D.sl none false ET.step h_29_0), C.d (D.sc (Sc.int IntKind.i64 h_29_1)), C.d (D.sc (Sc.int IntKind.i64 h_29_2)), C.d (D.sc (Sc.int IntKind.i64 h_29_3)), C.d (D.sc (Sc.int IntKind.i64 h_29_4)), C.d (D.sl none false ET.run h_29_5), C.d (D.sc (Sc.int IntKind.i64 h_29_6))]), some (Blk.box 71 [C.d (D.sl none false ET.step h_46_0), C.d (D.sc (Sc.int IntKind.i64 h_46_1)), C.d (D.sc (Sc.int IntKind.i64 h_46_2)), C.d (D.sc (Sc.int IntKind.i64 h_46_3)), C.d (D.sc (Sc.int IntKind.i64 h_46_4)), C.d (D.sl none false ET.run h_46_5), C.d (D.sc (Sc.int IntKind.i64 h_46_6))]) => exT (fun j => ex_law13_MatchOrder_13 t_1_0n t_1_0f t_1_0 t_10_0 t_12_0 h_0_0n h_0_0f h_0_0 h_0_1 h_0_2 h_0_3 h_0_4 h_29_0 h_29_1 h_29_2 h_29_3 h_29_4 h_29_5 h_29_6 h_46_0 h_46_1 h_46_2 h_46_3 h_46_4 h_46_5 h_46_6 j (S.law13_MatchOrder_13_v t_10_0 t_12_0 ⟨t_13_0⟩)) (S.law13_MatchOrder_13_j t_10_0 t_12_0 ⟨t_13_0⟩) [0, 1]
  | _, _, _, _, _, _, _, _, _ => .bad
noncomputable def T_law13_MatchOrder_13 (st : St) : Tree := bif okSt 149 50 0 [0, 29, 46] st then T1_law13_MatchOrder_13 (st.env.getD 1 .any) (st.env.getD 9 .any) (st.env.getD 10 .any) (st.env.getD 11 .any) (st.env.getD 12 .any) (st.env.getD 13 .any) (lk st.heap 0) (lk st.heap 29) (lk st.heap 46) else .bad
noncomputable def b_law13_MatchOrder_13 : Code := loopBy Try.f16 13
theorem rnd_law13_MatchOrder_13 (t_1_0n : Option Bool) (t_1_0f : Bool) (t_1_0 : List (Ty ET.evt)) (t_10_0 : Int) (t_12_0 : List (Ty ET.mat)) (h_0_0n : Option Bool) (h_0_0f : Bool) (h_0_0 : List (Ty ET.step)) (h_0_1 : Int) (h_0_2 : Int) (h_0_3 : Int) (h_0_4 : Int) (h_29_0 : List (Ty ET.step)) (h_29_1 : Int) (h_29_2 : Int) (h_29_3 : Int) (h_29_4 : Int) (h_29_5 : List (Ty ET.run)) (h_29_6 : Int) (h_46_0 : List (Ty ET.step)) (h_46_1 : Int) (h_46_2 : Int) (h_46_3 : Int) (h_46_4 : Int) (h_46_5 : List (Ty ET.run)) (h_46_6 : Int) (v : S.law13_MatchOrder_13_V) : round2 cx_law13_MatchOrder (hdI cx_law13_MatchOrder (find []) [] none 0) 16 b_law13_MatchOrder_13 [] 50 [1, 4, 9, 10, 11] (mk_law13_MatchOrder_13 t_1_0n t_1_0f t_1_0 t_10_0 t_12_0 h_0_0n h_0_0f h_0_0 h_0_1 h_0_2 h_0_3 h_0_4 h_29_0 h_29_1 h_29_2 h_29_3 h_29_4 h_29_5 h_29_6 h_46_0 h_46_1 h_46_2 h_46_3 h_46_4 h_46_5 h_46_6 v) = (S.law13_MatchOrder_13_R t_10_0 t_12_0 v).go (roundOut (mk_law13_MatchOrder_13 t_1_0n t_1_0f t_1_0 t_10_0 t_12_0 h_0_0n h_0_0f h_0_0 h_0_1 h_0_2 h_0_3 h_0_4 h_29_0 h_29_1 h_29_2 h_29_3 h_29_4 h_29_5 h_29_6 h_46_0 h_46_1 h_46_2 h_46_3 h_46_4 h_46_5 h_46_6) (ex_law13_MatchOrder_13 t_1_0n t_1_0f t_1_0 t_10_0 t_12_0 h_0_0n h_0_0f h_0_0 h_0_1 h_0_2 h_0_3 h_0_4 h_29_0 h_29_1 h_29_2 h_29_3 h_29_4 h_29_5 h_29_6 h_46_0 h_46_1 h_46_2 h_46_3 h_46_4 h_46_5 h_46_6)) := by kernel_rfl
theorem bs_law13_MatchOrder_13 : loopsOf b_law13_MatchOrder_13 ++ loopsInl [] = [] := by kernel_rfl
theorem ci_law13_MatchOrder_13 (t_1_0n : Option Bool) (t_1_0f : Bool) (t_1_0 : List (Ty ET.evt)) (t_10_0 : Int) (t_12_0 : List (Ty ET.mat)) (h_0_0n : Option Bool) (h_0_0f : Bool) (h_0_0 : List (Ty ET.step)) (h_0_1 : Int) (h_0_2 : Int) (h_0_3 : Int) (h_0_4 : Int) (h_29_0 : List (Ty ET.step)) (h_29_1 : Int) (h_29_2 : Int) (h_29_3 : Int) (h_29_4 : Int) (h_29_5 : List (Ty ET.run)) (h_29_6 : Int) (h_46_0 : List (Ty ET.step)) (h_46_1 : Int) (h_46_2 : Int) (h_46_3 : Int) (h_46_4 : Int) (h_46_5 : List (Ty ET.run)) (h_46_6 : Int) : ∀ v j v2, Lp (S.law13_MatchOrder_13_r t_10_0 t_12_0) v = some (j, v2) → Circles Try.prog cx_law13_MatchOrder b_law13_MatchOrder_13 (mk_law13_MatchOrder_13 t_1_0n t_1_0f t_1_0 t_10_0 t_12_0 h_0_0n h_0_0f h_0_0 h_0_1 h_0_2 h_0_3 h_0_4 h_29_0 h_29_1 h_29_2 h_29_3 h_29_4 h_29_5 h_29_6 h_46_0 h_46_1 h_46_2 h_46_3 h_46_4 h_46_5 h_46_6 v) (ex_law13_MatchOrder_13 t_1_0n t_1_0f t_1_0 t_10_0 t_12_0 h_0_0n h_0_0f h_0_0 h_0_1 h_0_2 h_0_3 h_0_4 h_29_0 h_29_1 h_29_2 h_29_3 h_29_4 h_29_5 h_29_6 h_46_0 h_46_1 h_46_2 h_46_3 h_46_4 h_46_5 h_46_6 j v2).1 (ex_law13_MatchOrder_13 t_1_0n t_1_0f t_1_0 t_10_0 t_12_0 h_0_0n h_0_0f h_0_0 h_0_1 h_0_2 h_0_3 h_0_4 h_29_0 h_29_1 h_29_2 h_29_3 h_29_4 h_29_5 h_29_6 h_46_0 h_46_1 h_46_2 h_46_3 h_46_4 h_46_5 h_46_6 j v2).2 :=
  loop_ok2 (L := find []) (n := 0) (hints := [(16, 18, { keep := [1, 9, 10, 11, 14], acc := [] }), (16, 13, { keep := [1, 9, 10, 11, 12, 13], acc := [] }), (16, 9, { keep := [1, 9, 10], acc := [] })]) (cx_ok rfl) rdy_law13_MatchOrder bs_law13_MatchOrder_13 nilB (fun v => (rnd_law13_MatchOrder_13 t_1_0n t_1_0f t_1_0 t_10_0 t_12_0 h_0_0n h_0_0f h_0_0 h_0_1 h_0_2 h_0_3 h_0_4 h_29_0 h_29_1 h_29_2 h_29_3 h_29_4 h_29_5 h_29_6 h_46_0 h_46_1 h_46_2 h_46_3 h_46_4 h_46_5 h_46_6 v).trans (DT.go_run _ _)) (by intro j v; unfold ex_law13_MatchOrder_13; split <;> rfl)
theorem mke_law13_MatchOrder_13 (t_1_0n : Option Bool) (t_1_0f : Bool) (t_1_0 : List (Ty ET.evt)) (t_10_0 : Int) (t_12_0 : List (Ty ET.mat)) (h_0_0n : Option Bool) (h_0_0f : Bool) (h_0_0 : List (Ty ET.step)) (h_0_1 : Int) (h_0_2 : Int) (h_0_3 : Int) (h_0_4 : Int) (h_29_0 : List (Ty ET.step)) (h_29_1 : Int) (h_29_2 : Int) (h_29_3 : Int) (h_29_4 : Int) (h_29_5 : List (Ty ET.run)) (h_29_6 : Int) (h_46_0 : List (Ty ET.step)) (h_46_1 : Int) (h_46_2 : Int) (h_46_3 : Int) (h_46_4 : Int) (h_46_5 : List (Ty ET.run)) (h_46_6 : Int) (v : S.law13_MatchOrder_13_V) : mk_law13_MatchOrder_13 t_1_0n t_1_0f t_1_0 t_10_0 t_12_0 h_0_0n h_0_0f h_0_0 h_0_1 h_0_2 h_0_3 h_0_4 h_29_0 h_29_1 h_29_2 h_29_3 h_29_4 h_29_5 h_29_6 h_46_0 h_46_1 h_46_2 h_46_3 h_46_4 h_46_5 h_46_6 v = ⟨envOf 149 [(1, V.v false [C.d (D.sl t_1_0n t_1_0f ET.evt t_1_0)]), (9, V.v false [C.ptr 29 0]), (10, V.v false [C.d (D.sc (Sc.int IntKind.i64 t_10_0))]), (11, V.v false [C.ptr 46 0]), (12, V.v false [C.d (D.sl none false ET.mat t_12_0)]), (13, V.v false [C.d (D.sc (Sc.int IntKind.i64 v.t_13_0))])], heapOf 50 [(0, some
  (Blk.box 45
    [C.d (D.sl h_0_0n h_0_0f ET.step h_0_0), C.d (D.sc (Sc.int IntKind.i64 h_0_1)), C.d (D.sc (Sc.int IntKind.i64 h_0_2)), C.d (D.sc (Sc.int IntKind.i64 h_0_3)),
      C.d (D.sc (Sc.int IntKind.i64 h_0_4))])), (29, some
  (Blk.box 71
    [C.d (D.sl none false ET.step h_29_0), C.d (D.sc (Sc.int IntKind.i64 h_29_1)), C.d (D.sc (Sc.int IntKind.i64 h_29_2)), C.d (D.sc (Sc.int IntKind.i64 h_29_3)),
      C.d (D.sc (Sc.int IntKind.i64 h_29_4)), C.d (D.sl none false ET.run h_29_5), C.d (D.sc (Sc.int IntKind.i64 h_29_6))])), (46, some
  (Blk.box 71
    [C.d (D.sl none false ET.step h_46_0), C.d (D.sc (Sc.int IntKind.i64 h_46_1)), C.d (D.sc (Sc.int IntKind.i64 h_46_2)), C.d (D.sc (Sc.int IntKind.i64 h_46_3)),
      C.d (D.sc (Sc.int IntKind.i64 h_46_4)), C.d (D.sl none false ET.run h_46_5), C.d (D.sc (Sc.int IntKind.i64 h_46_6))]))], 0⟩ := by kernel_rfl
theorem lo1_law13_MatchOrder_13 (e1 : V) (e9 : V) (e10 : V) (e11 : V) (e12 : V) (e13 : V) (h0 : Option Blk) (h29 : Option Blk) (h46 : Option Blk) e st2 (h : (T1_law13_MatchOrder_13 e1 e9 e10 e11 e12 e13 h0 h29 h46).eval = some (e, st2)) : Circles Try.prog cx_law13_MatchOrder b_law13_MatchOrder_13 ⟨envOf 149 [(1, e1), (9, e9), (10, e10), (11, e11), (12, e12), (13, e13)], heapOf 50 [(0, h0), (29, h29), (46, h46)], 0⟩ e st2 := by
  unfold T1_law13_MatchOrder_13 at h
  split at h
  · have := loop_tree (mk := mk_law13_MatchOrder_13 _ _ _ _ _ _ _ _ _ _ _ _ _ _ _ _ _ _ _ _ _ _ _ _ _ _) (ci_law13_MatchOrder_13 _ _ _ _ _ _ _ _ _ _ _ _ _ _ _ _ _ _ _ _ _ _ _ _ _ _) _ _ e st2 h
    rw [mke_law13_MatchOrder_13] at this
    exact this
  · cases h
theorem lok_law13_MatchOrder_13 : LoopOk Try.prog cx_law13_MatchOrder b_law13_MatchOrder_13 T_law13_MatchOrder_13 := by
  intro st e st2 h
  unfold T_law13_MatchOrder_13 at h
  cases hk : okSt 149 50 0 [0, 29, 46] st with
  | false => rw [hk] at h; cases h
  | true =>
    rw [hk] at h
    exact circles_keep (ks := [1, 9, 10, 11, 12, 13]) hk (lo1_law13_MatchOrder_13 _ _ _ _ _ _ _ _ _ e st2 h)
structure S.law13_MatchOrder_18_V where
  t_14_0 : Int
noncomputable def S.law13_MatchOrder_18_R (t_10_0 : Int) (h_46_5 : List (Ty ET.run)) (v : S.law13_MatchOrder_18_V) : DT (Option Nat × S.law13_MatchOrder_18_V) :=
let y0 : Int := (↑h_46_5.length : Int)
let y1 : Bool := xdec (v.t_14_0 < y0)
let y2 : Bool := xdec (0 ≤ v.t_14_0) && y1
let y3 : Int := xwrap IntKind.i64 (v.t_14_0 - 1)
let y4 : Int := (h_46_5.getD v.t_14_0.toNat (dflt ET.run)).first
let y5 : Bool := xdec (y4 > t_10_0)
let y6 : Bool := xeqI y4 t_10_0
let y7 : Bool := xneI v.t_14_0 (xwrap IntKind.i64 (y0 - 1))
let y8 : Int := xwrap IntKind.i64 (v.t_14_0 + 1)
(.br (y1)
(.br (xdec (v.t_14_0 > 0))
(.br (y2)
(.br (xdec (0 ≤ y3) && xdec (y3 < y0))
(.br (xdec (y4 ≤ (h_46_5.getD y3.toNat (dflt ET.run)).first))
(.leaf (some 0, v))
(.br (y2)
(.br (y5)
(.leaf (some 0, v))
(.br (y2)
(.br (y6)
(.br (y7)
(.leaf (some 0, v))
(.leaf (none, ⟨y8⟩)))
(.leaf (none, ⟨y8⟩)))
.fail))
.fail))
.fail)
.fail)
(.br (y2)
(.br (y5)
(.leaf (some 0, v))
(.br (y2)
(.br (y6)
(.br (y7)
(.leaf (some 0, v))
(.leaf (none, ⟨y8⟩)))
(.leaf (none, ⟨y8⟩)))
.fail))
.fail))
(.leaf (some 1, v)))
noncomputable def S.law13_MatchOrder_18_r (t_10_0 : Int) (h_46_5 : List (Ty ET.run)) (v : S.law13_MatchOrder_18_V) : Option (Option Nat × S.law13_MatchOrder_18_V) := (S.law13_MatchOrder_18_R t_10_0 h_46_5 v).run
noncomputable def S.law13_MatchOrder_18_j (t_10_0 : Int) (h_46_5 : List (Ty ET.run)) (v : S.law13_MatchOrder_18_V) (j : Nat) : Bool := Lp_j (S.law13_MatchOrder_18_r t_10_0 h_46_5) v j
noncomputable def S.law13_MatchOrder_18_v (t_10_0 : Int) (h_46_5 : List (Ty ET.run)) (v : S.law13_MatchOrder_18_V) : S.law13_MatchOrder_18_V := Lp_v (S.law13_MatchOrder_18_r t_10_0 h_46_5) v
noncomputable def mk_law13_MatchOrder_18 (t_1_0n : Option Bool) (t_1_0f : Bool) (t_1_0 : List (Ty ET.evt)) (t_10_0 : Int) (h_0_0n : Option Bool) (h_0_0f : Bool) (h_0_0 : List (Ty ET.step)) (h_0_1 : Int) (h_0_2 : Int) (h_0_3 : Int) (h_0_4 : Int) (h_29_0 : List (Ty ET.step)) (h_29_1 : Int) (h_29_2 : Int) (h_29_3 : Int) (h_29_4 : Int) (h_29_5 : List (Ty ET.run)) (h_29_6 : Int) (h_46_0 : List (Ty ET.step)) (h_46_1 : Int) (h_46_2 : Int) (h_46_3 : Int) (h_46_4 : Int) (h_46_5 : List (Ty ET.run)) (h_46_6 : Int) (v : S.law13_MatchOrder_18_V) : St := ⟨[V.any, V.v false [C.d (D.sl t_1_0n t_1_0f ET.evt t_1_0)], V.any, V.any, V.any, V.any, V.any, V.any, V.any, V.v false [C.ptr 29 0],
  V.v false [C.d (D.sc (Sc.int IntKind.i64 t_10_0))], V.v false [C.ptr 46 0], V.any, V.any, V.v false [C.d (D.sc (Sc.int IntKind.i64 v.t_14_0))], V.any, V.any, V.any, V.any, V.any,
  V.any, V.any, V.any, V.any, V.any, V.any, V.any, V.any, V.any, V.any, V.any, V.any, V.any, V.any, V.any, V.any, V.any, V.any, V.any, V.any, V.any, V.any, V.any, V.any, V.any,
  V.any, V.any, V.any, V.any, V.any, V.any, V.any, V.any, V.any, V.any, V.any, V.any, V.any, V.any, V.any, V.any, V.any, V.any, V.any, V.any, V.any, V.any, V.any, V.any, V.any,
  V.any, V.any, V.any, V.any, V.any, V.any, V.any, V.any, V.any, V.any, V.any, V.any, V.any, V.any, V.any, V.any, V.any, V.any, V.any, V.any, V.any, V.any, V.any, V.any, V.any,
  V.any, V.any, V.any, V.any, V.any, V.any, V.any, V.any, V.any, V.any, V.any, V.any, V.any, V.any, V.any, V.any, V.any, V.any, V.any, V.any, V.any, V.any, V.any, V.any, V.any,
  V.any, V.any, V.any, V.any, V.any, V.any, V.any, V.any, V.any, V.any, V.any, V.any, V.any, V.any, V.any, V.any, V.any, V.any, V.any, V.any, V.any, V.any, V.any, V.any, V.any,
  V.any, V.any, V.any, V.any], [some
    (Blk.box 45
      [C.d (D.sl h_0_0n h_0_0f ET.step h_0_0), C.d (D.sc (Sc.int IntKind.i64 h_0_1)), C.d (D.sc (Sc.int IntKind.i64 h_0_2)), C.d (D.sc (Sc.int IntKind.i64 h_0_3)),
        C.d (D.sc (Sc.int IntKind.i64 h_0_4))]),
  none, none, none, none, none, none, none, none, none, none, none, none, none, none, none, none, none, none, none, none, none, none, none, none, none, none, none, none,
  some
    (Blk.box 71
      [C.d (D.sl none false ET.step h_29_0), C.d (D.sc (Sc.int IntKind.i64 h_29_1)), C.d (D.sc (Sc.int IntKind.i64 h_29_2)), C.d (D.sc (Sc.int IntKind.i64 h_29_3)),
        C.d (D.sc (Sc.int IntKind.i64 h_29_4)), C.d (D.sl none false ET.run h_29_5), C.d (D.sc (Sc.int IntKind.i64 h_29_6))]),
  none, none, none, none, none, none, none, none, none, none, none, none, none, none, none, none,
  some
    (Blk.box 71
      [C.d (D.sl none false ET.step h_46_0), C.d (D.sc (Sc.int IntKind.i64 h_46_1)), C.d (D.sc (Sc.int IntKind.i64 h_46_2)), C.d (D.sc (Sc.int IntKind.i64 h_46_3)),
        C.d (D.sc (Sc.int IntKind.i64 h_46_4)), C.d (D.sl none false ET.run h_46_5), C.d (D.sc (Sc.int IntKind.i64 h_46_6))]),
  none, none, none, none, none, none, none, none], 0⟩
noncomputable def ex_law13_MatchOrder_18 (t_1_0n : Option Bool) (t_1_0f : Bool) (t_1_0 : List (Ty ET.evt)) (t_10_0 : Int) (h_0_0n : Option Bool) (h_0_0f : Bool) (h_0_0 : List (Ty ET.step)) (h_0_1 : Int) (h_0_2 : Int) (h_0_3 : Int) (h_0_4 : Int) (h_29_0 : List (Ty ET.step)) (h_29_1 : Int) (h_29_2 : Int) (h_29_3 : Int) (h_29_4 : Int) (h_29_5 : List (Ty ET.run)) (h_29_6 : Int) (h_46_0 : List (Ty ET.step)) (h_46_1 : Int) (h_46_2 : Int) (h_46_3 : Int) (h_46_4 : Int) (h_46_5 : List (Ty ET.run)) (h_46_6 : Int) (j : Nat) (v : S.law13_MatchOrder_18_V) : Ex × St := match j with
  | 0 => (Ex.ret, ⟨[V.any, V.v false [C.d (D.sl t_1_0n t_1_0f ET.evt t_1_0)], V.any, V.any, V.v false [C.d (D.sc (Sc.bool false))], V.any, V.any, V.any, V.any, V.v false [C.ptr 29 0],
  V.v false [C.d (D.sc (Sc.int IntKind.i64 t_10_0))], V.v false [C.ptr 46 0], V.any, V.any, V.any, V.any, V.any, V.any, V.any, V.any, V.any, V.any, V.any, V.any, V.any, V.any,
  V.any, V.any, V.any, V.any, V.any, V.any, V.any, V.any, V.any, V.any, V.any, V.any, V.any, V.any, V.any, V.any, V.any, V.any, V.any, V.any, V.any, V.any, V.any, V.any, V.any,
  V.any, V.any, V.any, V.any, V.any, V.any, V.any, V.any, V.any, V.any, V.any, V.any, V.any, V.any, V.any, V.any, V.any, V.any, V.any, V.any, V.any, V.any, V.any, V.any, V.any,
  V.any, V.any, V.any, V.any, V.any, V.any, V.any, V.any, V.any, V.any, V.any, V.any, V.any, V.any, V.any, V.any, V.any, V.any, V.any, V.any, V.any, V.any, V.any, V.any, V.any,
  V.any, V.any, V.any, V.any, V.any, V.any, V.any, V.any, V.any, V.any, V.any, V.any, V.any, V.any, V.any, V.any, V.any, V.any, V.any, V.any, V.any, V.any, V.any, V.any, V.any,
  V.any, V.any, V.any, V.any, V.any, V.any, V.any, V.any, V.any, V.any, V.any, V.any, V.any, V.any, V.any, V.any, V.any, V.any, V.any, V.any, V.any, V.any, V.any], [some
    (Blk.box 45
      [C.d (D.sl h_0_0n h_0_0f ET.step h_0_0), C.d (D.sc (Sc.int IntKind.i64 h_0_1)), C.d (D.sc (Sc.int IntKind.i64 h_0_2)), C.d (D.sc (Sc.int IntKind.i64 h_0_3)),
        C.d (D.sc (Sc.int IntKind.i64 h_0_4))]),
  none, none, none, none, none, none, none, none, none, none, none, none, none, none, none, none, none, none, none, none, none, none, none, none, none, none, none, none,
  some
    (Blk.box 71
      [C.d (D.sl none false ET.step h_29_0), C.d (D.sc (Sc.int IntKind.i64 h_29_1)), C.d (D.sc (Sc.int IntKind.i64 h_29_2)), C.d (D.sc (Sc.int IntKind.i64 h_29_3)),
        C.d (D.sc (Sc.int IntKind.i64 h_29_4)), C.d (D.sl none false ET.run h_29_5), C.d (D.sc (Sc.int IntKind.i64 h_29_6))]),
  none, none, none, none, none, none, none, none, none, none, none, none, none, none, none, none,
  some
    (Blk.box 71
      [C.d (D.sl none false ET.step h_46_0), C.d (D.sc (Sc.int IntKind.i64 h_46_1)), C.d (D.sc (Sc.int IntKind.i64 h_46_2)), C.d (D.sc (Sc.int IntKind.i64 h_46_3)),
        C.d (D.sc (Sc.int IntKind.i64 h_46_4)), C.d (D.sl none false ET.run h_46_5), C.d (D.sc (Sc.int IntKind.i64 h_46_6))]),
  none, none, none, none, none, none, none, none, none, none, none, none, none, none, none, none, none, none, none, none, none, none, none, none, none, none, none, none, none,
  none, none, none, none, none, none, none, none, none, none, none, none, none, none, none, none, none, none, none, none, none, none, none, none, none, none, none, none, none,
  none, none], 0⟩)
  | 1 => (Ex.exit 4, ⟨[V.any, V.v false [C.d (D.sl t_1_0n t_1_0f ET.evt t_1_0)], V.any, V.any, V.any, V.any, V.any, V.any, V.any, V.v false [C.ptr 29 0],
  V.v false [C.d (D.sc (Sc.int IntKind.i64 t_10_0))], V.v false [C.ptr 46 0], V.any, V.any, V.any, V.any, V.any, V.any, V.any, V.any, V.any, V.any, V.any, V.any, V.any, V.any,
  V.any, V.any, V.any, V.any, V.any, V.any, V.any, V.any, V.any, V.any, V.any, V.any, V.any, V.any, V.any, V.any, V.any, V.any, V.any, V.any, V.any, V.any, V.any, V.any, V.any,
  V.any, V.any, V.any, V.any, V.any, V.any, V.any, V.any, V.any, V.any, V.any, V.any, V.any, V.any, V.any, V.any, V.any, V.any, V.any, V.any, V.any, V.any, V.any, V.any, V.any,
  V.any, V.any, V.any, V.any, V.any, V.any, V.any, V.any, V.any, V.any, V.any, V.any, V.any, V.any, V.any, V.any, V.any, V.any, V.any, V.any, V.any, V.any, V.any, V.any, V.any,
  V.any, V.any, V.any, V.any, V.any, V.any, V.any, V.any, V.any, V.any, V.any, V.any, V.any, V.any, V.any, V.any, V.any, V.any, V.any, V.any, V.any, V.any, V.any, V.any, V.any,
  V.any, V.any, V.any, V.any, V.any, V.any, V.any, V.any, V.any, V.any, V.any, V.any, V.any, V.any, V.any, V.any, V.any, V.any, V.any, V.any, V.any, V.any, V.any], [some
    (Blk.box 45
      [C.d (D.sl h_0_0n h_0_0f ET.step h_0_0), C.d (D.sc (Sc.int IntKind.i64 h_0_1)), C.d (D.sc (Sc.int IntKind.i64 h_0_2)), C.d (D.sc (Sc.int IntKind.i64 h_0_3)),
        C.d (D.sc (Sc.int IntKind.i64 h_0_4))]),
  none, none, none, none, none, none, none, none, none, none, none, none, none, none, none, none, none, none, none, none, none, none, none, none, none, none, none, none,
  some
    (Blk.box 71
      [C.d (D.sl none false ET.step h_29_0), C.d (D.sc (Sc.int IntKind.i64 h_29_1)), C.d (D.sc (Sc.int IntKind.i64 h_29_2)), C.d (D.sc (Sc.int IntKind.i64 h_29_3)),
        C.d (D.sc (Sc.int IntKind.i64 h_29_4)), C.d (D.sl none false ET.run h_29_5), C.d (D.sc (Sc.int IntKind.i64 h_29_6))]),
  none, none, none, none, none, none, none, none, none, none, none, none, none, none, none, none,
  some
    (Blk.box 71
      [C.d (D.sl none false ET.step h_46_0), C.d (D.sc (Sc.int IntKind.i64 h_46_1)), C.d (D.sc (Sc.int IntKind.i64 h_46_2)), C.d (D.sc (Sc.int IntKind.i64 h_46_3)),
        C.d (D.sc (Sc.int IntKind.i64 h_46_4)), C.d (D.sl none false ET.run h_46_5), C.d (D.sc (Sc.int IntKind.i64 h_46_6))]),
  none, none, none, none, none, none, none, none, none, none, none, none, none], 0⟩)
  | _ => (.ret, ⟨[], [], 0⟩)
noncomputable def T1_law13_MatchOrder_18 : V → V → V → V → V → Option Blk → Option Blk → Option Blk → Tree
  | V.v false [C.d (D.sl t_1_0n t_1_0f ET.evt t_1_0)], V.v false [C.ptr 29 0], V.v false [C.d (D.sc (Sc.int IntKind.i64 t_10_0))], V.v false [C.ptr 46 0], V.v false [C.d (D.sc (Sc.int IntKind.i64 t_14_0))], some (Blk.box 45 [C.d (D.sl h_0_0n h_0_0f ET.step h_0_0), C.d (D.sc (Sc.int IntKind.i64 h_0_1)), C.d (D.sc (Sc.int IntKind.i64 h_0_2)), C.d (D.sc (Sc.int IntKind.i64 h_0_3)), C.d (D.sc (Sc.int IntKind.i64 h_0_4))]), some (Blk.box 71 [C.d (D.sl none false ET.step h_29_0), C.d (D.sc (Sc.int IntKind.i64 h_29_1)), C.d (D.sc (Sc.int IntKind.i64 h_29_2)), C.d (D.sc (Sc.int IntKind.i64 h_29_3)), C.d (D.sc (Sc.int IntKind.i64 h_29_4)), C.d (D.sl none false ET.run h_29_5), C.d (D.sc (Sc.int IntKind.i64 h_29_6))]), some (Blk.box 71 [C.d (D.sl none false ET.step h_46_0), C.d (D.sc (Sc.int IntKind.i64 h_46_1)), C.d (D.sc (Sc.int IntKind.i64 h_46_2)), C.d (D.sc (Sc.int IntKind.i64 h_46_3)), C.d (D.sc (Sc.int IntKind.i64 h_46_4)), C.d (D.sl none false ET.run h_46_5), C.d (D.sc (Sc.int IntKind.i64 h_46_6))]) => exT (fun j => ex_law13_MatchOrder_18 t_1_0n t_1_0f t_1_0 t_10_0 h_0_0n h_0_0f h_0_0 h_0_1 h_0_2 h_0_3 h_0_4 h_29_0 h_29_1 h_29_2 h_29_3 h_29_4 h_29_5 h_29_6 h_46_0 h_46_1 h_46_2 h_46_3 h_46_4 h_46_5 h_46_6 j (S.law13_MatchOrder_18_v t_10_0 h_46_5 ⟨t_14_0⟩)) (S.law13_MatchOrder_18_j t_10_0 h_46_5 ⟨t_14_0⟩) [0, 1]
  | _, _, _, _, _, _, _, _ => .bad
noncomputable def T_law13_MatchOrder_18 (st : St) : Tree := bif okSt 149 55 0 [0, 29, 46] st then T1_law13_MatchOrder_18 (st.env.getD 1 .any) (st.env.getD 9 .any) (st.env.getD 10 .any) (st.env.getD 11 .any) (st.env.getD 14 .any) (lk st.heap 0) (lk st.heap 29) (lk st.heap 46) else .bad
noncomputable def b_law13_MatchOrder_18 : Code := loopBy Try.f16 18
theorem rnd_law13_MatchOrder_18 (t_1_0n : Option Bool) (t_1_0f : Bool) (t_1_0 : List (Ty ET.evt)) (t_10_0 : Int) (h_0_0n : Option Bool) (h_0_0f : Bool) (h_0_0 : List (Ty ET.step)) (h_0_1 : Int) (h_0_2 : Int) (h_0_3 : Int) (h_0_4 : Int) (h_29_0 : List (Ty ET.step)) (h_29_1 : Int) (h_29_2 : Int) (h_29_3 : Int) (h_29_4 : Int) (h_29_5 : List (Ty ET.run)) (h_29_6 : Int) (h_46_0 : List (Ty ET.step)) (h_46_1 : Int) (h_46_2 : Int) (h_46_3 : Int) (h_46_4 : Int) (h_46_5 : List (Ty ET.run)) (h_46_6 : Int) (v : S.law13_MatchOrder_18_V) : round2 cx_law13_MatchOrder (hdI cx_law13_MatchOrder (find [(13, T_law13_MatchOrder_13)]) [] none 0) 16 b_law13_MatchOrder_18 [] 55 [1, 4, 9, 10, 11] (mk_law13_MatchOrder_18 t_1_0n t_1_0f t_1_0 t_10_0 h_0_0n h_0_0f h_0_0 h_0_1 h_0_2 h_0_3 h_0_4 h_29_0 h_29_1 h_29_2 h_29_3 h_29_4 h_29_5 h_29_6 h_46_0 h_46_1 h_46_2 h_46_3 h_46_4 h_46_5 h_46_6 v) = (S.law13_MatchOrder_18_R t_10_0 h_46_5 v).go (roundOut (mk_law13_MatchOrder_18 t_1_0n t_1_0f t_1_0 t_10_0 h_0_0n h_0_0f h_0_0 h_0_1 h_0_2 h_0_3 h_0_4 h_29_0 h_29_1 h_29_2 h_29_3 h_29_4 h_29_5 h_29_6 h_46_0 h_46_1 h_46_2 h_46_3 h_46_4 h_46_5 h_46_6) (ex_law13_MatchOrder_18 t_1_0n t_1_0f t_1_0 t_10_0 h_0_0n h_0_0f h_0_0 h_0_1 h_0_2 h_0_3 h_0_4 h_29_0 h_29_1 h_29_2 h_29_3 h_29_4 h_29_5 h_29_6 h_46_0 h_46_1 h_46_2 h_46_3 h_46_4 h_46_5 h_46_6)) := by kernel_rfl
theorem bs_law13_MatchOrder_18 : loopsOf b_law13_MatchOrder_18 ++ loopsInl [] = [] := by kernel_rfl
theorem ci_law13_MatchOrder_18 (t_1_0n : Option Bool) (t_1_0f : Bool) (t_1_0 : List (Ty ET.evt)) (t_10_0 : Int) (h_0_0n : Option Bool) (h_0_0f : Bool) (h_0_0 : List (Ty ET.step)) (h_0_1 : Int) (h_0_2 : Int) (h_0_3 : Int) (h_0_4 : Int) (h_29_0 : List (Ty ET.step)) (h_29_1 : Int) (h_29_2 : Int) (h_29_3 : Int) (h_29_4 : Int) (h_29_5 : List (Ty ET.run)) (h_29_6 : Int) (h_46_0 : List (Ty ET.step)) (h_46_1 : Int) (h_46_2 : Int) (h_46_3 : Int) (h_46_4 : Int) (h_46_5 : List (Ty ET.run)) (h_46_6 : Int) : ∀ v j v2, Lp (S.law13_MatchOrder_18_r t_10_0 h_46_5) v = some (j, v2) → Circles Try.prog cx_law13_MatchOrder b_law13_MatchOrder_18 (mk_law13_MatchOrder_18 t_1_0n t_1_0f t_1_0 t_10_0 h_0_0n h_0_0f h_0_0 h_0_1 h_0_2 h_0_3 h_0_4 h_29_0 h_29_1 h_29_2 h_29_3 h_29_4 h_29_5 h_29_6 h_46_0 h_46_1 h_46_2 h_46_3 h_46_4 h_46_5 h_46_6 v) (ex_law13_MatchOrder_18 t_1_0n t_1_0f t_1_0 t_10_0 h_0_0n h_0_0f h_0_0 h_0_1 h_0_2 h_0_3 h_0_4 h_29_0 h_29_1 h_29_2 h_29_3 h_29_4 h_29_5 h_29_6 h_46_0 h_46_1 h_46_2 h_46_3 h_46_4 h_46_5 h_46_6 j v2).1 (ex_law13_MatchOrder_18 t_1_0n t_1_0f t_1_0 t_10_0 h_0_0n h_0_0f h_0_0 h_0_1 h_0_2 h_0_3 h_0_4 h_29_0 h_29_1 h_29_2 h_29_3 h_29_4 h_29_5 h_29_6 h_46_0 h_46_1 h_46_2 h_46_3 h_46_4 h_46_5 h_46_6 j v2).2 :=
  loop_ok2 (L := find [(13, T_law13_MatchOrder_13)]) (n := 0) (hints := [(16, 18, { keep := [1, 9, 10, 11, 14], acc := [] }), (16, 13, { keep := [1, 9, 10, 11, 12, 13], acc := [] }), (16, 9, { keep := [1, 9, 10], acc := [] })]) (cx_ok rfl) rdy_law13_MatchOrder bs_law13_MatchOrder_18 nilB (fun v => (rnd_law13_MatchOrder_18 t_1_0n t_1_0f t_1_0 t_10_0 h_0_0n h_0_0f h_0_0 h_0_1 h_0_2 h_0_3 h_0_4 h_29_0 h_29_1 h_29_2 h_29_3 h_29_4 h_29_5 h_29_6 h_46_0 h_46_1 h_46_2 h_46_3 h_46_4 h_46_5 h_46_6 v).trans (DT.go_run _ _)) (by intro j v; unfold ex_law13_MatchOrder_18; split <;> rfl)
theorem mke_law13_MatchOrder_18 (t_1_0n : Option Bool) (t_1_0f : Bool) (t_1_0 : List (Ty ET.evt)) (t_10_0 : Int) (h_0_0n : Option Bool) (h_0_0f : Bool) (h_0_0 : List (Ty ET.step)) (h_0_1 : Int) (h_0_2 : Int) (h_0_3 : Int) (h_0_4 : Int) (h_29_0 : List (Ty ET.step)) (h_29_1 : Int) (h_29_2 : Int) (h_29_3 : Int) (h_29_4 : Int) (h_29_5 : List (Ty ET.run)) (h_29_6 : Int) (h_46_0 : List (Ty ET.step)) (h_46_1 : Int) (h_46_2 : Int) (h_46_3 : Int) (h_46_4 : Int) (h_46_5 : List (Ty ET.run)) (h_46_6 : Int) (v : S.law13_MatchOrder_18_V) : mk_law13_MatchOrder_18 t_1_0n t_1_0f t_1_0 t_10_0 h_0_0n h_0_0f h_0_0 h_0_1 h_0_2 h_0_3 h_0_4 h_29_0 h_29_1 h_29_2 h_29_3 h_29_4 h_29_5 h_29_6 h_46_0 h_46_1 h_46_2 h_46_3 h_46_4 h_46_5 h_46_6 v = ⟨envOf 149 [(1, V.v false [C.d (D.sl t_1_0n t_1_0f ET.evt t_1_0)]), (9, V.v false [C.ptr 29 0]), (10, V.v false [C.d (D.sc (Sc.int IntKind.i64 t_10_0))]), (11, V.v false [C.ptr 46 0]), (14, V.v false [C.d (D.sc (Sc.int IntKind.i64 v.t_14_0))])], heapOf 55 [(0, some
  (Blk.box 45
    [C.d (D.sl h_0_0n h_0_0f ET.step h_0_0), C.d (D.sc (Sc.int IntKind.i64 h_0_1)), C.d (D.sc (Sc.int IntKind.i64 h_0_2)), C.d (D.sc (Sc.int IntKind.i64 h_0_3)),
      C.d (D.sc (Sc.int IntKind.i64 h_0_4))])), (29, some
  (Blk.box 71
    [C.d (D.sl none false ET.step h_29_0), C.d (D.sc (Sc.int IntKind.i64 h_29_1)), C.d (D.sc (Sc.int IntKind.i64 h_29_2)), C.d (D.sc (Sc.int IntKind.i64 h_29_3)),
      C.d (D.sc (Sc.int IntKind.i64 h_29_4)), C.d (D.sl none false ET.run h_29_5), C.d (D.sc (Sc.int IntKind.i64 h_29_6))])), (46, some
  (Blk.box 71
    [C.d (D.sl none false ET.step h_46_0), C.d (D.sc (Sc.int IntKind.i64 h_46_1)), C.d (D.sc (Sc.int IntKind.i64 h_46_2)), C.d (D.sc (Sc.int IntKind.i64 h_46_3)),
      C.d (D.sc (Sc.int IntKind.i64 h_46_4)), C.d (D.sl none false ET.run h_46_5), C.d (D.sc (Sc.int IntKind.i64 h_46_6))]))], 0⟩ := by kernel_rfl
theorem lo1_law13_MatchOrder_18 (e1 : V) (e9 : V) (e10 : V) (e11 : V) (e14 : V) (h0 : Option Blk) (h29 : Option Blk) (h46 : Option Blk) e st2 (h : (T1_law13_MatchOrder_18 e1 e9 e10 e11 e14 h0 h29 h46).eval = some (e, st2)) : Circles Try.prog cx_law13_MatchOrder b_law13_MatchOrder_18 ⟨envOf 149 [(1, e1), (9, e9), (10, e10), (11, e11), (14, e14)], heapOf 55 [(0, h0), (29, h29), (46, h46)], 0⟩ e st2 := by
  unfold T1_law13_MatchOrder_18 at h
  split at h
  · have := loop_tree (mk := mk_law13_MatchOrder_18 _ _ _ _ _ _ _ _ _ _ _ _ _ _ _ _ _ _ _ _ _ _ _ _ _) (ci_law13_MatchOrder_18 _ _ _ _ _ _ _ _ _ _ _ _ _ _ _ _ _ _ _ _ _ _ _ _ _) _ _ e st2 h
    rw [mke_law13_MatchOrder_18] at this
    exact this
  · cases h
theorem lok_law13_MatchOrder_18 : LoopOk Try.prog cx_law13_MatchOrder b_law13_MatchOrder_18 T_law13_MatchOrder_18 := by
  intro st e st2 h
  unfold T_law13_MatchOrder_18 at h
  cases hk : okSt 149 55 0 [0, 29, 46] st with
  | false => rw [hk] at h; cases h
  | true =>
    rw [hk] at h
    exact circles_keep (ks := [1, 9, 10, 11, 14]) hk (lo1_law13_MatchOrder_18 _ _ _ _ _ _ _ _ e st2 h)
structure S.law13_MatchOrder_9_V where
  t_10_0 : Int
  h_29_0 : List (Ty ET.step)
  h_29_1 : Int
  h_29_2 : Int
  h_29_3 : Int
  h_29_4 : Int
  h_29_5 : List (Ty ET.run)
  h_29_6 : Int
noncomputable def S.law13_MatchOrder_9_R (t_1_0 : List (Ty ET.evt)) (v : S.law13_MatchOrder_9_V) : DT (Option Nat × S.law13_MatchOrder_9_V) :=
let y0 : Bool := xdec (v.t_10_0 < (↑t_1_0.length : Int))
let y1 : Ty ET.evt := t_1_0.getD v.t_10_0.toNat (dflt ET.evt)
let y2 : ByteArray := y1.name
let y3 : Int := y1.at_
let y4 : List Val := y1.v
let y5 : S.match_Feed_T := S.match_Feed_o v.h_29_0 v.h_29_1 v.h_29_2 v.h_29_3 v.h_29_4 v.h_29_5 v.h_29_6 y2 y3 y4 v.t_10_0
let y6 : List (Ty ET.mat) := y5.x7
let y7 : S.law13_MatchOrder_13_V := { t_13_0 := 0 : S.law13_MatchOrder_13_V }
let y8 : List (Ty ET.run) := y5.x5
let y9 : S.law13_MatchOrder_18_V := { t_14_0 := 0 : S.law13_MatchOrder_18_V }
(.br (y0)
(.br (xdec (0 ≤ v.t_10_0) && y0)
(.br (S.match_Feed_is v.h_29_0 v.h_29_1 v.h_29_2 v.h_29_3 v.h_29_4 v.h_29_5 v.h_29_6 y2 y3 y4 v.t_10_0)
(.br (S.law13_MatchOrder_13_j v.t_10_0 y6 y7 0)
(.leaf (some 0, v))
(.br (S.law13_MatchOrder_13_j v.t_10_0 y6 y7 1)
(.br (S.law13_MatchOrder_18_j v.t_10_0 y8 y9 0)
(.leaf (some 1, v))
(.br (S.law13_MatchOrder_18_j v.t_10_0 y8 y9 1)
(.leaf (none, ⟨xwrap IntKind.i64 (v.t_10_0 + 1), y5.x0, y5.x1, y5.x2, y5.x3, y5.x4, y8, y5.x6⟩))
.fail))
.fail))
.fail)
.fail)
(.leaf (some 2, v)))
noncomputable def S.law13_MatchOrder_9_r (t_1_0 : List (Ty ET.evt)) (v : S.law13_MatchOrder_9_V) : Option (Option Nat × S.law13_MatchOrder_9_V) := (S.law13_MatchOrder_9_R t_1_0 v).run
noncomputable def S.law13_MatchOrder_9_j (t_1_0 : List (Ty ET.evt)) (v : S.law13_MatchOrder_9_V) (j : Nat) : Bool := Lp_j (S.law13_MatchOrder_9_r t_1_0) v j
noncomputable def S.law13_MatchOrder_9_v (t_1_0 : List (Ty ET.evt)) (v : S.law13_MatchOrder_9_V) : S.law13_MatchOrder_9_V := Lp_v (S.law13_MatchOrder_9_r t_1_0) v
noncomputable def mk_law13_MatchOrder_9 (t_1_0n : Option Bool) (t_1_0f : Bool) (t_1_0 : List (Ty ET.evt)) (h_0_0n : Option Bool) (h_0_0f : Bool) (h_0_0 : List (Ty ET.step)) (h_0_1 : Int) (h_0_2 : Int) (h_0_3 : Int) (h_0_4 : Int) (v : S.law13_MatchOrder_9_V) : St := ⟨[V.any, V.v false [C.d (D.sl t_1_0n t_1_0f ET.evt t_1_0)], V.any, V.any, V.any, V.any, V.any, V.any, V.any, V.v false [C.ptr 29 0],
  V.v false [C.d (D.sc (Sc.int IntKind.i64 v.t_10_0))], V.any, V.any, V.any, V.any, V.any, V.any, V.any, V.any, V.any, V.any, V.any, V.any, V.any, V.any, V.any, V.any, V.any,
  V.any, V.any, V.any, V.any, V.any, V.any, V.any, V.any, V.any, V.any, V.any, V.any, V.any, V.any, V.any, V.any, V.any, V.any, V.any, V.any, V.any, V.any, V.any, V.any, V.any,
  V.any, V.any, V.any, V.any, V.any, V.any, V.any, V.any, V.any, V.any, V.any, V.any, V.any, V.any, V.any, V.any, V.any, V.any, V.any, V.any, V.any, V.any, V.any, V.any, V.any,
  V.any, V.any, V.any, V.any, V.any, V.any, V.any, V.any, V.any, V.any, V.any, V.any, V.any, V.any, V.any, V.any, V.any, V.any, V.any, V.any, V.any, V.any, V.any, V.any, V.any,
  V.any, V.any, V.any, V.any, V.any, V.any, V.any, V.any, V.any, V.any, V.any, V.any, V.any, V.any, V.any, V.any, V.any, V.any, V.any, V.any, V.any, V.any, V.any, V.any, V.any,
  V.any, V.any, V.any, V.any, V.any, V.any, V.any, V.any, V.any, V.any, V.any, V.any, V.any, V.any, V.any, V.any, V.any, V.any, V.any, V.any, V.any], [some
    (Blk.box 45
      [C.d (D.sl h_0_0n h_0_0f ET.step h_0_0), C.d (D.sc (Sc.int IntKind.i64 h_0_1)), C.d (D.sc (Sc.int IntKind.i64 h_0_2)), C.d (D.sc (Sc.int IntKind.i64 h_0_3)),
        C.d (D.sc (Sc.int IntKind.i64 h_0_4))]),
  none, none, none, none, none, none, none, none, none, none, none, none, none, none, none, none, none, none, none, none, none, none, none, none, none, none, none, none,
  some
    (Blk.box 71
      [C.d (D.sl none false ET.step v.h_29_0), C.d (D.sc (Sc.int IntKind.i64 v.h_29_1)), C.d (D.sc (Sc.int IntKind.i64 v.h_29_2)), C.d (D.sc (Sc.int IntKind.i64 v.h_29_3)),
        C.d (D.sc (Sc.int IntKind.i64 v.h_29_4)), C.d (D.sl none false ET.run v.h_29_5), C.d (D.sc (Sc.int IntKind.i64 v.h_29_6))]),
  none, none], 0⟩
noncomputable def ex_law13_MatchOrder_9 (t_1_0n : Option Bool) (t_1_0f : Bool) (t_1_0 : List (Ty ET.evt)) (h_0_0n : Option Bool) (h_0_0f : Bool) (h_0_0 : List (Ty ET.step)) (h_0_1 : Int) (h_0_2 : Int) (h_0_3 : Int) (h_0_4 : Int) (j : Nat) (v : S.law13_MatchOrder_9_V) : Ex × St := match j with
  | 0 => (Ex.ret, ⟨[V.any, V.any, V.any, V.any, V.v false [C.d (D.sc (Sc.bool false))], V.any, V.any, V.any, V.any, V.any, V.any, V.any, V.any, V.any, V.any, V.any, V.any, V.any, V.any, V.any, V.any,
  V.any, V.any, V.any, V.any, V.any, V.any, V.any, V.any, V.any, V.any, V.any, V.any, V.any, V.any, V.any, V.any, V.any, V.any, V.any, V.any, V.any, V.any, V.any, V.any, V.any,
  V.any, V.any, V.any, V.any, V.any, V.any, V.any, V.any, V.any, V.any, V.any, V.any, V.any, V.any, V.any, V.any, V.any, V.any, V.any, V.any, V.any, V.any, V.any, V.any, V.any,
  V.any, V.any, V.any, V.any, V.any, V.any, V.any, V.any, V.any, V.any, V.any, V.any, V.any, V.any, V.any, V.any, V.any, V.any, V.any, V.any, V.any, V.any, V.any, V.any, V.any,
  V.any, V.any, V.any, V.any, V.any, V.any, V.any, V.any, V.any, V.any, V.any, V.any, V.any, V.any, V.any, V.any, V.any, V.any, V.any, V.any, V.any, V.any, V.any, V.any, V.any,
  V.any, V.any, V.any, V.any, V.any, V.any, V.any, V.any, V.any, V.any, V.any, V.any, V.any, V.any, V.any, V.any, V.any, V.any, V.any, V.any, V.any, V.any, V.any, V.any, V.any,
  V.any, V.any, V.any], [some
    (Blk.box 45
      [C.d (D.sl h_0_0n h_0_0f ET.step h_0_0), C.d (D.sc (Sc.int IntKind.i64 h_0_1)), C.d (D.sc (Sc.int IntKind.i64 h_0_2)), C.d (D.sc (Sc.int IntKind.i64 h_0_3)),
        C.d (D.sc (Sc.int IntKind.i64 h_0_4))]),
  none, none, none, none, none, none, none, none, none, none, none, none, none, none, none, none, none, none, none, none, none, none, none, none, none, none, none, none,
  some
    (Blk.box 71
      [C.d (D.sl none false ET.step v.h_29_0), C.d (D.sc (Sc.int IntKind.i64 v.h_29_1)), C.d (D.sc (Sc.int IntKind.i64 v.h_29_2)), C.d (D.sc (Sc.int IntKind.i64 v.h_29_3)),
        C.d (D.sc (Sc.int IntKind.i64 v.h_29_4)), C.d (D.sl none false ET.run v.h_29_5), C.d (D.sc (Sc.int IntKind.i64 v.h_29_6))]),
  none, none, none, none, none, none, none, none, none, none, none, none, none, none, none, none,
  some
    (Blk.box 71
      [C.d
          (D.sl none false ET.step
            (S.match_Feed_o v.h_29_0 v.h_29_1 v.h_29_2 v.h_29_3 v.h_29_4 v.h_29_5 v.h_29_6 (t_1_0.getD v.t_10_0.toNat (dflt ET.evt)).name
                (t_1_0.getD v.t_10_0.toNat (dflt ET.evt)).at_ (t_1_0.getD v.t_10_0.toNat (dflt ET.evt)).v v.t_10_0).x0),
        C.d
          (D.sc
            (Sc.int IntKind.i64
              (S.match_Feed_o v.h_29_0 v.h_29_1 v.h_29_2 v.h_29_3 v.h_29_4 v.h_29_5 v.h_29_6 (t_1_0.getD v.t_10_0.toNat (dflt ET.evt)).name
                  (t_1_0.getD v.t_10_0.toNat (dflt ET.evt)).at_ (t_1_0.getD v.t_10_0.toNat (dflt ET.evt)).v v.t_10_0).x1)),
        C.d
          (D.sc
            (Sc.int IntKind.i64
              (S.match_Feed_o v.h_29_0 v.h_29_1 v.h_29_2 v.h_29_3 v.h_29_4 v.h_29_5 v.h_29_6 (t_1_0.getD v.t_10_0.toNat (dflt ET.evt)).name
                  (t_1_0.getD v.t_10_0.toNat (dflt ET.evt)).at_ (t_1_0.getD v.t_10_0.toNat (dflt ET.evt)).v v.t_10_0).x2)),
        C.d
          (D.sc
            (Sc.int IntKind.i64
              (S.match_Feed_o v.h_29_0 v.h_29_1 v.h_29_2 v.h_29_3 v.h_29_4 v.h_29_5 v.h_29_6 (t_1_0.getD v.t_10_0.toNat (dflt ET.evt)).name
                  (t_1_0.getD v.t_10_0.toNat (dflt ET.evt)).at_ (t_1_0.getD v.t_10_0.toNat (dflt ET.evt)).v v.t_10_0).x3)),
        C.d
          (D.sc
            (Sc.int IntKind.i64
              (S.match_Feed_o v.h_29_0 v.h_29_1 v.h_29_2 v.h_29_3 v.h_29_4 v.h_29_5 v.h_29_6 (t_1_0.getD v.t_10_0.toNat (dflt ET.evt)).name
                  (t_1_0.getD v.t_10_0.toNat (dflt ET.evt)).at_ (t_1_0.getD v.t_10_0.toNat (dflt ET.evt)).v v.t_10_0).x4)),
        C.d
          (D.sl none false ET.run
            (S.match_Feed_o v.h_29_0 v.h_29_1 v.h_29_2 v.h_29_3 v.h_29_4 v.h_29_5 v.h_29_6 (t_1_0.getD v.t_10_0.toNat (dflt ET.evt)).name
                (t_1_0.getD v.t_10_0.toNat (dflt ET.evt)).at_ (t_1_0.getD v.t_10_0.toNat (dflt ET.evt)).v v.t_10_0).x5),
        C.d
          (D.sc
            (Sc.int IntKind.i64
              (S.match_Feed_o v.h_29_0 v.h_29_1 v.h_29_2 v.h_29_3 v.h_29_4 v.h_29_5 v.h_29_6 (t_1_0.getD v.t_10_0.toNat (dflt ET.evt)).name
                  (t_1_0.getD v.t_10_0.toNat (dflt ET.evt)).at_ (t_1_0.getD v.t_10_0.toNat (dflt ET.evt)).v v.t_10_0).x6))]),
  none, none, none, none, none, none, none, none, none, none, none, none, none, none, none, none, none, none, none, none, none, none, none, none, none, none, none, none, none,
  none, none, none, none, none, none, none, none, none, none, none, none, none], 0⟩)
  | 1 => (Ex.ret, ⟨[V.any, V.any, V.any, V.any, V.v false [C.d (D.sc (Sc.bool false))], V.any, V.any, V.any, V.any, V.any, V.any, V.any, V.any, V.any, V.any, V.any, V.any, V.any, V.any, V.any, V.any,
  V.any, V.any, V.any, V.any, V.any, V.any, V.any, V.any, V.any, V.any, V.any, V.any, V.any, V.any, V.any, V.any, V.any, V.any, V.any, V.any, V.any, V.any, V.any, V.any, V.any,
  V.any, V.any, V.any, V.any, V.any, V.any, V.any, V.any, V.any, V.any, V.any, V.any, V.any, V.any, V.any, V.any, V.any, V.any, V.any, V.any, V.any, V.any, V.any, V.any, V.any,
  V.any, V.any, V.any, V.any, V.any, V.any, V.any, V.any, V.any, V.any, V.any, V.any, V.any, V.any, V.any, V.any, V.any, V.any, V.any, V.any, V.any, V.any, V.any, V.any, V.any,
  V.any, V.any, V.any, V.any, V.any, V.any, V.any, V.any, V.any, V.any, V.any, V.any, V.any, V.any, V.any, V.any, V.any, V.any, V.any, V.any, V.any, V.any, V.any, V.any, V.any,
  V.any, V.any, V.any, V.any, V.any, V.any, V.any, V.any, V.any, V.any, V.any, V.any, V.any, V.any, V.any, V.any, V.any, V.any, V.any, V.any, V.any, V.any, V.any, V.any, V.any,
  V.any, V.any, V.any], [some
    (Blk.box 45
      [C.d (D.sl h_0_0n h_0_0f ET.step h_0_0), C.d (D.sc (Sc.int IntKind.i64 h_0_1)), C.d (D.sc (Sc.int IntKind.i64 h_0_2)), C.d (D.sc (Sc.int IntKind.i64 h_0_3)),
        C.d (D.sc (Sc.int IntKind.i64 h_0_4))]),
  none, none, none, none, none, none, none, none, none, none, none, none, none, none, none, none, none, none, none, none, none, none, none, none, none, none, none, none,
  some
    (Blk.box 71
      [C.d (D.sl none false ET.step v.h_29_0), C.d (D.sc (Sc.int IntKind.i64 v.h_29_1)), C.d (D.sc (Sc.int IntKind.i64 v.h_29_2)), C.d (D.sc (Sc.int IntKind.i64 v.h_29_3)),
        C.d (D.sc (Sc.int IntKind.i64 v.h_29_4)), C.d (D.sl none false ET.run v.h_29_5), C.d (D.sc (Sc.int IntKind.i64 v.h_29_6))]),
  none, none, none, none, none, none, none, none, none, none, none, none, none, none, none, none,
  some
    (Blk.box 71
      [C.d
          (D.sl none false ET.step
            (S.match_Feed_o v.h_29_0 v.h_29_1 v.h_29_2 v.h_29_3 v.h_29_4 v.h_29_5 v.h_29_6 (t_1_0.getD v.t_10_0.toNat (dflt ET.evt)).name
                (t_1_0.getD v.t_10_0.toNat (dflt ET.evt)).at_ (t_1_0.getD v.t_10_0.toNat (dflt ET.evt)).v v.t_10_0).x0),
        C.d
          (D.sc
            (Sc.int IntKind.i64
              (S.match_Feed_o v.h_29_0 v.h_29_1 v.h_29_2 v.h_29_3 v.h_29_4 v.h_29_5 v.h_29_6 (t_1_0.getD v.t_10_0.toNat (dflt ET.evt)).name
                  (t_1_0.getD v.t_10_0.toNat (dflt ET.evt)).at_ (t_1_0.getD v.t_10_0.toNat (dflt ET.evt)).v v.t_10_0).x1)),
        C.d
          (D.sc
            (Sc.int IntKind.i64
              (S.match_Feed_o v.h_29_0 v.h_29_1 v.h_29_2 v.h_29_3 v.h_29_4 v.h_29_5 v.h_29_6 (t_1_0.getD v.t_10_0.toNat (dflt ET.evt)).name
                  (t_1_0.getD v.t_10_0.toNat (dflt ET.evt)).at_ (t_1_0.getD v.t_10_0.toNat (dflt ET.evt)).v v.t_10_0).x2)),
        C.d
          (D.sc
            (Sc.int IntKind.i64
              (S.match_Feed_o v.h_29_0 v.h_29_1 v.h_29_2 v.h_29_3 v.h_29_4 v.h_29_5 v.h_29_6 (t_1_0.getD v.t_10_0.toNat (dflt ET.evt)).name
                  (t_1_0.getD v.t_10_0.toNat (dflt ET.evt)).at_ (t_1_0.getD v.t_10_0.toNat (dflt ET.evt)).v v.t_10_0).x3)),
        C.d
          (D.sc
            (Sc.int IntKind.i64
              (S.match_Feed_o v.h_29_0 v.h_29_1 v.h_29_2 v.h_29_3 v.h_29_4 v.h_29_5 v.h_29_6 (t_1_0.getD v.t_10_0.toNat (dflt ET.evt)).name
                  (t_1_0.getD v.t_10_0.toNat (dflt ET.evt)).at_ (t_1_0.getD v.t_10_0.toNat (dflt ET.evt)).v v.t_10_0).x4)),
        C.d
          (D.sl none false ET.run
            (S.match_Feed_o v.h_29_0 v.h_29_1 v.h_29_2 v.h_29_3 v.h_29_4 v.h_29_5 v.h_29_6 (t_1_0.getD v.t_10_0.toNat (dflt ET.evt)).name
                (t_1_0.getD v.t_10_0.toNat (dflt ET.evt)).at_ (t_1_0.getD v.t_10_0.toNat (dflt ET.evt)).v v.t_10_0).x5),
        C.d
          (D.sc
            (Sc.int IntKind.i64
              (S.match_Feed_o v.h_29_0 v.h_29_1 v.h_29_2 v.h_29_3 v.h_29_4 v.h_29_5 v.h_29_6 (t_1_0.getD v.t_10_0.toNat (dflt ET.evt)).name
                  (t_1_0.getD v.t_10_0.toNat (dflt ET.evt)).at_ (t_1_0.getD v.t_10_0.toNat (dflt ET.evt)).v v.t_10_0).x6))]),
  none, none, none, none, none, none, none, none, none, none, none, none, none, none, none, none, none, none, none, none, none, none, none, none, none, none, none, none, none,
  none, none, none, none, none, none, none, none, none, none, none, none, none, none, none, none, none, none, none, none, none, none, none, none, none, none, none, none, none,
  none, none], 0⟩)
  | 2 => (Ex.exit 0, ⟨[V.any, V.any, V.any, V.any, V.any, V.any, V.any, V.any, V.any, V.any, V.any, V.any, V.any, V.any, V.any, V.any, V.any, V.any, V.any, V.any, V.any, V.any, V.any, V.any, V.any,
  V.any, V.any, V.any, V.any, V.any, V.any, V.any, V.any, V.any, V.any, V.any, V.any, V.any, V.any, V.any, V.any, V.any, V.any, V.any, V.any, V.any, V.any, V.any, V.any, V.any,
  V.any, V.any, V.any, V.any, V.any, V.any, V.any, V.any, V.any, V.any, V.any, V.any, V.any, V.any, V.any, V.any, V.any, V.any, V.any, V.any, V.any, V.any, V.any, V.any, V.any,
  V.any, V.any, V.any, V.any, V.any, V.any, V.any, V.any, V.any, V.any, V.any, V.any, V.any, V.any, V.any, V.any, V.any, V.any, V.any, V.any, V.any, V.any, V.any, V.any, V.any,
  V.any, V.any, V.any, V.any, V.any, V.any, V.any, V.any, V.any, V.any, V.any, V.any, V.any, V.any, V.any, V.any, V.any, V.any, V.any, V.any, V.any, V.any, V.any, V.any, V.any,
  V.any, V.any, V.any, V.any, V.any, V.any, V.any, V.any, V.any, V.any, V.any, V.any, V.any, V.any, V.any, V.any, V.any, V.any, V.any, V.any, V.any, V.any, V.any, V.any], [some
    (Blk.box 45
      [C.d (D.sl h_0_0n h_0_0f ET.step h_0_0), C.d (D.sc (Sc.int IntKind.i64 h_0_1)), C.d (D.sc (Sc.int IntKind.i64 h_0_2)), C.d (D.sc (Sc.int IntKind.i64 h_0_3)),
        C.d (D.sc (Sc.int IntKind.i64 h_0_4))]),
  none, none, none, none, none, none, none, none, none, none, none, none, none, none, none, none, none, none, none, none, none, none, none, none, none, none, none, none,
  some
    (Blk.box 71
      [C.d (D.sl none false ET.step v.h_29_0), C.d (D.sc (Sc.int IntKind.i64 v.h_29_1)), C.d (D.sc (Sc.int IntKind.i64 v.h_29_2)), C.d (D.sc (Sc.int IntKind.i64 v.h_29_3)),
        C.d (D.sc (Sc.int IntKind.i64 v.h_29_4)), C.d (D.sl none false ET.run v.h_29_5), C.d (D.sc (Sc.int IntKind.i64 v.h_29_6))]),
  none, none, none, none, none, none], 0⟩)
  | _ => (.ret, ⟨[], [], 0⟩)
noncomputable def T1_law13_MatchOrder_9 : V → V → V → Option Blk → Option Blk → Tree
  | V.v false [C.d (D.sl t_1_0n t_1_0f ET.evt t_1_0)], V.v false [C.ptr 29 0], V.v false [C.d (D.sc (Sc.int IntKind.i64 t_10_0))], some (Blk.box 45 [C.d (D.sl h_0_0n h_0_0f ET.step h_0_0), C.d (D.sc (Sc.int IntKind.i64 h_0_1)), C.d (D.sc (Sc.int IntKind.i64 h_0_2)), C.d (D.sc (Sc.int IntKind.i64 h_0_3)), C.d (D.sc (Sc.int IntKind.i64 h_0_4))]), some (Blk.box 71 [C.d (D.sl none false ET.step h_29_0), C.d (D.sc (Sc.int IntKind.i64 h_29_1)), C.d (D.sc (Sc.int IntKind.i64 h_29_2)), C.d (D.sc (Sc.int IntKind.i64 h_29_3)), C.d (D.sc (Sc.int IntKind.i64 h_29_4)), C.d (D.sl none false ET.run h_29_5), C.d (D.sc (Sc.int IntKind.i64 h_29_6))]) => exT (fun j => ex_law13_MatchOrder_9 t_1_0n t_1_0f t_1_0 h_0_0n h_0_0f h_0_0 h_0_1 h_0_2 h_0_3 h_0_4 j (S.law13_MatchOrder_9_v t_1_0 ⟨t_10_0, h_29_0, h_29_1, h_29_2, h_29_3, h_29_4, h_29_5, h_29_6⟩)) (S.law13_MatchOrder_9_j t_1_0 ⟨t_10_0, h_29_0, h_29_1, h_29_2, h_29_3, h_29_4, h_29_5, h_29_6⟩) [0, 1, 2]
  | _, _, _, _, _ => .bad
noncomputable def T_law13_MatchOrder_9 (st : St) : Tree := bif okSt 149 32 0 [0, 29] st then T1_law13_MatchOrder_9 (st.env.getD 1 .any) (st.env.getD 9 .any) (st.env.getD 10 .any) (lk st.heap 0) (lk st.heap 29) else .bad
noncomputable def b_law13_MatchOrder_9 : Code := loopBy Try.f16 9
theorem rnd_law13_MatchOrder_9 (t_1_0n : Option Bool) (t_1_0f : Bool) (t_1_0 : List (Ty ET.evt)) (h_0_0n : Option Bool) (h_0_0f : Bool) (h_0_0 : List (Ty ET.step)) (h_0_1 : Int) (h_0_2 : Int) (h_0_3 : Int) (h_0_4 : Int) (v : S.law13_MatchOrder_9_V) : round2 cx_law13_MatchOrder (hdI cx_law13_MatchOrder (find [(13, T_law13_MatchOrder_13), (18, T_law13_MatchOrder_18)]) [] none 0) 16 b_law13_MatchOrder_9 [] 32 [4] (mk_law13_MatchOrder_9 t_1_0n t_1_0f t_1_0 h_0_0n h_0_0f h_0_0 h_0_1 h_0_2 h_0_3 h_0_4 v) = (S.law13_MatchOrder_9_R t_1_0 v).go (roundOut (mk_law13_MatchOrder_9 t_1_0n t_1_0f t_1_0 h_0_0n h_0_0f h_0_0 h_0_1 h_0_2 h_0_3 h_0_4) (ex_law13_MatchOrder_9 t_1_0n t_1_0f t_1_0 h_0_0n h_0_0f h_0_0 h_0_1 h_0_2 h_0_3 h_0_4)) := by kernel_rfl
theorem bs_law13_MatchOrder_9 : loopsOf b_law13_MatchOrder_9 ++ loopsInl [] = [b_law13_MatchOrder_13, b_law13_MatchOrder_18] := by kernel_rfl
theorem ci_law13_MatchOrder_9 (t_1_0n : Option Bool) (t_1_0f : Bool) (t_1_0 : List (Ty ET.evt)) (h_0_0n : Option Bool) (h_0_0f : Bool) (h_0_0 : List (Ty ET.step)) (h_0_1 : Int) (h_0_2 : Int) (h_0_3 : Int) (h_0_4 : Int) : ∀ v j v2, Lp (S.law13_MatchOrder_9_r t_1_0) v = some (j, v2) → Circles Try.prog cx_law13_MatchOrder b_law13_MatchOrder_9 (mk_law13_MatchOrder_9 t_1_0n t_1_0f t_1_0 h_0_0n h_0_0f h_0_0 h_0_1 h_0_2 h_0_3 h_0_4 v) (ex_law13_MatchOrder_9 t_1_0n t_1_0f t_1_0 h_0_0n h_0_0f h_0_0 h_0_1 h_0_2 h_0_3 h_0_4 j v2).1 (ex_law13_MatchOrder_9 t_1_0n t_1_0f t_1_0 h_0_0n h_0_0f h_0_0 h_0_1 h_0_2 h_0_3 h_0_4 j v2).2 :=
  loop_ok2 (L := find [(13, T_law13_MatchOrder_13), (18, T_law13_MatchOrder_18)]) (n := 0) (hints := [(16, 18, { keep := [1, 9, 10, 11, 14], acc := [] }), (16, 13, { keep := [1, 9, 10, 11, 12, 13], acc := [] }), (16, 9, { keep := [1, 9, 10], acc := [] })]) (cx_ok rfl) rdy_law13_MatchOrder bs_law13_MatchOrder_9 (consB (fun T h => by have e : T_law13_MatchOrder_13 = T := Option.some.inj (show some T_law13_MatchOrder_13 = some T from h); exact e ▸ lok_law13_MatchOrder_13) (consB (fun T h => by have e : T_law13_MatchOrder_18 = T := Option.some.inj (show some T_law13_MatchOrder_18 = some T from h); exact e ▸ lok_law13_MatchOrder_18) nilB)) (fun v => (rnd_law13_MatchOrder_9 t_1_0n t_1_0f t_1_0 h_0_0n h_0_0f h_0_0 h_0_1 h_0_2 h_0_3 h_0_4 v).trans (DT.go_run _ _)) (by intro j v; unfold ex_law13_MatchOrder_9; split <;> rfl)
theorem mke_law13_MatchOrder_9 (t_1_0n : Option Bool) (t_1_0f : Bool) (t_1_0 : List (Ty ET.evt)) (h_0_0n : Option Bool) (h_0_0f : Bool) (h_0_0 : List (Ty ET.step)) (h_0_1 : Int) (h_0_2 : Int) (h_0_3 : Int) (h_0_4 : Int) (v : S.law13_MatchOrder_9_V) : mk_law13_MatchOrder_9 t_1_0n t_1_0f t_1_0 h_0_0n h_0_0f h_0_0 h_0_1 h_0_2 h_0_3 h_0_4 v = ⟨envOf 149 [(1, V.v false [C.d (D.sl t_1_0n t_1_0f ET.evt t_1_0)]), (9, V.v false [C.ptr 29 0]), (10, V.v false [C.d (D.sc (Sc.int IntKind.i64 v.t_10_0))])], heapOf 32 [(0, some
  (Blk.box 45
    [C.d (D.sl h_0_0n h_0_0f ET.step h_0_0), C.d (D.sc (Sc.int IntKind.i64 h_0_1)), C.d (D.sc (Sc.int IntKind.i64 h_0_2)), C.d (D.sc (Sc.int IntKind.i64 h_0_3)),
      C.d (D.sc (Sc.int IntKind.i64 h_0_4))])), (29, some
  (Blk.box 71
    [C.d (D.sl none false ET.step v.h_29_0), C.d (D.sc (Sc.int IntKind.i64 v.h_29_1)), C.d (D.sc (Sc.int IntKind.i64 v.h_29_2)), C.d (D.sc (Sc.int IntKind.i64 v.h_29_3)),
      C.d (D.sc (Sc.int IntKind.i64 v.h_29_4)), C.d (D.sl none false ET.run v.h_29_5), C.d (D.sc (Sc.int IntKind.i64 v.h_29_6))]))], 0⟩ := by kernel_rfl
theorem lo1_law13_MatchOrder_9 (e1 : V) (e9 : V) (e10 : V) (h0 : Option Blk) (h29 : Option Blk) e st2 (h : (T1_law13_MatchOrder_9 e1 e9 e10 h0 h29).eval = some (e, st2)) : Circles Try.prog cx_law13_MatchOrder b_law13_MatchOrder_9 ⟨envOf 149 [(1, e1), (9, e9), (10, e10)], heapOf 32 [(0, h0), (29, h29)], 0⟩ e st2 := by
  unfold T1_law13_MatchOrder_9 at h
  split at h
  · have := loop_tree (mk := mk_law13_MatchOrder_9 _ _ _ _ _ _ _ _ _ _) (ci_law13_MatchOrder_9 _ _ _ _ _ _ _ _ _ _) _ _ e st2 h
    rw [mke_law13_MatchOrder_9] at this
    exact this
  · cases h
theorem lok_law13_MatchOrder_9 : LoopOk Try.prog cx_law13_MatchOrder b_law13_MatchOrder_9 T_law13_MatchOrder_9 := by
  intro st e st2 h
  unfold T_law13_MatchOrder_9 at h
  cases hk : okSt 149 32 0 [0, 29] st with
  | false => rw [hk] at h; cases h
  | true =>
    rw [hk] at h
    exact circles_keep (ks := [1, 9, 10]) hk (lo1_law13_MatchOrder_9 _ _ _ _ _ e st2 h)
structure S.law13_MatchOrder_T where
  x0 : Bool
  deriving Inhabited
noncomputable def S.law13_MatchOrder_R (a0_0 : List (Ty .step)) (a0_1 : Int) (a0_2 : Int) (a0_3 : Int) (a0_4 : Int) (a1 : List (Ty .evt)) : DT S.law13_MatchOrder_T :=
let y0 : S.match_New_T := S.match_New_o a0_0 a0_1 a0_2 a0_3 a0_4
let y1 : S.law13_MatchOrder_9_V := { t_10_0 := 0, h_29_0 := y0.x0, h_29_1 := y0.x1, h_29_2 := y0.x2, h_29_3 := y0.x3, h_29_4 := y0.x4, h_29_5 := y0.x5, h_29_6 := y0.x6 : S.law13_MatchOrder_9_V }
(.br (S.law13_awake_is)
(.br (S.law09_Few_is a0_0)
(.br (S.law12_Log_is a1 25)
(.br (S.ref09_May_is a0_0 a0_1 a0_2 a0_3 a0_4)
(.br (xnot S.law13_awake_o.x0)
(.leaf ⟨S.law13_awake_o.x0⟩)
(.br (xnot (S.law09_Few_o a0_0).x0)
(.leaf ⟨S.law13_awake_o.x0⟩)
(.br (xnot (S.law12_Log_o a1 25).x0)
(.leaf ⟨S.law13_awake_o.x0⟩)
(.br (xnot (S.ref09_May_o a0_0 a0_1 a0_2 a0_3 a0_4).x0)
(.leaf ⟨S.law13_awake_o.x0⟩)
(.br (S.law13_MatchOrder_9_j a1 y1 0)
(.leaf ⟨false⟩)
(.br (S.law13_MatchOrder_9_j a1 y1 1)
(.leaf ⟨false⟩)
(.br (S.law13_MatchOrder_9_j a1 y1 2)
(.leaf ⟨true⟩)
.fail)))))))
.fail)
.fail)
.fail)
.fail)
noncomputable def S.law13_MatchOrder (a0_0 : List (Ty .step)) (a0_1 : Int) (a0_2 : Int) (a0_3 : Int) (a0_4 : Int) (a1 : List (Ty .evt)) : Option S.law13_MatchOrder_T := (S.law13_MatchOrder_R a0_0 a0_1 a0_2 a0_3 a0_4 a1).run
noncomputable def S.law13_MatchOrder_is (a0_0 : List (Ty .step)) (a0_1 : Int) (a0_2 : Int) (a0_3 : Int) (a0_4 : Int) (a1 : List (Ty .evt)) : Bool := (S.law13_MatchOrder a0_0 a0_1 a0_2 a0_3 a0_4 a1).isSome
noncomputable def S.law13_MatchOrder_o (a0_0 : List (Ty .step)) (a0_1 : Int) (a0_2 : Int) (a0_3 : Int) (a0_4 : Int) (a1 : List (Ty .evt)) : S.law13_MatchOrder_T := (S.law13_MatchOrder a0_0 a0_1 a0_2 a0_3 a0_4 a1).getD default
noncomputable def ret_law13_MatchOrder (b : Bool) (r : S.law13_MatchOrder_T) : Ret := ⟨b, none, [(false, [C.d (D.sc (Sc.bool r.x0))])]⟩
noncomputable def g_law13_MatchOrder : Con
  | [(true, [.sl a0_0n a0_0f .step a0_0, .sc (.int .i64 a0_1), .sc (.int .i64 a0_2), .sc (.int .i64 a0_3), .sc (.int .i64 a0_4)]), (false, [.sl a1n a1f .evt a1])] => some (ret_law13_MatchOrder (S.law13_MatchOrder_is a0_0 a0_1 a0_2 a0_3 a0_4 a1) (S.law13_MatchOrder_o a0_0 a0_1 a0_2 a0_3 a0_4 a1))
  | _ => none
theorem raw_law13_MatchOrder (a0_0n : Option Bool) (a0_0f : Bool) (a0_0 : List (Ty .step)) (a0_1 : Int) (a0_2 : Int) (a0_3 : Int) (a0_4 : Int) (a1n : Option Bool) (a1f : Bool) (a1 : List (Ty .evt)) : evR2 cx_law13_MatchOrder (hdI cx_law13_MatchOrder (find [(13, T_law13_MatchOrder_13), (18, T_law13_MatchOrder_18), (9, T_law13_MatchOrder_9)]) [] none 0) none Try.f16 16 none [(true, [.sl a0_0n a0_0f .step a0_0, .sc (.int .i64 a0_1), .sc (.int .i64 a0_2), .sc (.int .i64 a0_3), .sc (.int .i64 a0_4)]), (false, [.sl a1n a1f .evt a1])] some = (S.law13_MatchOrder_R a0_0 a0_1 a0_2 a0_3 a0_4 a1).go (ret_law13_MatchOrder true) := by kernel_rfl
theorem bs_law13_MatchOrder : loopsIn Try.f16 [] = [b_law13_MatchOrder_9] := by kernel_rfl
theorem law13_MatchOrder_ok : Stands Try.prog tyTab 16 g_law13_MatchOrder := by
  refine stands3 (L := find [(13, T_law13_MatchOrder_13), (18, T_law13_MatchOrder_18), (9, T_law13_MatchOrder_9)]) (n := 0) (hints := [(16, 18, { keep := [1, 9, 10, 11, 14], acc := [] }), (16, 13, { keep := [1, 9, 10, 11, 12, 13], acc := [] }), (16, 9, { keep := [1, 9, 10], acc := [] })]) (cx_ok rfl) rdy_law13_MatchOrder ⟨by kernel_rfl, by kernel_rfl, by kernel_rfl⟩ bs_law13_MatchOrder (consB (fun T h => by have e : T_law13_MatchOrder_9 = T := Option.some.inj (show some T_law13_MatchOrder_9 = some T from h); exact e ▸ lok_law13_MatchOrder_9) nilB) (fun das r hG hr => ?_)
  unfold g_law13_MatchOrder at hG
  split at hG
  · rename_i a0_0n a0_0f a0_0 a0_1 a0_2 a0_3 a0_4 a1n a1f a1
    injection hG with hG; subst hG
    exact ⟨none, true, win default ((raw_law13_MatchOrder a0_0n a0_0f a0_0 a0_1 a0_2 a0_3 a0_4 a1n a1f a1).trans (DT.go_run _ _)) hr⟩
  · cases hG
end Go.Eng
