/- Contracts, laid by program. -/
import Derived.Test.YtbjeikmkngcjlaaZG5
set_option linter.unusedVariables false
set_option linter.unusedSimpArgs false
namespace Go.Eng
open Go Go.Eng Go.Proofs Go.Eng.Tab
noncomputable abbrev cx_law11_RunEnds : Cx := mkCx2 tyTab [(36, g_law06_Few), (49, g_law11_awake), (50, g_law09_Few), (51, g_ref09_May), (52, g_run_Begin), (54, g_run_Next)] [] [(11, 14, { keep := [1, 2, 8, 10, 11, 12, 13], acc := [] }), (11, 8, { keep := [1, 2, 8, 9], acc := [] })] []
theorem rdy_law11_RunEnds : Ready Try.prog tyTab [(36, g_law06_Few), (49, g_law11_awake), (50, g_law09_Few), (51, g_ref09_May), (52, g_run_Begin), (54, g_run_Next)] [] [] := ⟨consG2 law06_Few_ok (consG2 law11_awake_ok (consG2 law09_Few_ok (consG2 ref09_May_ok (consG2 run_Begin_ok (consG2 run_Next_ok (noneG2)))))), noneI2, noneF2⟩
structure S.law11_RunEnds_8_V where
  t_8_0 : Int
  t_9_0 : Int
noncomputable def S.law11_RunEnds_8_R (h_0_0 : List (Ty ET.step)) (v : S.law11_RunEnds_8_V) : DT (Option Nat × S.law11_RunEnds_8_V) :=
let y0 : Bool := xdec (v.t_9_0 < (↑h_0_0.length : Int))
(.br (y0)
(.br (xdec (0 ≤ v.t_9_0) && y0)
(.leaf (none, ⟨xwrap IntKind.i64 (v.t_8_0 + (h_0_0.getD v.t_9_0.toNat (dflt ET.step)).max), xwrap IntKind.i64 (v.t_9_0 + 1)⟩))
.fail)
(.leaf (some 0, v)))
noncomputable def S.law11_RunEnds_8_r (h_0_0 : List (Ty ET.step)) (v : S.law11_RunEnds_8_V) : Option (Option Nat × S.law11_RunEnds_8_V) := (S.law11_RunEnds_8_R h_0_0 v).run
noncomputable def S.law11_RunEnds_8_j (h_0_0 : List (Ty ET.step)) (v : S.law11_RunEnds_8_V) (j : Nat) : Bool := Lp_j (S.law11_RunEnds_8_r h_0_0) v j
noncomputable def S.law11_RunEnds_8_v (h_0_0 : List (Ty ET.step)) (v : S.law11_RunEnds_8_V) : S.law11_RunEnds_8_V := Lp_v (S.law11_RunEnds_8_r h_0_0) v
noncomputable def mk_law11_RunEnds_8 (t_1_0n : Option Bool) (t_1_0f : Bool) (t_1_0 : List (Ty ET.evt)) (h_0_0n : Option Bool) (h_0_0f : Bool) (h_0_0 : List (Ty ET.step)) (h_0_1 : Int) (h_0_2 : Int) (h_0_3 : Int) (h_0_4 : Int) (v : S.law11_RunEnds_8_V) : St := ⟨[V.any, V.v false [C.d (D.sl t_1_0n t_1_0f ET.evt t_1_0)], V.v false [C.ptr 0 0], V.any, V.any, V.any, V.any, V.any, V.v false [C.d (D.sc (Sc.int IntKind.i64 v.t_8_0))],
  V.v false [C.d (D.sc (Sc.int IntKind.i64 v.t_9_0))], V.any, V.any, V.any, V.any, V.any, V.any, V.any, V.any, V.any, V.any, V.any, V.any, V.any, V.any, V.any, V.any, V.any, V.any,
  V.any, V.any, V.any, V.any, V.any, V.any, V.any, V.any, V.any, V.any, V.any, V.any, V.any, V.any, V.any, V.any, V.any, V.any, V.any, V.any, V.any, V.any, V.any, V.any, V.any,
  V.any, V.any, V.any, V.any, V.any, V.any, V.any, V.any, V.any, V.any, V.any, V.any, V.any, V.any, V.any, V.any, V.any, V.any, V.any, V.any, V.any, V.any, V.any, V.any, V.any,
  V.any, V.any, V.any, V.any, V.any, V.any, V.any, V.any, V.any, V.any, V.any, V.any, V.any, V.any, V.any, V.any, V.any, V.any, V.any, V.any, V.any, V.any, V.any, V.any, V.any,
  V.any, V.any, V.any, V.any, V.any, V.any, V.any, V.any, V.any, V.any, V.any, V.any, V.any, V.any, V.any, V.any, V.any, V.any, V.any, V.any, V.any, V.any, V.any, V.any, V.any,
  V.any, V.any, V.any, V.any, V.any, V.any, V.any, V.any, V.any, V.any, V.any, V.any, V.any, V.any, V.any, V.any, V.any], [some
    (Blk.box 45
      [C.d (D.sl h_0_0n h_0_0f ET.step h_0_0), C.d (D.sc (Sc.int IntKind.i64 h_0_1)), C.d (D.sc (Sc.int IntKind.i64 h_0_2)), C.d (D.sc (Sc.int IntKind.i64 h_0_3)),
        C.d (D.sc (Sc.int IntKind.i64 h_0_4))]),
  none, none, none, none, none, none, none, none, none, none, none, none, none, none, none, none, none, none, none, none, none, none, none, none, none, none, none, none, none,
  none, none], 0⟩
noncomputable def ex_law11_RunEnds_8 (t_1_0n : Option Bool) (t_1_0f : Bool) (t_1_0 : List (Ty ET.evt)) (h_0_0n : Option Bool) (h_0_0f : Bool) (h_0_0 : List (Ty ET.step)) (h_0_1 : Int) (h_0_2 : Int) (h_0_3 : Int) (h_0_4 : Int) (j : Nat) (v : S.law11_RunEnds_8_V) : Ex × St := match j with
  | 0 => (Ex.exit 0, ⟨[V.any, V.v false [C.d (D.sl t_1_0n t_1_0f ET.evt t_1_0)], V.v false [C.ptr 0 0], V.any, V.any, V.any, V.any, V.any, V.v false [C.d (D.sc (Sc.int IntKind.i64 v.t_8_0))], V.any,
  V.any, V.any, V.any, V.any, V.any, V.any, V.any, V.any, V.any, V.any, V.any, V.any, V.any, V.any, V.any, V.any, V.any, V.any, V.any, V.any, V.any, V.any, V.any, V.any, V.any,
  V.any, V.any, V.any, V.any, V.any, V.any, V.any, V.any, V.any, V.any, V.any, V.any, V.any, V.any, V.any, V.any, V.any, V.any, V.any, V.any, V.any, V.any, V.any, V.any, V.any,
  V.any, V.any, V.any, V.any, V.any, V.any, V.any, V.any, V.any, V.any, V.any, V.any, V.any, V.any, V.any, V.any, V.any, V.any, V.any, V.any, V.any, V.any, V.any, V.any, V.any,
  V.any, V.any, V.any, V.any, V.any, V.any, V.any, V.any, V.any, V.any, V.any, V.any, V.any, V.any, V.any, V.any, V.any, V.any, V.any, V.any, V.any, V.any, V.any, V.any, V.any,
  V.any, V.any, V.any, V.any, V.any, V.any, V.any, V.any, V.any, V.any, V.any, V.any, V.any, V.any, V.any, V.any, V.any, V.any, V.any, V.any, V.any, V.any, V.any, V.any, V.any,
  V.any, V.any, V.any, V.any, V.any, V.any, V.any, V.any, V.any, V.any], [some
    (Blk.box 45
      [C.d (D.sl h_0_0n h_0_0f ET.step h_0_0), C.d (D.sc (Sc.int IntKind.i64 h_0_1)), C.d (D.sc (Sc.int IntKind.i64 h_0_2)), C.d (D.sc (Sc.int IntKind.i64 h_0_3)),
        C.d (D.sc (Sc.int IntKind.i64 h_0_4))]),
  none, none, none, none, none, none, none, none, none, none, none, none, none, none, none, none, none, none, none, none, none, none, none, none, none, none, none, none, none,
  none, none, none, none, none, none, none], 0⟩)
  | _ => (.ret, ⟨[], [], 0⟩)
noncomputable def T1_law11_RunEnds_8 : V → V → V → V → Option Blk → Tree
  | V.v false [C.d (D.sl t_1_0n t_1_0f ET.evt t_1_0)], V.v false [C.ptr 0 0], V.v false [C.d (D.sc (Sc.int IntKind.i64 t_8_0))], V.v false [C.d (D.sc (Sc.int IntKind.i64 t_9_0))], some (Blk.box 45 [C.d (D.sl h_0_0n h_0_0f ET.step h_0_0), C.d (D.sc (Sc.int IntKind.i64 h_0_1)), C.d (D.sc (Sc.int IntKind.i64 h_0_2)), C.d (D.sc (Sc.int IntKind.i64 h_0_3)), C.d (D.sc (Sc.int IntKind.i64 h_0_4))]) => exT (fun j => ex_law11_RunEnds_8 t_1_0n t_1_0f t_1_0 h_0_0n h_0_0f h_0_0 h_0_1 h_0_2 h_0_3 h_0_4 j (S.law11_RunEnds_8_v h_0_0 ⟨t_8_0, t_9_0⟩)) (S.law11_RunEnds_8_j h_0_0 ⟨t_8_0, t_9_0⟩) [0]
  | _, _, _, _, _ => .bad
noncomputable def T_law11_RunEnds_8 (st : St) : Tree := bif okSt 145 32 0 [0] st then T1_law11_RunEnds_8 (st.env.getD 1 .any) (st.env.getD 2 .any) (st.env.getD 8 .any) (st.env.getD 9 .any) (lk st.heap 0) else .bad
noncomputable def b_law11_RunEnds_8 : Code := loopBy Try.f11 8
theorem rnd_law11_RunEnds_8 (t_1_0n : Option Bool) (t_1_0f : Bool) (t_1_0 : List (Ty ET.evt)) (h_0_0n : Option Bool) (h_0_0f : Bool) (h_0_0 : List (Ty ET.step)) (h_0_1 : Int) (h_0_2 : Int) (h_0_3 : Int) (h_0_4 : Int) (v : S.law11_RunEnds_8_V) : round2 cx_law11_RunEnds (hdI cx_law11_RunEnds (find []) [] none 0) 11 b_law11_RunEnds_8 [] 32 [1, 2, 8] (mk_law11_RunEnds_8 t_1_0n t_1_0f t_1_0 h_0_0n h_0_0f h_0_0 h_0_1 h_0_2 h_0_3 h_0_4 v) = (S.law11_RunEnds_8_R h_0_0 v).go (roundOut (mk_law11_RunEnds_8 t_1_0n t_1_0f t_1_0 h_0_0n h_0_0f h_0_0 h_0_1 h_0_2 h_0_3 h_0_4) (ex_law11_RunEnds_8 t_1_0n t_1_0f t_1_0 h_0_0n h_0_0f h_0_0 h_0_1 h_0_2 h_0_3 h_0_4)) := by kernel_rfl
theorem bs_law11_RunEnds_8 : loopsOf b_law11_RunEnds_8 ++ loopsInl [] = [] := by kernel_rfl
theorem ci_law11_RunEnds_8 (t_1_0n : Option Bool) (t_1_0f : Bool) (t_1_0 : List (Ty ET.evt)) (h_0_0n : Option Bool) (h_0_0f : Bool) (h_0_0 : List (Ty ET.step)) (h_0_1 : Int) (h_0_2 : Int) (h_0_3 : Int) (h_0_4 : Int) : ∀ v j v2, Lp (S.law11_RunEnds_8_r h_0_0) v = some (j, v2) → Circles Try.prog cx_law11_RunEnds b_law11_RunEnds_8 (mk_law11_RunEnds_8 t_1_0n t_1_0f t_1_0 h_0_0n h_0_0f h_0_0 h_0_1 h_0_2 h_0_3 h_0_4 v) (ex_law11_RunEnds_8 t_1_0n t_1_0f t_1_0 h_0_0n h_0_0f h_0_0 h_0_1 h_0_2 h_0_3 h_0_4 j v2).1 (ex_law11_RunEnds_8 t_1_0n t_1_0f t_1_0 h_0_0n h_0_0f h_0_0 h_0_1 h_0_2 h_0_3 h_0_4 j v2).2 :=
  loop_ok2 (L := find []) (n := 0) (hints := [(11, 14, { keep := [1, 2, 8, 10, 11, 12, 13], acc := [] }), (11, 8, { keep := [1, 2, 8, 9], acc := [] })]) (cx_ok rfl) rdy_law11_RunEnds bs_law11_RunEnds_8 nilB (fun v => (rnd_law11_RunEnds_8 t_1_0n t_1_0f t_1_0 h_0_0n h_0_0f h_0_0 h_0_1 h_0_2 h_0_3 h_0_4 v).trans (DT.go_run _ _)) (by intro j v; unfold ex_law11_RunEnds_8; split <;> rfl)
theorem mke_law11_RunEnds_8 (t_1_0n : Option Bool) (t_1_0f : Bool) (t_1_0 : List (Ty ET.evt)) (h_0_0n : Option Bool) (h_0_0f : Bool) (h_0_0 : List (Ty ET.step)) (h_0_1 : Int) (h_0_2 : Int) (h_0_3 : Int) (h_0_4 : Int) (v : S.law11_RunEnds_8_V) : mk_law11_RunEnds_8 t_1_0n t_1_0f t_1_0 h_0_0n h_0_0f h_0_0 h_0_1 h_0_2 h_0_3 h_0_4 v = ⟨envOf 145 [(1, V.v false [C.d (D.sl t_1_0n t_1_0f ET.evt t_1_0)]), (2, V.v false [C.ptr 0 0]), (8, V.v false [C.d (D.sc (Sc.int IntKind.i64 v.t_8_0))]), (9, V.v false [C.d (D.sc (Sc.int IntKind.i64 v.t_9_0))])], heapOf 32 [(0, some
  (Blk.box 45
    [C.d (D.sl h_0_0n h_0_0f ET.step h_0_0), C.d (D.sc (Sc.int IntKind.i64 h_0_1)), C.d (D.sc (Sc.int IntKind.i64 h_0_2)), C.d (D.sc (Sc.int IntKind.i64 h_0_3)),
      C.d (D.sc (Sc.int IntKind.i64 h_0_4))]))], 0⟩ := by kernel_rfl
theorem lo1_law11_RunEnds_8 (e1 : V) (e2 : V) (e8 : V) (e9 : V) (h0 : Option Blk) e st2 (h : (T1_law11_RunEnds_8 e1 e2 e8 e9 h0).eval = some (e, st2)) : Circles Try.prog cx_law11_RunEnds b_law11_RunEnds_8 ⟨envOf 145 [(1, e1), (2, e2), (8, e8), (9, e9)], heapOf 32 [(0, h0)], 0⟩ e st2 := by
  unfold T1_law11_RunEnds_8 at h
  split at h
  · have := loop_tree (mk := mk_law11_RunEnds_8 _ _ _ _ _ _ _ _ _ _) (ci_law11_RunEnds_8 _ _ _ _ _ _ _ _ _ _) _ _ e st2 h
    rw [mke_law11_RunEnds_8] at this
    exact this
  · cases h
theorem lok_law11_RunEnds_8 : LoopOk Try.prog cx_law11_RunEnds b_law11_RunEnds_8 T_law11_RunEnds_8 := by
  intro st e st2 h
  unfold T_law11_RunEnds_8 at h
  cases hk : okSt 145 32 0 [0] st with
  | false => rw [hk] at h; cases h
  | true =>
    rw [hk] at h
    exact circles_keep (ks := [1, 2, 8, 9]) hk (lo1_law11_RunEnds_8 _ _ _ _ _ e st2 h)
structure S.law11_RunEnds_14_V where
  t_11_0 : Int
  t_12_0 : Int
  t_13_0 : Int
  h_45_0 : Int
  h_45_1 : Int
  h_45_2 : Int
  h_45_3 : Int
  h_45_4 : Int
  h_45_5 : Int
  h_45_6 : Bool
noncomputable def S.law11_RunEnds_14_R (t_1_0 : List (Ty ET.evt)) (h_0_0 : List (Ty ET.step)) (h_0_1 : Int) (h_0_2 : Int) (h_0_3 : Int) (h_0_4 : Int) (v : S.law11_RunEnds_14_V) : DT (Option Nat × S.law11_RunEnds_14_V) :=
let y0 : Bool := xdec (v.t_13_0 < (↑t_1_0.length : Int))
let y1 : Bool := xdec (0 ≤ v.t_13_0) && y0
let y2 : Ty ET.evt := t_1_0.getD v.t_13_0.toNat (dflt ET.evt)
let y3 : ByteArray := y2.name
let y4 : List Val := y2.v
let y5 : Int := y2.at_
let y6 : S.run_Next_T := S.run_Next_o h_0_0 h_0_1 h_0_2 h_0_3 h_0_4 v.h_45_0 v.h_45_1 v.h_45_2 v.h_45_3 v.h_45_4 v.h_45_5 v.h_45_6 y3 y5 y4
let y7 : Int := y6.x2
let y8 : Int := y6.x7
let y9 : Int := xwrap IntKind.i64 (v.t_12_0 + 1)
let y10 : Int := xwrap IntKind.i64 (v.t_13_0 + 1)
let y11 : Int := y6.x0
let y12 : Int := y6.x1
let y13 : Int := y6.x3
let y14 : Int := y6.x4
let y15 : Int := y6.x5
let y16 : Bool := y6.x6
(.br (y0)
(.br (xeqI v.t_11_0 0)
(.br (y1)
(.br (S.law06_Few_is y3 y4)
(.br (xnot (S.law06_Few_o y3 y4).x0)
(.leaf (some 0, v))
(.br (y1)
(.br (S.run_Next_is h_0_0 h_0_1 h_0_2 h_0_3 h_0_4 v.h_45_0 v.h_45_1 v.h_45_2 v.h_45_3 v.h_45_4 v.h_45_5 v.h_45_6 y3 y5 y4)
(.br (xneI y7 v.h_45_2)
(.leaf (none, ⟨y8, y9, y10, y11, y12, y7, y13, y14, y15, y16⟩))
(.br (xneI y13 v.h_45_3)
(.leaf (none, ⟨y8, y9, y10, y11, y12, y7, y13, y14, y15, y16⟩))
(.leaf (none, ⟨y8, v.t_12_0, y10, y11, y12, y7, y13, y14, y15, y16⟩))))
.fail)
.fail))
.fail)
.fail)
(.leaf (some 1, v)))
(.leaf (some 1, v)))
noncomputable def S.law11_RunEnds_14_r (t_1_0 : List (Ty ET.evt)) (h_0_0 : List (Ty ET.step)) (h_0_1 : Int) (h_0_2 : Int) (h_0_3 : Int) (h_0_4 : Int) (v : S.law11_RunEnds_14_V) : Option (Option Nat × S.law11_RunEnds_14_V) := (S.law11_RunEnds_14_R t_1_0 h_0_0 h_0_1 h_0_2 h_0_3 h_0_4 v).run
noncomputable def S.law11_RunEnds_14_j (t_1_0 : List (Ty ET.evt)) (h_0_0 : List (Ty ET.step)) (h_0_1 : Int) (h_0_2 : Int) (h_0_3 : Int) (h_0_4 : Int) (v : S.law11_RunEnds_14_V) (j : Nat) : Bool := Lp_j (S.law11_RunEnds_14_r t_1_0 h_0_0 h_0_1 h_0_2 h_0_3 h_0_4) v j
noncomputable def S.law11_RunEnds_14_v (t_1_0 : List (Ty ET.evt)) (h_0_0 : List (Ty ET.step)) (h_0_1 : Int) (h_0_2 : Int) (h_0_3 : Int) (h_0_4 : Int) (v : S.law11_RunEnds_14_V) : S.law11_RunEnds_14_V := Lp_v (S.law11_RunEnds_14_r t_1_0 h_0_0 h_0_1 h_0_2 h_0_3 h_0_4) v
noncomputable def mk_law11_RunEnds_14 (t_1_0n : Option Bool) (t_1_0f : Bool) (t_1_0 : List (Ty ET.evt)) (t_8_0 : Int) (h_0_0n : Option Bool) (h_0_0f : Bool) (h_0_0 : List (Ty ET.step)) (h_0_1 : Int) (h_0_2 : Int) (h_0_3 : Int) (h_0_4 : Int) (v : S.law11_RunEnds_14_V) : St := ⟨[V.any, V.v false [C.d (D.sl t_1_0n t_1_0f ET.evt t_1_0)], V.v false [C.ptr 0 0], V.any, V.any, V.any, V.any, V.any, V.v false [C.d (D.sc (Sc.int IntKind.i64 t_8_0))], V.any,
  V.v false [C.ptr 45 0], V.v false [C.d (D.sc (Sc.int IntKind.i64 v.t_11_0))], V.v false [C.d (D.sc (Sc.int IntKind.i64 v.t_12_0))],
  V.v false [C.d (D.sc (Sc.int IntKind.i64 v.t_13_0))], V.any, V.any, V.any, V.any, V.any, V.any, V.any, V.any, V.any, V.any, V.any, V.any, V.any, V.any, V.any, V.any, V.any,
  V.any, V.any, V.any, V.any, V.any, V.any, V.any, V.any, V.any, V.any, V.any, V.any, V.any, V.any, V.any, V.any, V.any, V.any, V.any, V.any, V.any, V.any, V.any, V.any, V.any,
  V.any, V.any, V.any, V.any, V.any, V.any, V.any, V.any, V.any, V.any, V.any, V.any, V.any, V.any, V.any, V.any, V.any, V.any, V.any, V.any, V.any, V.any, V.any, V.any, V.any,
  V.any, V.any, V.any, V.any, V.any, V.any, V.any, V.any, V.any, V.any, V.any, V.any, V.any, V.any, V.any, V.any, V.any, V.any, V.any, V.any, V.any, V.any, V.any, V.any, V.any,
  V.any, V.any, V.any, V.any, V.any, V.any, V.any, V.any, V.any, V.any, V.any, V.any, V.any, V.any, V.any, V.any, V.any, V.any, V.any, V.any, V.any, V.any, V.any, V.any, V.any,
  V.any, V.any, V.any, V.any, V.any, V.any, V.any, V.any, V.any, V.any, V.any, V.any, V.any, V.any], [some
    (Blk.box 45
      [C.d (D.sl h_0_0n h_0_0f ET.step h_0_0), C.d (D.sc (Sc.int IntKind.i64 h_0_1)), C.d (D.sc (Sc.int IntKind.i64 h_0_2)), C.d (D.sc (Sc.int IntKind.i64 h_0_3)),
        C.d (D.sc (Sc.int IntKind.i64 h_0_4))]),
  none, none, none, none, none, none, none, none, none, none, none, none, none, none, none, none, none, none, none, none, none, none, none, none, none, none, none, none, none,
  none, none, none, none, none, none, none, none, none, none, none, none, none, none, none,
  some
    (Blk.box 55
      [C.d (D.sc (Sc.int IntKind.i64 v.h_45_0)), C.d (D.sc (Sc.int IntKind.i64 v.h_45_1)), C.d (D.sc (Sc.int IntKind.i64 v.h_45_2)), C.d (D.sc (Sc.int IntKind.i64 v.h_45_3)),
        C.d (D.sc (Sc.int IntKind.i64 v.h_45_4)), C.d (D.sc (Sc.int IntKind.i64 v.h_45_5)), C.d (D.sc (Sc.bool v.h_45_6))]),
  none, none, none, none], 0⟩
noncomputable def ex_law11_RunEnds_14 (t_1_0n : Option Bool) (t_1_0f : Bool) (t_1_0 : List (Ty ET.evt)) (t_8_0 : Int) (h_0_0n : Option Bool) (h_0_0f : Bool) (h_0_0 : List (Ty ET.step)) (h_0_1 : Int) (h_0_2 : Int) (h_0_3 : Int) (h_0_4 : Int) (j : Nat) (v : S.law11_RunEnds_14_V) : Ex × St := match j with
  | 0 => (Ex.ret, ⟨[V.any, V.any, V.v false [C.ptr 0 0], V.any, V.v false [C.d (D.sc (Sc.bool true))], V.any, V.any, V.any, V.v false [C.d (D.sc (Sc.int IntKind.i64 t_8_0))], V.any,
  V.v false [C.ptr 45 0], V.v false [C.d (D.sc (Sc.int IntKind.i64 v.t_11_0))], V.v false [C.d (D.sc (Sc.int IntKind.i64 v.t_12_0))], V.any, V.any, V.any, V.any, V.any, V.any,
  V.any, V.any, V.any, V.any, V.any, V.any, V.any, V.any, V.any, V.any, V.any, V.any, V.any, V.any, V.any, V.any, V.any, V.any, V.any, V.any, V.any, V.any, V.any, V.any, V.any,
  V.any, V.any, V.any, V.any, V.any, V.any, V.any, V.any, V.any, V.any, V.any, V.any, V.any, V.any, V.any, V.any, V.any, V.any, V.any, V.any, V.any, V.any, V.any, V.any, V.any,
  V.any, V.any, V.any, V.any, V.any, V.any, V.any, V.any, V.any, V.any, V.any, V.any, V.any, V.any, V.any, V.any, V.any, V.any, V.any, V.any, V.any, V.any, V.any, V.any, V.any,
  V.any, V.any, V.any, V.any, V.any, V.any, V.any, V.any, V.any, V.any, V.any, V.any, V.any, V.any, V.any, V.any, V.any, V.any, V.any, V.any, V.any, V.any, V.any, V.any, V.any,
  V.any, V.any, V.any, V.any, V.any, V.any, V.any, V.any, V.any, V.any, V.any, V.any, V.any, V.any, V.any, V.any, V.any, V.any, V.any, V.any, V.any, V.any, V.any, V.any, V.any,
  V.any], [some
    (Blk.box 45
      [C.d (D.sl h_0_0n h_0_0f ET.step h_0_0), C.d (D.sc (Sc.int IntKind.i64 h_0_1)), C.d (D.sc (Sc.int IntKind.i64 h_0_2)), C.d (D.sc (Sc.int IntKind.i64 h_0_3)),
        C.d (D.sc (Sc.int IntKind.i64 h_0_4))]),
  none, none, none, none, none, none, none, none, none, none, none, none, none, none, none, none, none, none, none, none, none, none, none, none, none, none, none, none, none,
  none, none, none, none, none, none, none, none, none, none, none, none, none, none, none,
  some
    (Blk.box 55
      [C.d (D.sc (Sc.int IntKind.i64 v.h_45_0)), C.d (D.sc (Sc.int IntKind.i64 v.h_45_1)), C.d (D.sc (Sc.int IntKind.i64 v.h_45_2)), C.d (D.sc (Sc.int IntKind.i64 v.h_45_3)),
        C.d (D.sc (Sc.int IntKind.i64 v.h_45_4)), C.d (D.sc (Sc.int IntKind.i64 v.h_45_5)), C.d (D.sc (Sc.bool v.h_45_6))]),
  none, none, none, none, none, none, none, none, none, none, none, none, none, none, none, none, none, none, none, none, none], 0⟩)
  | 1 => (Ex.exit 2, ⟨[V.any, V.any, V.v false [C.ptr 0 0], V.any, V.any, V.any, V.any, V.any, V.v false [C.d (D.sc (Sc.int IntKind.i64 t_8_0))], V.any, V.v false [C.ptr 45 0],
  V.v false [C.d (D.sc (Sc.int IntKind.i64 v.t_11_0))], V.v false [C.d (D.sc (Sc.int IntKind.i64 v.t_12_0))], V.any, V.any, V.any, V.any, V.any, V.any, V.any, V.any, V.any, V.any,
  V.any, V.any, V.any, V.any, V.any, V.any, V.any, V.any, V.any, V.any, V.any, V.any, V.any, V.any, V.any, V.any, V.any, V.any, V.any, V.any, V.any, V.any, V.any, V.any, V.any,
  V.any, V.any, V.any, V.any, V.any, V.any, V.any, V.any, V.any, V.any, V.any, V.any, V.any, V.any, V.any, V.any, V.any, V.any, V.any, V.any, V.any, V.any, V.any, V.any, V.any,
  V.any, V.any, V.any, V.any, V.any, V.any, V.any, V.any, V.any, V.any, V.any, V.any, V.any, V.any, V.any, V.any, V.any, V.any, V.any, V.any, V.any, V.any, V.any, V.any, V.any,
  V.any, V.any, V.any, V.any, V.any, V.any, V.any, V.any, V.any, V.any, V.any, V.any, V.any, V.any, V.any, V.any, V.any, V.any, V.any, V.any, V.any, V.any, V.any, V.any, V.any,
  V.any, V.any, V.any, V.any, V.any, V.any, V.any, V.any, V.any, V.any, V.any, V.any, V.any, V.any, V.any, V.any, V.any, V.any, V.any, V.any, V.any, V.any], [some
    (Blk.box 45
      [C.d (D.sl h_0_0n h_0_0f ET.step h_0_0), C.d (D.sc (Sc.int IntKind.i64 h_0_1)), C.d (D.sc (Sc.int IntKind.i64 h_0_2)), C.d (D.sc (Sc.int IntKind.i64 h_0_3)),
        C.d (D.sc (Sc.int IntKind.i64 h_0_4))]),
  none, none, none, none, none, none, none, none, none, none, none, none, none, none, none, none, none, none, none, none, none, none, none, none, none, none, none, none, none,
  none, none, none, none, none, none, none, none, none, none, none, none, none, none, none,
  some
    (Blk.box 55
      [C.d (D.sc (Sc.int IntKind.i64 v.h_45_0)), C.d (D.sc (Sc.int IntKind.i64 v.h_45_1)), C.d (D.sc (Sc.int IntKind.i64 v.h_45_2)), C.d (D.sc (Sc.int IntKind.i64 v.h_45_3)),
        C.d (D.sc (Sc.int IntKind.i64 v.h_45_4)), C.d (D.sc (Sc.int IntKind.i64 v.h_45_5)), C.d (D.sc (Sc.bool v.h_45_6))]),
  none, none, none, none, none, none, none, none, none, none, none, none], 0⟩)
  | _ => (.ret, ⟨[], [], 0⟩)
noncomputable def T1_law11_RunEnds_14 : V → V → V → V → V → V → V → Option Blk → Option Blk → Tree
  | V.v false [C.d (D.sl t_1_0n t_1_0f ET.evt t_1_0)], V.v false [C.ptr 0 0], V.v false [C.d (D.sc (Sc.int IntKind.i64 t_8_0))], V.v false [C.ptr 45 0], V.v false [C.d (D.sc (Sc.int IntKind.i64 t_11_0))], V.v false [C.d (D.sc (Sc.int IntKind.i64 t_12_0))], V.v false [C.d (D.sc (Sc.int IntKind.i64 t_13_0))], some (Blk.box 45 [C.d (D.sl h_0_0n h_0_0f ET.step h_0_0), C.d (D.sc (Sc.int IntKind.i64 h_0_1)), C.d (D.sc (Sc.int IntKind.i64 h_0_2)), C.d (D.sc (Sc.int IntKind.i64 h_0_3)), C.d (D.sc (Sc.int IntKind.i64 h_0_4))]), some (Blk.box 55 [C.d (D.sc (Sc.int IntKind.i64 h_45_0)), C.d (D.sc (Sc.int IntKind.i64 h_45_1)), C.d (D.sc (Sc.int IntKind.i64 h_45_2)), C.d (D.sc (Sc.int IntKind.i64 h_45_3)), C.d (D.sc (Sc.int IntKind.i64 h_45_4)), C.d (D.sc (Sc.int IntKind.i64 h_45_5)), C.d (D.sc (Sc.bool h_45_6))]) => exT (fun j => ex_law11_RunEnds_14 t_1_0n t_1_0f t_1_0 t_8_0 h_0_0n h_0_0f h_0_0 h_0_1 h_0_2 h_0_3 h_0_4 j (S.law11_RunEnds_14_v t_1_0 h_0_0 h_0_1 h_0_2 h_0_3 h_0_4 ⟨t_11_0, t_12_0, t_13_0, h_45_0, h_45_1, h_45_2, h_45_3, h_45_4, h_45_5, h_45_6⟩)) (S.law11_RunEnds_14_j t_1_0 h_0_0 h_0_1 h_0_2 h_0_3 h_0_4 ⟨t_11_0, t_12_0, t_13_0, h_45_0, h_45_1, h_45_2, h_45_3, h_45_4, h_45_5, h_45_6⟩) [0, 1]
  | _, _, _, _, _, _, _, _, _ => .bad
noncomputable def T_law11_RunEnds_14 (st : St) : Tree := bif okSt 145 50 0 [0, 45] st then T1_law11_RunEnds_14 (st.env.getD 1 .any) (st.env.getD 2 .any) (st.env.getD 8 .any) (st.env.getD 10 .any) (st.env.getD 11 .any) (st.env.getD 12 .any) (st.env.getD 13 .any) (lk st.heap 0) (lk st.heap 45) else .bad
noncomputable def b_law11_RunEnds_14 : Code := loopBy Try.f11 14
theorem rnd_law11_RunEnds_14 (t_1_0n : Option Bool) (t_1_0f : Bool) (t_1_0 : List (Ty ET.evt)) (t_8_0 : Int) (h_0_0n : Option Bool) (h_0_0f : Bool) (h_0_0 : List (Ty ET.step)) (h_0_1 : Int) (h_0_2 : Int) (h_0_3 : Int) (h_0_4 : Int) (v : S.law11_RunEnds_14_V) : round2 cx_law11_RunEnds (hdI cx_law11_RunEnds (find [(8, T_law11_RunEnds_8)]) [] none 0) 11 b_law11_RunEnds_14 [] 50 [2, 4, 8, 10, 11, 12] (mk_law11_RunEnds_14 t_1_0n t_1_0f t_1_0 t_8_0 h_0_0n h_0_0f h_0_0 h_0_1 h_0_2 h_0_3 h_0_4 v) = (S.law11_RunEnds_14_R t_1_0 h_0_0 h_0_1 h_0_2 h_0_3 h_0_4 v).go (roundOut (mk_law11_RunEnds_14 t_1_0n t_1_0f t_1_0 t_8_0 h_0_0n h_0_0f h_0_0 h_0_1 h_0_2 h_0_3 h_0_4) (ex_law11_RunEnds_14 t_1_0n t_1_0f t_1_0 t_8_0 h_0_0n h_0_0f h_0_0 h_0_1 h_0_2 h_0_3 h_0_4)) := by kernel_rfl
theorem bs_law11_RunEnds_14 : loopsOf b_law11_RunEnds_14 ++ loopsInl [] = [] := by kernel_rfl
theorem ci_law11_RunEnds_14 (t_1_0n : Option Bool) (t_1_0f : Bool) (t_1_0 : List (Ty ET.evt)) (t_8_0 : Int) (h_0_0n : Option Bool) (h_0_0f : Bool) (h_0_0 : List (Ty ET.step)) (h_0_1 : Int) (h_0_2 : Int) (h_0_3 : Int) (h_0_4 : Int) : ∀ v j v2, Lp (S.law11_RunEnds_14_r t_1_0 h_0_0 h_0_1 h_0_2 h_0_3 h_0_4) v = some (j, v2) → Circles Try.prog cx_law11_RunEnds b_law11_RunEnds_14 (mk_law11_RunEnds_14 t_1_0n t_1_0f t_1_0 t_8_0 h_0_0n h_0_0f h_0_0 h_0_1 h_0_2 h_0_3 h_0_4 v) (ex_law11_RunEnds_14 t_1_0n t_1_0f t_1_0 t_8_0 h_0_0n h_0_0f h_0_0 h_0_1 h_0_2 h_0_3 h_0_4 j v2).1 (ex_law11_RunEnds_14 t_1_0n t_1_0f t_1_0 t_8_0 h_0_0n h_0_0f h_0_0 h_0_1 h_0_2 h_0_3 h_0_4 j v2).2 :=
  loop_ok2 (L := find [(8, T_law11_RunEnds_8)]) (n := 0) (hints := [(11, 14, { keep := [1, 2, 8, 10, 11, 12, 13], acc := [] }), (11, 8, { keep := [1, 2, 8, 9], acc := [] })]) (cx_ok rfl) rdy_law11_RunEnds bs_law11_RunEnds_14 nilB (fun v => (rnd_law11_RunEnds_14 t_1_0n t_1_0f t_1_0 t_8_0 h_0_0n h_0_0f h_0_0 h_0_1 h_0_2 h_0_3 h_0_4 v).trans (DT.go_run _ _)) (by intro j v; unfold ex_law11_RunEnds_14; split <;> rfl)
theorem mke_law11_RunEnds_14 (t_1_0n : Option Bool) (t_1_0f : Bool) (t_1_0 : List (Ty ET.evt)) (t_8_0 : Int) (h_0_0n : Option Bool) (h_0_0f : Bool) (h_0_0 : List (Ty ET.step)) (h_0_1 : Int) (h_0_2 : Int) (h_0_3 : Int) (h_0_4 : Int) (v : S.law11_RunEnds_14_V) : mk_law11_RunEnds_14 t_1_0n t_1_0f t_1_0 t_8_0 h_0_0n h_0_0f h_0_0 h_0_1 h_0_2 h_0_3 h_0_4 v = ⟨envOf 145 [(1, V.v false [C.d (D.sl t_1_0n t_1_0f ET.evt t_1_0)]), (2, V.v false [C.ptr 0 0]), (8, V.v false [C.d (D.sc (Sc.int IntKind.i64 t_8_0))]), (10, V.v false [C.ptr 45 0]), (11, V.v false [C.d (D.sc (Sc.int IntKind.i64 v.t_11_0))]), (12, V.v false [C.d (D.sc (Sc.int IntKind.i64 v.t_12_0))]), (13, V.v false [C.d (D.sc (Sc.int IntKind.i64 v.t_13_0))])], heapOf 50 [(0, some
  (Blk.box 45
    [C.d (D.sl h_0_0n h_0_0f ET.step h_0_0), C.d (D.sc (Sc.int IntKind.i64 h_0_1)), C.d (D.sc (Sc.int IntKind.i64 h_0_2)), C.d (D.sc (Sc.int IntKind.i64 h_0_3)),
      C.d (D.sc (Sc.int IntKind.i64 h_0_4))])), (45, some
  (Blk.box 55
    [C.d (D.sc (Sc.int IntKind.i64 v.h_45_0)), C.d (D.sc (Sc.int IntKind.i64 v.h_45_1)), C.d (D.sc (Sc.int IntKind.i64 v.h_45_2)), C.d (D.sc (Sc.int IntKind.i64 v.h_45_3)),
      C.d (D.sc (Sc.int IntKind.i64 v.h_45_4)), C.d (D.sc (Sc.int IntKind.i64 v.h_45_5)), C.d (D.sc (Sc.bool v.h_45_6))]))], 0⟩ := by kernel_rfl
theorem lo1_law11_RunEnds_14 (e1 : V) (e2 : V) (e8 : V) (e10 : V) (e11 : V) (e12 : V) (e13 : V) (h0 : Option Blk) (h45 : Option Blk) e st2 (h : (T1_law11_RunEnds_14 e1 e2 e8 e10 e11 e12 e13 h0 h45).eval = some (e, st2)) : Circles Try.prog cx_law11_RunEnds b_law11_RunEnds_14 ⟨envOf 145 [(1, e1), (2, e2), (8, e8), (10, e10), (11, e11), (12, e12), (13, e13)], heapOf 50 [(0, h0), (45, h45)], 0⟩ e st2 := by
  unfold T1_law11_RunEnds_14 at h
  split at h
  · have := loop_tree (mk := mk_law11_RunEnds_14 _ _ _ _ _ _ _ _ _ _ _) (ci_law11_RunEnds_14 _ _ _ _ _ _ _ _ _ _ _) _ _ e st2 h
    rw [mke_law11_RunEnds_14] at this
    exact this
  · cases h
theorem lok_law11_RunEnds_14 : LoopOk Try.prog cx_law11_RunEnds b_law11_RunEnds_14 T_law11_RunEnds_14 := by
  intro st e st2 h
  unfold T_law11_RunEnds_14 at h
  cases hk : okSt 145 50 0 [0, 45] st with
  | false => rw [hk] at h; cases h
  | true =>
    rw [hk] at h
    exact circles_keep (ks := [1, 2, 8, 10, 11, 12, 13]) hk (lo1_law11_RunEnds_14 _ _ _ _ _ _ _ _ _ e st2 h)
structure S.law11_RunEnds_T where
  x0 : Bool
  deriving Inhabited
noncomputable def S.law11_RunEnds_R (a0_0 : List (Ty .step)) (a0_1 : Int) (a0_2 : Int) (a0_3 : Int) (a0_4 : Int) (a1 : List (Ty .evt)) : DT S.law11_RunEnds_T :=
let y0 : Int := (↑a1.length : Int)
let y1 : S.law11_RunEnds_8_V := { t_8_0 := 0, t_9_0 := 0 : S.law11_RunEnds_8_V }
let y2 : Ty ET.evt := a1.getD (Int.toNat 0) (dflt ET.evt)
let y3 : ByteArray := y2.name
let y4 : Int := y2.at_
let y5 : List Val := y2.v
let y6 : S.run_Begin_T := S.run_Begin_o a0_0 a0_2 a0_3 a0_4 y3 y4 y5 0
let y7 : S.law11_RunEnds_14_V := { t_11_0 := y6.x7, t_12_0 := 1, t_13_0 := 1, h_45_0 := y6.x0, h_45_1 := y6.x1, h_45_2 := y6.x2, h_45_3 := y6.x3, h_45_4 := y6.x4, h_45_5 := y6.x5, h_45_6 := y6.x6 :
  S.law11_RunEnds_14_V }
let y8 : S.law11_RunEnds_14_V := S.law11_RunEnds_14_v a1 a0_0 a0_1 a0_2 a0_3 a0_4 y7
let y9 : Bool := xdec (y8.t_12_0 ≤ (S.law11_RunEnds_8_v a0_0 y1).t_8_0)
let y10 : Bool := xdec (0 ≤ a0_3) && xdec (a0_3 < (↑a0_0.length : Int))
let y11 : Int := y8.h_45_4
let y12 : Bool := xdec (y11 ≤ (a0_0.getD a0_3.toNat (dflt ET.step)).max)
(.br (S.law11_awake_is)
(.br (S.law09_Few_is a0_0)
(.br (S.ref09_May_is a0_0 a0_1 a0_2 a0_3 a0_4)
(.br (xnot S.law11_awake_o.x0)
(.leaf ⟨S.law11_awake_o.x0⟩)
(.br (xnot (S.law09_Few_o a0_0).x0)
(.leaf ⟨S.law11_awake_o.x0⟩)
(.br (xnot (S.ref09_May_o a0_0 a0_1 a0_2 a0_3 a0_4).x0)
(.leaf ⟨S.law11_awake_o.x0⟩)
(.br (xeqI y0 0)
(.leaf ⟨S.law11_awake_o.x0⟩)
(.br (xdec (y0 > 30))
(.leaf ⟨S.law11_awake_o.x0⟩)
(.br (S.law11_RunEnds_8_j a0_0 y1 0)
(.br (xdec (0 ≤ 0) && xdec (0 < y0))
(.br (S.run_Begin_is a0_0 a0_2 a0_3 a0_4 y3 y4 y5 0)
(.br (S.law11_RunEnds_14_j a1 a0_0 a0_1 a0_2 a0_3 a0_4 y7 0)
(.leaf ⟨true⟩)
(.br (S.law11_RunEnds_14_j a1 a0_0 a0_1 a0_2 a0_3 a0_4 y7 1)
(.br (xeqI y8.t_11_0 1)
(.leaf ⟨true⟩)
(.br (xneI a0_2 0)
(.br (y9)
(.br (y10)
(.br (y12)
(.leaf ⟨true⟩)
(.leaf ⟨false⟩))
.fail)
(.leaf ⟨false⟩))
(.br (xeqI y8.h_45_5 y11)
(.br (y9)
(.br (y10)
(.br (y12)
(.leaf ⟨xnot y8.h_45_6⟩)
(.leaf ⟨false⟩))
.fail)
(.leaf ⟨false⟩))
(.br (y9)
(.br (y10)
(.br (y12)
(.leaf ⟨false⟩)
(.leaf ⟨false⟩))
.fail)
(.leaf ⟨false⟩)))))
.fail))
.fail)
.fail)
.fail))))))
.fail)
.fail)
.fail)
noncomputable def S.law11_RunEnds (a0_0 : List (Ty .step)) (a0_1 : Int) (a0_2 : Int) (a0_3 : Int) (a0_4 : Int) (a1 : List (Ty .evt)) : Option S.law11_RunEnds_T := (S.law11_RunEnds_R a0_0 a0_1 a0_2 a0_3 a0_4 a1).run
noncomputable def S.law11_RunEnds_is (a0_0 : List (Ty .step)) (a0_1 : Int) (a0_2 : Int) (a0_3 : Int) (a0_4 : Int) (a1 : List (Ty .evt)) : Bool := (S.law11_RunEnds a0_0 a0_1 a0_2 a0_3 a0_4 a1).isSome
noncomputable def S.law11_RunEnds_o (a0_0 : List (Ty .step)) (a0_1 : Int) (a0_2 : Int) (a0_3 : Int) (a0_4 : Int) (a1 : List (Ty .evt)) : S.law11_RunEnds_T := (S.law11_RunEnds a0_0 a0_1 a0_2 a0_3 a0_4 a1).getD default
noncomputable def ret_law11_RunEnds (b : Bool) (r : S.law11_RunEnds_T) : Ret := ⟨b, none, [(false, [C.d (D.sc (Sc.bool r.x0))])]⟩
noncomputable def g_law11_RunEnds : Con
  | [(true, [.sl a0_0n a0_0f .step a0_0, .sc (.int .i64 a0_1), .sc (.int .i64 a0_2), .sc (.int .i64 a0_3), .sc (.int .i64 a0_4)]), (false, [.sl a1n a1f .evt a1])] => some (ret_law11_RunEnds (S.law11_RunEnds_is a0_0 a0_1 a0_2 a0_3 a0_4 a1) (S.law11_RunEnds_o a0_0 a0_1 a0_2 a0_3 a0_4 a1))
  | _ => none
theorem raw_law11_RunEnds (a0_0n : Option Bool) (a0_0f : Bool) (a0_0 : List (Ty .step)) (a0_1 : Int) (a0_2 : Int) (a0_3 : Int) (a0_4 : Int) (a1n : Option Bool) (a1f : Bool) (a1 : List (Ty .evt)) : evR2 cx_law11_RunEnds (hdI cx_law11_RunEnds (find [(8, T_law11_RunEnds_8), (14, T_law11_RunEnds_14)]) [] none 0) none Try.f11 11 none [(true, [.sl a0_0n a0_0f .step a0_0, .sc (.int .i64 a0_1), .sc (.int .i64 a0_2), .sc (.int .i64 a0_3), .sc (.int .i64 a0_4)]), (false, [.sl a1n a1f .evt a1])] some = (S.law11_RunEnds_R a0_0 a0_1 a0_2 a0_3 a0_4 a1).go (ret_law11_RunEnds true) := by kernel_rfl
theorem bs_law11_RunEnds : loopsIn Try.f11 [] = [b_law11_RunEnds_8, b_law11_RunEnds_14] := by kernel_rfl
theorem law11_RunEnds_ok : Stands Try.prog tyTab 11 g_law11_RunEnds := by
  refine stands3 (L := find [(8, T_law11_RunEnds_8), (14, T_law11_RunEnds_14)]) (n := 0) (hints := [(11, 14, { keep := [1, 2, 8, 10, 11, 12, 13], acc := [] }), (11, 8, { keep := [1, 2, 8, 9], acc := [] })]) (cx_ok rfl) rdy_law11_RunEnds ⟨by kernel_rfl, by kernel_rfl, by kernel_rfl⟩ bs_law11_RunEnds (consB (fun T h => by have e : T_law11_RunEnds_8 = T := Option.some.inj (show some T_law11_RunEnds_8 = some T from h); exact e ▸ lok_law11_RunEnds_8) (consB (fun T h => by have e : T_law11_RunEnds_14 = T := Option.some.inj (show some T_law11_RunEnds_14 = some T from h); exact e ▸ lok_law11_RunEnds_14) nilB)) (fun das r hG hr => ?_)
  unfold g_law11_RunEnds at hG
  split at hG
  · rename_i a0_0n a0_0f a0_0 a0_1 a0_2 a0_3 a0_4 a1n a1f a1
    injection hG with hG; subst hG
    exact ⟨none, true, win default ((raw_law11_RunEnds a0_0n a0_0f a0_0 a0_1 a0_2 a0_3 a0_4 a1n a1f a1).trans (DT.go_run _ _)) hr⟩
  · cases hG
end Go.Eng
