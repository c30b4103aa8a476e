/- Contracts, laid by program. -/
import Derived.Test.YtbjeikmkngcjlaaZG5
set_option linter.unusedVariables false
set_option linter.unusedSimpArgs false
namespace Go.Eng
open Go Go.Eng Go.Proofs Go.Eng.Tab
noncomputable abbrev cx_law11_RunTwice : Cx := mkCx2 tyTab [(36, g_law06_Few), (49, g_law11_awake), (50, g_law09_Few), (51, g_ref09_May), (52, g_run_Begin), (53, g_run_May), (54, g_run_Next)] [] [(14, 8, { keep := [3, 4, 5, 11], acc := [] })] []
theorem rdy_law11_RunTwice : Ready Try.prog tyTab [(36, g_law06_Few), (49, g_law11_awake), (50, g_law09_Few), (51, g_ref09_May), (52, g_run_Begin), (53, g_run_May), (54, g_run_Next)] [] [] := ⟨consG2 law06_Few_ok (consG2 law11_awake_ok (consG2 law09_Few_ok (consG2 ref09_May_ok (consG2 run_Begin_ok (consG2 run_May_ok (consG2 run_Next_ok (noneG2))))))), noneI2, noneF2⟩
structure S.law11_RunTwice_8_V where
  t_11_0 : Int
noncomputable def S.law11_RunTwice_8_R (h_0_0 : List (Ty ET.step)) (h_2_0 : ByteArray) (v : S.law11_RunTwice_8_V) : DT (Option Nat × S.law11_RunTwice_8_V) :=
let y0 : Bool := xdec (v.t_11_0 < (↑h_0_0.length : Int))
let y1 : Bool := xdec (0 ≤ v.t_11_0) && y0
let y2 : Ty ET.step := h_0_0.getD v.t_11_0.toNat (dflt ET.step)
let y3 : Int := xwrap IntKind.i64 (v.t_11_0 + 1)
(.br (y0)
(.br (y1)
(.br (xdec (y2.name = h_2_0))
(.leaf (some 0, v))
(.br (y1)
(.br (y2.guard)
(.br (y1)
(.br (xdec (y2.notName = h_2_0))
(.leaf (some 0, v))
(.leaf (none, ⟨y3⟩)))
.fail)
(.leaf (none, ⟨y3⟩)))
.fail))
.fail)
(.leaf (some 1, v)))
noncomputable def S.law11_RunTwice_8_r (h_0_0 : List (Ty ET.step)) (h_2_0 : ByteArray) (v : S.law11_RunTwice_8_V) : Option (Option Nat × S.law11_RunTwice_8_V) := (S.law11_RunTwice_8_R h_0_0 h_2_0 v).run
noncomputable def S.law11_RunTwice_8_j (h_0_0 : List (Ty ET.step)) (h_2_0 : ByteArray) (v : S.law11_RunTwice_8_V) (j : Nat) : Bool := Lp_j (S.law11_RunTwice_8_r h_0_0 h_2_0) v j
noncomputable def S.law11_RunTwice_8_v (h_0_0 : List (Ty ET.step)) (h_2_0 : ByteArray) (v : S.law11_RunTwice_8_V) : S.law11_RunTwice_8_V := Lp_v (S.law11_RunTwice_8_r h_0_0 h_2_0) v
noncomputable def mk_law11_RunTwice_8 (h_0_0n : Option Bool) (h_0_0f : Bool) (h_0_0 : List (Ty ET.step)) (h_0_1 : Int) (h_0_2 : Int) (h_0_3 : Int) (h_0_4 : Int) (h_1_0 : Int) (h_1_1 : Int) (h_1_2 : Int) (h_1_3 : Int) (h_1_4 : Int) (h_1_5 : Int) (h_1_6 : Bool) (h_2_0 : ByteArray) (h_2_1 : Int) (h_2_2n : Option Bool) (h_2_2f : Bool) (h_2_2 : List (Ty ET.val)) (v : S.law11_RunTwice_8_V) : St := ⟨[V.any, V.any, V.any, V.v false [C.ptr 0 0], V.v false [C.ptr 1 0], V.v false [C.ptr 2 0], V.any, V.any, V.any, V.any, V.any, V.v false [C.d (D.sc (Sc.int IntKind.i64 v.t_11_0))],
  V.any, V.any, V.any, V.any, V.any, V.any, V.any, V.any, V.any, V.any, V.any, V.any, V.any, V.any, V.any, V.any, V.any, V.any, V.any, V.any, V.any, V.any, V.any, V.any, V.any,
  V.any, V.any, V.any, V.any, V.any, V.any, V.any, V.any, V.any, V.any, V.any, V.any, V.any, V.any, V.any, V.any, V.any, V.any, V.any, V.any, V.any, V.any, V.any, V.any, V.any,
  V.any, V.any, V.any, V.any, V.any, V.any, V.any, V.any, V.any, V.any, V.any, V.any, V.any, V.any, V.any, V.any, V.any, V.any, V.any, V.any, V.any, V.any, V.any, V.any, V.any,
  V.any, V.any, V.any, V.any, V.any, V.any, V.any, V.any, V.any, V.any, V.any, V.any, V.any, V.any, V.any, V.any, V.any, V.any, V.any, V.any, V.any, V.any, V.any], [some
    (Blk.box 45
      [C.d (D.sl h_0_0n h_0_0f ET.step h_0_0), C.d (D.sc (Sc.int IntKind.i64 h_0_1)), C.d (D.sc (Sc.int IntKind.i64 h_0_2)), C.d (D.sc (Sc.int IntKind.i64 h_0_3)),
        C.d (D.sc (Sc.int IntKind.i64 h_0_4))]),
  some
    (Blk.box 55
      [C.d (D.sc (Sc.int IntKind.i64 h_1_0)), C.d (D.sc (Sc.int IntKind.i64 h_1_1)), C.d (D.sc (Sc.int IntKind.i64 h_1_2)), C.d (D.sc (Sc.int IntKind.i64 h_1_3)),
        C.d (D.sc (Sc.int IntKind.i64 h_1_4)), C.d (D.sc (Sc.int IntKind.i64 h_1_5)), C.d (D.sc (Sc.bool h_1_6))]),
  some (Blk.box 29 [C.d (D.sc (Sc.str h_2_0)), C.d (D.sc (Sc.int IntKind.i64 h_2_1)), C.d (D.sl h_2_2n h_2_2f ET.val h_2_2)]), none, none, none, none, none, none, none, none, none,
  none, none, none, none, none, none, none, none, none, none, none, none, none, none, none, none, none, none, none, none, none, none, none, none, none, none, none, none, none,
  none, none], 0⟩
noncomputable def ex_law11_RunTwice_8 (h_0_0n : Option Bool) (h_0_0f : Bool) (h_0_0 : List (Ty ET.step)) (h_0_1 : Int) (h_0_2 : Int) (h_0_3 : Int) (h_0_4 : Int) (h_1_0 : Int) (h_1_1 : Int) (h_1_2 : Int) (h_1_3 : Int) (h_1_4 : Int) (h_1_5 : Int) (h_1_6 : Bool) (h_2_0 : ByteArray) (h_2_1 : Int) (h_2_2n : Option Bool) (h_2_2f : Bool) (h_2_2 : List (Ty ET.val)) (j : Nat) (v : S.law11_RunTwice_8_V) : Ex × St := match j with
  | 0 => (Ex.ret, ⟨[V.any, V.any, V.any, V.v false [C.ptr 0 0], V.v false [C.ptr 1 0], V.v false [C.ptr 2 0], V.v false [C.d (D.sc (Sc.bool true))], V.any, V.any, V.any, V.any, V.any, V.any, V.any,
  V.any, V.any, V.any, V.any, V.any, V.any, V.any, V.any, V.any, V.any, V.any, V.any, V.any, V.any, V.any, V.any, V.any, V.any, V.any, V.any, V.any, V.any, V.any, V.any, V.any,
  V.any, V.any, V.any, V.any, V.any, V.any, V.any, V.any, V.any, V.any, V.any, V.any, V.any, V.any, V.any, V.any, V.any, V.any, V.any, V.any, V.any, V.any, V.any, V.any, V.any,
  V.any, V.any, V.any, V.any, V.any, V.any, V.any, V.any, V.any, V.any, V.any, V.any, V.any, V.any, V.any, V.any, V.any, V.any, V.any, V.any, V.any, V.any, V.any, V.any, V.any,
  V.any, V.any, V.any, V.any, V.any, V.any, V.any, V.any, V.any, V.any, V.any, V.any, V.any, V.any, V.any, V.any, V.any, V.any, V.any, V.any, V.any], [some
    (Blk.box 45
      [C.d (D.sl h_0_0n h_0_0f ET.step h_0_0), C.d (D.sc (Sc.int IntKind.i64 h_0_1)), C.d (D.sc (Sc.int IntKind.i64 h_0_2)), C.d (D.sc (Sc.int IntKind.i64 h_0_3)),
        C.d (D.sc (Sc.int IntKind.i64 h_0_4))]),
  some
    (Blk.box 55
      [C.d (D.sc (Sc.int IntKind.i64 h_1_0)), C.d (D.sc (Sc.int IntKind.i64 h_1_1)), C.d (D.sc (Sc.int IntKind.i64 h_1_2)), C.d (D.sc (Sc.int IntKind.i64 h_1_3)),
        C.d (D.sc (Sc.int IntKind.i64 h_1_4)), C.d (D.sc (Sc.int IntKind.i64 h_1_5)), C.d (D.sc (Sc.bool h_1_6))]),
  some (Blk.box 29 [C.d (D.sc (Sc.str h_2_0)), C.d (D.sc (Sc.int IntKind.i64 h_2_1)), C.d (D.sl h_2_2n h_2_2f ET.val h_2_2)]), none, none, none, none, none, none, none, none, none,
  none, none, none, none, none, none, none, none, none, none, none, none, none, none, none, none, none, none, none, none, none, none, none, none, none, none, none, none, none,
  none, none, none, none, none, none, none, none, none, none, none, none, none, none, none, none, none, none, none, none, none, none, none, none, none, none, none, none, none,
  none, none, none, none, none, none, none], 0⟩)
  | 1 => (Ex.exit 0, ⟨[V.any, V.any, V.any, V.v false [C.ptr 0 0], V.v false [C.ptr 1 0], V.v false [C.ptr 2 0], V.any, V.any, V.any, V.any, V.any, V.any, V.any, V.any, V.any, V.any, V.any, V.any,
  V.any, V.any, V.any, V.any, V.any, V.any, V.any, V.any, V.any, V.any, V.any, V.any, V.any, V.any, V.any, V.any, V.any, V.any, V.any, V.any, V.any, V.any, V.any, V.any, V.any,
  V.any, V.any, V.any, V.any, V.any, V.any, V.any, V.any, V.any, V.any, V.any, V.any, V.any, V.any, V.any, V.any, V.any, V.any, V.any, V.any, V.any, V.any, V.any, V.any, V.any,
  V.any, V.any, V.any, V.any, V.any, V.any, V.any, V.any, V.any, V.any, V.any, V.any, V.any, V.any, V.any, V.any, V.any, V.any, V.any, V.any, V.any, V.any, V.any, V.any, V.any,
  V.any, V.any, V.any, V.any, V.any, V.any, V.any, V.any, V.any, V.any, V.any, V.any, V.any, V.any, V.any, V.any, V.any], [some
    (Blk.box 45
      [C.d (D.sl h_0_0n h_0_0f ET.step h_0_0), C.d (D.sc (Sc.int IntKind.i64 h_0_1)), C.d (D.sc (Sc.int IntKind.i64 h_0_2)), C.d (D.sc (Sc.int IntKind.i64 h_0_3)),
        C.d (D.sc (Sc.int IntKind.i64 h_0_4))]),
  some
    (Blk.box 55
      [C.d (D.sc (Sc.int IntKind.i64 h_1_0)), C.d (D.sc (Sc.int IntKind.i64 h_1_1)), C.d (D.sc (Sc.int IntKind.i64 h_1_2)), C.d (D.sc (Sc.int IntKind.i64 h_1_3)),
        C.d (D.sc (Sc.int IntKind.i64 h_1_4)), C.d (D.sc (Sc.int IntKind.i64 h_1_5)), C.d (D.sc (Sc.bool h_1_6))]),
  some (Blk.box 29 [C.d (D.sc (Sc.str h_2_0)), C.d (D.sc (Sc.int IntKind.i64 h_2_1)), C.d (D.sl h_2_2n h_2_2f ET.val h_2_2)]), none, none, none, none, none, none, none, none, none,
  none, none, none, none, none, none, none, none, none, none, none, none, none, none, none, none, none, none, none, none, none, none, none, none, none, none, none, none, none,
  none, none, none, none, none, none, none], 0⟩)
  | _ => (.ret, ⟨[], [], 0⟩)
noncomputable def T1_law11_RunTwice_8 : V → V → V → V → Option Blk → Option Blk → Option Blk → Tree
  | V.v false [C.ptr 0 0], V.v false [C.ptr 1 0], V.v false [C.ptr 2 0], V.v false [C.d (D.sc (Sc.int IntKind.i64 t_11_0))], some (Blk.box 45 [C.d (D.sl h_0_0n h_0_0f ET.step h_0_0), C.d (D.sc (Sc.int IntKind.i64 h_0_1)), C.d (D.sc (Sc.int IntKind.i64 h_0_2)), C.d (D.sc (Sc.int IntKind.i64 h_0_3)), C.d (D.sc (Sc.int IntKind.i64 h_0_4))]), some (Blk.box 55 [C.d (D.sc (Sc.int IntKind.i64 h_1_0)), C.d (D.sc (Sc.int IntKind.i64 h_1_1)), C.d (D.sc (Sc.int IntKind.i64 h_1_2)), C.d (D.sc (Sc.int IntKind.i64 h_1_3)), C.d (D.sc (Sc.int IntKind.i64 h_1_4)), C.d (D.sc (Sc.int IntKind.i64 h_1_5)), C.d (D.sc (Sc.bool h_1_6))]), some (Blk.box 29 [C.d (D.sc (Sc.str h_2_0)), C.d (D.sc (Sc.int IntKind.i64 h_2_1)), C.d (D.sl h_2_2n h_2_2f ET.val h_2_2)]) => exT (fun j => ex_law11_RunTwice_8 h_0_0n h_0_0f h_0_0 h_0_1 h_0_2 h_0_3 h_0_4 h_1_0 h_1_1 h_1_2 h_1_3 h_1_4 h_1_5 h_1_6 h_2_0 h_2_1 h_2_2n h_2_2f h_2_2 j (S.law11_RunTwice_8_v h_0_0 h_2_0 ⟨t_11_0⟩)) (S.law11_RunTwice_8_j h_0_0 h_2_0 ⟨t_11_0⟩) [0, 1]
  | _, _, _, _, _, _, _ => .bad
noncomputable def T_law11_RunTwice_8 (st : St) : Tree := bif okSt 110 43 0 [0, 1, 2] st then T1_law11_RunTwice_8 (st.env.getD 3 .any) (st.env.getD 4 .any) (st.env.getD 5 .any) (st.env.getD 11 .any) (lk st.heap 0) (lk st.heap 1) (lk st.heap 2) else .bad
noncomputable def b_law11_RunTwice_8 : Code := loopBy Try.f14 8
theorem rnd_law11_RunTwice_8 (h_0_0n : Option Bool) (h_0_0f : Bool) (h_0_0 : List (Ty ET.step)) (h_0_1 : Int) (h_0_2 : Int) (h_0_3 : Int) (h_0_4 : Int) (h_1_0 : Int) (h_1_1 : Int) (h_1_2 : Int) (h_1_3 : Int) (h_1_4 : Int) (h_1_5 : Int) (h_1_6 : Bool) (h_2_0 : ByteArray) (h_2_1 : Int) (h_2_2n : Option Bool) (h_2_2f : Bool) (h_2_2 : List (Ty ET.val)) (v : S.law11_RunTwice_8_V) : round2 cx_law11_RunTwice (hdI cx_law11_RunTwice (find []) [] none 0) 14 b_law11_RunTwice_8 [] 43 [3, 4, 5, 6] (mk_law11_RunTwice_8 h_0_0n h_0_0f h_0_0 h_0_1 h_0_2 h_0_3 h_0_4 h_1_0 h_1_1 h_1_2 h_1_3 h_1_4 h_1_5 h_1_6 h_2_0 h_2_1 h_2_2n h_2_2f h_2_2 v) = (S.law11_RunTwice_8_R h_0_0 h_2_0 v).go (roundOut (mk_law11_RunTwice_8 h_0_0n h_0_0f h_0_0 h_0_1 h_0_2 h_0_3 h_0_4 h_1_0 h_1_1 h_1_2 h_1_3 h_1_4 h_1_5 h_1_6 h_2_0 h_2_1 h_2_2n h_2_2f h_2_2) (ex_law11_RunTwice_8 h_0_0n h_0_0f h_0_0 h_0_1 h_0_2 h_0_3 h_0_4 h_1_0 h_1_1 h_1_2 h_1_3 h_1_4 h_1_5 h_1_6 h_2_0 h_2_1 h_2_2n h_2_2f h_2_2)) := by kernel_rfl
theorem bs_law11_RunTwice_8 : loopsOf b_law11_RunTwice_8 ++ loopsInl [] = [] := by kernel_rfl
theorem ci_law11_RunTwice_8 (h_0_0n : Option Bool) (h_0_0f : Bool) (h_0_0 : List (Ty ET.step)) (h_0_1 : Int) (h_0_2 : Int) (h_0_3 : Int) (h_0_4 : Int) (h_1_0 : Int) (h_1_1 : Int) (h_1_2 : Int) (h_1_3 : Int) (h_1_4 : Int) (h_1_5 : Int) (h_1_6 : Bool) (h_2_0 : ByteArray) (h_2_1 : Int) (h_2_2n : Option Bool) (h_2_2f : Bool) (h_2_2 : List (Ty ET.val)) : ∀ v j v2, Lp (S.law11_RunTwice_8_r h_0_0 h_2_0) v = some (j, v2) → Circles Try.prog cx_law11_RunTwice b_law11_RunTwice_8 (mk_law11_RunTwice_8 h_0_0n h_0_0f h_0_0 h_0_1 h_0_2 h_0_3 h_0_4 h_1_0 h_1_1 h_1_2 h_1_3 h_1_4 h_1_5 h_1_6 h_2_0 h_2_1 h_2_2n h_2_2f h_2_2 v) (ex_law11_RunTwice_8 h_0_0n h_0_0f h_0_0 h_0_1 h_0_2 h_0_3 h_0_4 h_1_0 h_1_1 h_1_2 h_1_3 h_1_4 h_1_5 h_1_6 h_2_0 h_2_1 h_2_2n h_2_2f h_2_2 j v2).1 (ex_law11_RunTwice_8 h_0_0n h_0_0f h_0_0 h_0_1 h_0_2 h_0_3 h_0_4 h_1_0 h_1_1 h_1_2 h_1_3 h_1_4 h_1_5 h_1_6 h_2_0 h_2_1 h_2_2n h_2_2f h_2_2 j v2).2 :=
  loop_ok2 (L := find []) (n := 0) (hints := [(14, 8, { keep := [3, 4, 5, 11], acc := [] })]) (cx_ok rfl) rdy_law11_RunTwice bs_law11_RunTwice_8 nilB (fun v => (rnd_law11_RunTwice_8 h_0_0n h_0_0f h_0_0 h_0_1 h_0_2 h_0_3 h_0_4 h_1_0 h_1_1 h_1_2 h_1_3 h_1_4 h_1_5 h_1_6 h_2_0 h_2_1 h_2_2n h_2_2f h_2_2 v).trans (DT.go_run _ _)) (by intro j v; unfold ex_law11_RunTwice_8; split <;> rfl)
theorem mke_law11_RunTwice_8 (h_0_0n : Option Bool) (h_0_0f : Bool) (h_0_0 : List (Ty ET.step)) (h_0_1 : Int) (h_0_2 : Int) (h_0_3 : Int) (h_0_4 : Int) (h_1_0 : Int) (h_1_1 : Int) (h_1_2 : Int) (h_1_3 : Int) (h_1_4 : Int) (h_1_5 : Int) (h_1_6 : Bool) (h_2_0 : ByteArray) (h_2_1 : Int) (h_2_2n : Option Bool) (h_2_2f : Bool) (h_2_2 : List (Ty ET.val)) (v : S.law11_RunTwice_8_V) : mk_law11_RunTwice_8 h_0_0n h_0_0f h_0_0 h_0_1 h_0_2 h_0_3 h_0_4 h_1_0 h_1_1 h_1_2 h_1_3 h_1_4 h_1_5 h_1_6 h_2_0 h_2_1 h_2_2n h_2_2f h_2_2 v = ⟨envOf 110 [(3, V.v false [C.ptr 0 0]), (4, V.v false [C.ptr 1 0]), (5, V.v false [C.ptr 2 0]), (11, V.v false [C.d (D.sc (Sc.int IntKind.i64 v.t_11_0))])], heapOf 43 [(0, some
  (Blk.box 45
    [C.d (D.sl h_0_0n h_0_0f ET.step h_0_0), C.d (D.sc (Sc.int IntKind.i64 h_0_1)), C.d (D.sc (Sc.int IntKind.i64 h_0_2)), C.d (D.sc (Sc.int IntKind.i64 h_0_3)),
      C.d (D.sc (Sc.int IntKind.i64 h_0_4))])), (1, some
  (Blk.box 55
    [C.d (D.sc (Sc.int IntKind.i64 h_1_0)), C.d (D.sc (Sc.int IntKind.i64 h_1_1)), C.d (D.sc (Sc.int IntKind.i64 h_1_2)), C.d (D.sc (Sc.int IntKind.i64 h_1_3)),
      C.d (D.sc (Sc.int IntKind.i64 h_1_4)), C.d (D.sc (Sc.int IntKind.i64 h_1_5)), C.d (D.sc (Sc.bool h_1_6))])), (2, some (Blk.box 29 [C.d (D.sc (Sc.str h_2_0)), C.d (D.sc (Sc.int IntKind.i64 h_2_1)), C.d (D.sl h_2_2n h_2_2f ET.val h_2_2)]))], 0⟩ := by kernel_rfl
theorem lo1_law11_RunTwice_8 (e3 : V) (e4 : V) (e5 : V) (e11 : V) (h0 : Option Blk) (h1 : Option Blk) (h2 : Option Blk) e st2 (h : (T1_law11_RunTwice_8 e3 e4 e5 e11 h0 h1 h2).eval = some (e, st2)) : Circles Try.prog cx_law11_RunTwice b_law11_RunTwice_8 ⟨envOf 110 [(3, e3), (4, e4), (5, e5), (11, e11)], heapOf 43 [(0, h0), (1, h1), (2, h2)], 0⟩ e st2 := by
  unfold T1_law11_RunTwice_8 at h
  split at h
  · have := loop_tree (mk := mk_law11_RunTwice_8 _ _ _ _ _ _ _ _ _ _ _ _ _ _ _ _ _ _ _) (ci_law11_RunTwice_8 _ _ _ _ _ _ _ _ _ _ _ _ _ _ _ _ _ _ _) _ _ e st2 h
    rw [mke_law11_RunTwice_8] at this
    exact this
  · cases h
theorem lok_law11_RunTwice_8 : LoopOk Try.prog cx_law11_RunTwice b_law11_RunTwice_8 T_law11_RunTwice_8 := by
  intro st e st2 h
  unfold T_law11_RunTwice_8 at h
  cases hk : okSt 110 43 0 [0, 1, 2] st with
  | false => rw [hk] at h; cases h
  | true =>
    rw [hk] at h
    exact circles_keep (ks := [3, 4, 5, 11]) hk (lo1_law11_RunTwice_8 _ _ _ _ _ _ _ e st2 h)
structure S.law11_RunTwice_T where
  x0 : Bool
  deriving Inhabited
noncomputable def S.law11_RunTwice_R (a0_0 : List (Ty .step)) (a0_1 : Int) (a0_2 : Int) (a0_3 : Int) (a0_4 : Int) (a1_0 : Int) (a1_1 : Int) (a1_2 : Int) (a1_3 : Int) (a1_4 : Int) (a1_5 : Int) (a1_6 : Bool) (a2_0 : ByteArray) (a2_1 : Int) (a2_2 : List (Ty .val)) : DT S.law11_RunTwice_T :=
let y0 : S.law11_RunTwice_8_V := { t_11_0 := 0 : S.law11_RunTwice_8_V }
let y1 : S.run_Next_T := S.run_Next_o a0_0 a0_1 a0_2 a0_3 a0_4 a1_0 a1_1 a1_2 a1_3 a1_4 a1_5 a1_6 a2_0 a2_1 a2_2
(.br (S.law11_awake_is)
(.br (S.law09_Few_is a0_0)
(.br (S.law06_Few_is a2_0 a2_2)
(.br (S.ref09_May_is a0_0 a0_1 a0_2 a0_3 a0_4)
(.br (xnot S.law11_awake_o.x0)
(.leaf ⟨S.law11_awake_o.x0⟩)
(.br (xnot (S.law09_Few_o a0_0).x0)
(.leaf ⟨S.law11_awake_o.x0⟩)
(.br (xnot (S.law06_Few_o a2_0 a2_2).x0)
(.leaf ⟨S.law11_awake_o.x0⟩)
(.br (xnot (S.ref09_May_o a0_0 a0_1 a0_2 a0_3 a0_4).x0)
(.leaf ⟨S.law11_awake_o.x0⟩)
(.br (S.run_May_is a0_0 a1_2 a1_3 a1_4)
(.br (xnot (S.run_May_o a0_0 a1_2 a1_3 a1_4).x0)
(.leaf ⟨S.law11_awake_o.x0⟩)
(.br (xneI a2_1 a1_1)
(.leaf ⟨S.law11_awake_o.x0⟩)
(.br (S.law11_RunTwice_8_j a0_0 a2_0 y0 0)
(.leaf ⟨true⟩)
(.br (S.law11_RunTwice_8_j a0_0 a2_0 y0 1)
(.br (S.run_Next_is a0_0 a0_1 a0_2 a0_3 a0_4 a1_0 a1_1 a1_2 a1_3 a1_4 a1_5 a1_6 a2_0 a2_1 a2_2)
(.br (S.run_Begin_is a0_0 a0_2 a0_3 a0_4 a2_0 a2_1 a2_2 0)
(.br (xeqI y1.x0 a1_0 && (xeqI y1.x1 a1_1 && (xeqI y1.x2 a1_2 && (xeqI y1.x3 a1_3 && (xeqI y1.x4 a1_4 && (xeqI y1.x5 a1_5 && xeqB y1.x6 a1_6))))))
(.br (xeqI y1.x7 0)
(.leaf ⟨xeqI (S.run_Begin_o a0_0 a0_2 a0_3 a0_4 a2_0 a2_1 a2_2 0).x7 1⟩)
(.leaf ⟨false⟩))
(.leaf ⟨false⟩))
.fail)
.fail)
.fail))))
.fail)))))
.fail)
.fail)
.fail)
.fail)
noncomputable def S.law11_RunTwice (a0_0 : List (Ty .step)) (a0_1 : Int) (a0_2 : Int) (a0_3 : Int) (a0_4 : Int) (a1_0 : Int) (a1_1 : Int) (a1_2 : Int) (a1_3 : Int) (a1_4 : Int) (a1_5 : Int) (a1_6 : Bool) (a2_0 : ByteArray) (a2_1 : Int) (a2_2 : List (Ty .val)) : Option S.law11_RunTwice_T := (S.law11_RunTwice_R a0_0 a0_1 a0_2 a0_3 a0_4 a1_0 a1_1 a1_2 a1_3 a1_4 a1_5 a1_6 a2_0 a2_1 a2_2).run
noncomputable def S.law11_RunTwice_is (a0_0 : List (Ty .step)) (a0_1 : Int) (a0_2 : Int) (a0_3 : Int) (a0_4 : Int) (a1_0 : Int) (a1_1 : Int) (a1_2 : Int) (a1_3 : Int) (a1_4 : Int) (a1_5 : Int) (a1_6 : Bool) (a2_0 : ByteArray) (a2_1 : Int) (a2_2 : List (Ty .val)) : Bool := (S.law11_RunTwice a0_0 a0_1 a0_2 a0_3 a0_4 a1_0 a1_1 a1_2 a1_3 a1_4 a1_5 a1_6 a2_0 a2_1 a2_2).isSome
noncomputable def S.law11_RunTwice_o (a0_0 : List (Ty .step)) (a0_1 : Int) (a0_2 : Int) (a0_3 : Int) (a0_4 : Int) (a1_0 : Int) (a1_1 : Int) (a1_2 : Int) (a1_3 : Int) (a1_4 : Int) (a1_5 : Int) (a1_6 : Bool) (a2_0 : ByteArray) (a2_1 : Int) (a2_2 : List (Ty .val)) : S.law11_RunTwice_T := (S.law11_RunTwice a0_0 a0_1 a0_2 a0_3 a0_4 a1_0 a1_1 a1_2 a1_3 a1_4 a1_5 a1_6 a2_0 a2_1 a2_2).getD default
noncomputable def ret_law11_RunTwice (b : Bool) (r : S.law11_RunTwice_T) : Ret := ⟨b, none, [(false, [C.d (D.sc (Sc.bool r.x0))])]⟩
noncomputable def g_law11_RunTwice : Con
  | [(true, [.sl a0_0n a0_0f .step a0_0, .sc (.int .i64 a0_1), .sc (.int .i64 a0_2), .sc (.int .i64 a0_3), .sc (.int .i64 a0_4)]), (true, [.sc (.int .i64 a1_0), .sc (.int .i64 a1_1), .sc (.int .i64 a1_2), .sc (.int .i64 a1_3), .sc (.int .i64 a1_4), .sc (.int .i64 a1_5), .sc (.bool a1_6)]), (true, [.sc (.str a2_0), .sc (.int .i64 a2_1), .sl a2_2n a2_2f .val a2_2])] => some (ret_law11_RunTwice (S.law11_RunTwice_is a0_0 a0_1 a0_2 a0_3 a0_4 a1_0 a1_1 a1_2 a1_3 a1_4 a1_5 a1_6 a2_0 a2_1 a2_2) (S.law11_RunTwice_o a0_0 a0_1 a0_2 a0_3 a0_4 a1_0 a1_1 a1_2 a1_3 a1_4 a1_5 a1_6 a2_0 a2_1 a2_2))
  | _ => none
theorem raw_law11_RunTwice (a0_0n : Option Bool) (a0_0f : Bool) (a0_0 : List (Ty .step)) (a0_1 : Int) (a0_2 : Int) (a0_3 : Int) (a0_4 : Int) (a1_0 : Int) (a1_1 : Int) (a1_2 : Int) (a1_3 : Int) (a1_4 : Int) (a1_5 : Int) (a1_6 : Bool) (a2_0 : ByteArray) (a2_1 : Int) (a2_2n : Option Bool) (a2_2f : Bool) (a2_2 : List (Ty .val)) : evR2 cx_law11_RunTwice (hdI cx_law11_RunTwice (find [(8, T_law11_RunTwice_8)]) [] none 0) none Try.f14 14 none [(true, [.sl a0_0n a0_0f .step a0_0, .sc (.int .i64 a0_1), .sc (.int .i64 a0_2), .sc (.int .i64 a0_3), .sc (.int .i64 a0_4)]), (true, [.sc (.int .i64 a1_0), .sc (.int .i64 a1_1), .sc (.int .i64 a1_2), .sc (.int .i64 a1_3), .sc (.int .i64 a1_4), .sc (.int .i64 a1_5), .sc (.bool a1_6)]), (true, [.sc (.str a2_0), .sc (.int .i64 a2_1), .sl a2_2n a2_2f .val a2_2])] some = (S.law11_RunTwice_R a0_0 a0_1 a0_2 a0_3 a0_4 a1_0 a1_1 a1_2 a1_3 a1_4 a1_5 a1_6 a2_0 a2_1 a2_2).go (ret_law11_RunTwice true) := by kernel_rfl
theorem bs_law11_RunTwice : loopsIn Try.f14 [] = [b_law11_RunTwice_8] := by kernel_rfl
theorem law11_RunTwice_ok : Stands Try.prog tyTab 14 g_law11_RunTwice := by
  refine stands3 (L := find [(8, T_law11_RunTwice_8)]) (n := 0) (hints := [(14, 8, { keep := [3, 4, 5, 11], acc := [] })]) (cx_ok rfl) rdy_law11_RunTwice ⟨by kernel_rfl, by kernel_rfl, by kernel_rfl⟩ bs_law11_RunTwice (consB (fun T h => by have e : T_law11_RunTwice_8 = T := Option.some.inj (show some T_law11_RunTwice_8 = some T from h); exact e ▸ lok_law11_RunTwice_8) nilB) (fun das r hG hr => ?_)
  unfold g_law11_RunTwice at hG
  split at hG
  · rename_i a0_0n a0_0f a0_0 a0_1 a0_2 a0_3 a0_4 a1_0 a1_1 a1_2 a1_3 a1_4 a1_5 a1_6 a2_0 a2_1 a2_2n a2_2f a2_2
    injection hG with hG; subst hG
    exact ⟨none, true, win default ((raw_law11_RunTwice a0_0n a0_0f a0_0 a0_1 a0_2 a0_3 a0_4 a1_0 a1_1 a1_2 a1_3 a1_4 a1_5 a1_6 a2_0 a2_1 a2_2n a2_2f a2_2).trans (DT.go_run _ _)) hr⟩
  · cases hG
end Go.Eng
