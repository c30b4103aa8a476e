/- Contracts, laid by program. -/
import Derived.Test.YtbjeikmkngcjlaaZG8
set_option linter.unusedVariables false
set_option linter.unusedSimpArgs false
namespace Go.Eng
open Go Go.Eng Go.Proofs Go.Eng.Tab
noncomputable abbrev cx_law13_MatchRoom : Cx := mkCx2 tyTab [(36, g_law06_Few), (51, g_ref09_May), (55, g_law13_awake), (56, g_law13_Few), (57, g_match_May), (58, g_match_Feed), (59, g_ref13_Same)] [] [(15, 9, { keep := [3, 4, 5, 6, 14], acc := [] })] []
theorem rdy_law13_MatchRoom : Ready Try.prog tyTab [(36, g_law06_Few), (51, g_ref09_May), (55, g_law13_awake), (56, g_law13_Few), (57, g_match_May), (58, g_match_Feed), (59, g_ref13_Same)] [] [] := ⟨consG2 law06_Few_ok (consG2 ref09_May_ok (consG2 law13_awake_ok (consG2 law13_Few_ok (consG2 match_May_ok (consG2 match_Feed_ok (consG2 ref13_Same_ok (noneG2))))))), noneI2, noneF2⟩
structure S.law13_MatchRoom_9_V where
  t_14_0 : Int
noncomputable def S.law13_MatchRoom_9_R (h_0_5 : List (Ty ET.run)) (v : S.law13_MatchRoom_9_V) : DT (Option Nat × S.law13_MatchRoom_9_V) :=
let y0 : Bool := xdec (v.t_14_0 < (↑h_0_5.length : Int))
(.br (y0)
(.br (xdec (0 ≤ v.t_14_0) && y0)
(.br (xdec ((h_0_5.getD v.t_14_0.toNat (dflt ET.run)).many > 1099511627776))
(.leaf (some 0, v))
(.leaf (none, ⟨xwrap IntKind.i64 (v.t_14_0 + 1)⟩)))
.fail)
(.leaf (some 1, v)))
noncomputable def S.law13_MatchRoom_9_r (h_0_5 : List (Ty ET.run)) (v : S.law13_MatchRoom_9_V) : Option (Option Nat × S.law13_MatchRoom_9_V) := (S.law13_MatchRoom_9_R h_0_5 v).run
noncomputable def S.law13_MatchRoom_9_j (h_0_5 : List (Ty ET.run)) (v : S.law13_MatchRoom_9_V) (j : Nat) : Bool := Lp_j (S.law13_MatchRoom_9_r h_0_5) v j
noncomputable def S.law13_MatchRoom_9_v (h_0_5 : List (Ty ET.run)) (v : S.law13_MatchRoom_9_V) : S.law13_MatchRoom_9_V := Lp_v (S.law13_MatchRoom_9_r h_0_5) v
noncomputable def mk_law13_MatchRoom_9 (t_3_0 : Int) (h_0_0n : Option Bool) (h_0_0f : Bool) (h_0_0 : List (Ty ET.step)) (h_0_1 : Int) (h_0_2 : Int) (h_0_3 : Int) (h_0_4 : Int) (h_0_5n : Option Bool) (h_0_5f : Bool) (h_0_5 : List (Ty ET.run)) (h_0_6 : Int) (h_1_0 : ByteArray) (h_1_1 : Int) (h_1_2n : Option Bool) (h_1_2f : Bool) (h_1_2 : List (Ty ET.val)) (h_2_0 : ByteArray) (h_2_1 : Int) (h_2_2n : Option Bool) (h_2_2f : Bool) (h_2_2 : List (Ty ET.val)) (v : S.law13_MatchRoom_9_V) : St := ⟨[V.any, V.any, V.any, V.v false [C.d (D.sc (Sc.int IntKind.i64 t_3_0))], V.v false [C.ptr 0 0], V.v false [C.ptr 1 0], V.v false [C.ptr 2 0], V.any, V.any, V.any, V.any, V.any,
  V.any, V.any, V.v false [C.d (D.sc (Sc.int IntKind.i64 v.t_14_0))], V.any, V.any, V.any, V.any, V.any, V.any, V.any, V.any, V.any, V.any, V.any, V.any, V.any, V.any, V.any,
  V.any, V.any, V.any, V.any, V.any, V.any, V.any, V.any, V.any, V.any, V.any, V.any, V.any, V.any, V.any, V.any, V.any, V.any, V.any, V.any, V.any, V.any, V.any, V.any, V.any,
  V.any, V.any, V.any, V.any, V.any, V.any, V.any, V.any, V.any, V.any, V.any, V.any, V.any, V.any, V.any, V.any, V.any, V.any, V.any, V.any, V.any, V.any, V.any, V.any, V.any,
  V.any, V.any, V.any, V.any, V.any, V.any, V.any, V.any, V.any, V.any, V.any, V.any, V.any, V.any, V.any, V.any, V.any, V.any, V.any, V.any, V.any, V.any, V.any, V.any, V.any,
  V.any, V.any, V.any, V.any, V.any, V.any, V.any, V.any, V.any, V.any, V.any, V.any, V.any, V.any, V.any, V.any, V.any, V.any, V.any, V.any], [some
    (Blk.box 71
      [C.d (D.sl h_0_0n h_0_0f ET.step h_0_0), C.d (D.sc (Sc.int IntKind.i64 h_0_1)), C.d (D.sc (Sc.int IntKind.i64 h_0_2)), C.d (D.sc (Sc.int IntKind.i64 h_0_3)),
        C.d (D.sc (Sc.int IntKind.i64 h_0_4)), C.d (D.sl h_0_5n h_0_5f ET.run h_0_5), C.d (D.sc (Sc.int IntKind.i64 h_0_6))]),
  some (Blk.box 29 [C.d (D.sc (Sc.str h_1_0)), C.d (D.sc (Sc.int IntKind.i64 h_1_1)), C.d (D.sl h_1_2n h_1_2f ET.val h_1_2)]),
  some (Blk.box 29 [C.d (D.sc (Sc.str h_2_0)), C.d (D.sc (Sc.int IntKind.i64 h_2_1)), C.d (D.sl h_2_2n h_2_2f ET.val h_2_2)]), none, none, none, none, none, none, none, none, none,
  none, none, none, none, none, none, none, none, none, none, none, none, none, none, none, none, none, none, none, none, none, none, none, none, none, none, none, none, none,
  none, none], 0⟩
noncomputable def ex_law13_MatchRoom_9 (t_3_0 : Int) (h_0_0n : Option Bool) (h_0_0f : Bool) (h_0_0 : List (Ty ET.step)) (h_0_1 : Int) (h_0_2 : Int) (h_0_3 : Int) (h_0_4 : Int) (h_0_5n : Option Bool) (h_0_5f : Bool) (h_0_5 : List (Ty ET.run)) (h_0_6 : Int) (h_1_0 : ByteArray) (h_1_1 : Int) (h_1_2n : Option Bool) (h_1_2f : Bool) (h_1_2 : List (Ty ET.val)) (h_2_0 : ByteArray) (h_2_1 : Int) (h_2_2n : Option Bool) (h_2_2f : Bool) (h_2_2 : List (Ty ET.val)) (j : Nat) (v : S.law13_MatchRoom_9_V) : Ex × St := match j with
  | 0 => (Ex.ret, ⟨[V.any, V.any, V.any, V.v false [C.d (D.sc (Sc.int IntKind.i64 t_3_0))], V.v false [C.ptr 0 0], V.v false [C.ptr 1 0], V.v false [C.ptr 2 0], V.any,
  V.v false [C.d (D.sc (Sc.bool true))], V.any, V.any, V.any, V.any, V.any, V.any, V.any, V.any, V.any, V.any, V.any, V.any, V.any, V.any, V.any, V.any, V.any, V.any, V.any, V.any,
  V.any, V.any, V.any, V.any, V.any, V.any, V.any, V.any, V.any, V.any, V.any, V.any, V.any, V.any, V.any, V.any, V.any, V.any, V.any, V.any, V.any, V.any, V.any, V.any, V.any,
  V.any, V.any, V.any, V.any, V.any, V.any, V.any, V.any, V.any, V.any, V.any, V.any, V.any, V.any, V.any, V.any, V.any, V.any, V.any, V.any, V.any, V.any, V.any, V.any, V.any,
  V.any, V.any, V.any, V.any, V.any, V.any, V.any, V.any, V.any, V.any, V.any, V.any, V.any, V.any, V.any, V.any, V.any, V.any, V.any, V.any, V.any, V.any, V.any, V.any, V.any,
  V.any, V.any, V.any, V.any, V.any, V.any, V.any, V.any, V.any, V.any, V.any, V.any, V.any, V.any, V.any, V.any, V.any, V.any, V.any, V.any, V.any], [some
    (Blk.box 71
      [C.d (D.sl h_0_0n h_0_0f ET.step h_0_0), C.d (D.sc (Sc.int IntKind.i64 h_0_1)), C.d (D.sc (Sc.int IntKind.i64 h_0_2)), C.d (D.sc (Sc.int IntKind.i64 h_0_3)),
        C.d (D.sc (Sc.int IntKind.i64 h_0_4)), C.d (D.sl h_0_5n h_0_5f ET.run h_0_5), C.d (D.sc (Sc.int IntKind.i64 h_0_6))]),
  some (Blk.box 29 [C.d (D.sc (Sc.str h_1_0)), C.d (D.sc (Sc.int IntKind.i64 h_1_1)), C.d (D.sl h_1_2n h_1_2f ET.val h_1_2)]),
  some (Blk.box 29 [C.d (D.sc (Sc.str h_2_0)), C.d (D.sc (Sc.int IntKind.i64 h_2_1)), C.d (D.sl h_2_2n h_2_2f ET.val h_2_2)]), none, none, none, none, none, none, none, none, none,
  none, none, none, none, none, none, none, none, none, none, none, none, none, none, none, none, none, none, none, none, none, none, none, none, none, none, none, none, none,
  none, none, none, none, none, none, none, none, none, none, none, none, none, none, none], 0⟩)
  | 1 => (Ex.exit 0, ⟨[V.any, V.any, V.any, V.v false [C.d (D.sc (Sc.int IntKind.i64 t_3_0))], V.v false [C.ptr 0 0], V.v false [C.ptr 1 0], V.v false [C.ptr 2 0], V.any, V.any, V.any, V.any, V.any,
  V.any, V.any, V.any, V.any, V.any, V.any, V.any, V.any, V.any, V.any, V.any, V.any, V.any, V.any, V.any, V.any, V.any, V.any, V.any, V.any, V.any, V.any, V.any, V.any, V.any,
  V.any, V.any, V.any, V.any, V.any, V.any, V.any, V.any, V.any, V.any, V.any, V.any, V.any, V.any, V.any, V.any, V.any, V.any, V.any, V.any, V.any, V.any, V.any, V.any, V.any,
  V.any, V.any, V.any, V.any, V.any, V.any, V.any, V.any, V.any, V.any, V.any, V.any, V.any, V.any, V.any, V.any, V.any, V.any, V.any, V.any, V.any, V.any, V.any, V.any, V.any,
  V.any, V.any, V.any, V.any, V.any, V.any, V.any, V.any, V.any, V.any, V.any, V.any, V.any, V.any, V.any, V.any, V.any, V.any, V.any, V.any, V.any, V.any, V.any, V.any, V.any,
  V.any, V.any, V.any, V.any, V.any, V.any, V.any, V.any, V.any, V.any, V.any, V.any, V.any], [some
    (Blk.box 71
      [C.d (D.sl h_0_0n h_0_0f ET.step h_0_0), C.d (D.sc (Sc.int IntKind.i64 h_0_1)), C.d (D.sc (Sc.int IntKind.i64 h_0_2)), C.d (D.sc (Sc.int IntKind.i64 h_0_3)),
        C.d (D.sc (Sc.int IntKind.i64 h_0_4)), C.d (D.sl h_0_5n h_0_5f ET.run h_0_5), C.d (D.sc (Sc.int IntKind.i64 h_0_6))]),
  some (Blk.box 29 [C.d (D.sc (Sc.str h_1_0)), C.d (D.sc (Sc.int IntKind.i64 h_1_1)), C.d (D.sl h_1_2n h_1_2f ET.val h_1_2)]),
  some (Blk.box 29 [C.d (D.sc (Sc.str h_2_0)), C.d (D.sc (Sc.int IntKind.i64 h_2_1)), C.d (D.sl h_2_2n h_2_2f ET.val h_2_2)]), none, none, none, none, none, none, none, none, none,
  none, none, none, none, none, none, none, none, none, none, none, none, none, none, none, none, none, none, none, none, none, none, none, none, none, none, none, none, none,
  none, none, none, none, none, none, none], 0⟩)
  | _ => (.ret, ⟨[], [], 0⟩)
noncomputable def T1_law13_MatchRoom_9 : V → V → V → V → V → Option Blk → Option Blk → Option Blk → Tree
  | V.v false [C.d (D.sc (Sc.int IntKind.i64 t_3_0))], V.v false [C.ptr 0 0], V.v false [C.ptr 1 0], V.v false [C.ptr 2 0], V.v false [C.d (D.sc (Sc.int IntKind.i64 t_14_0))], some (Blk.box 71 [C.d (D.sl h_0_0n h_0_0f ET.step h_0_0), C.d (D.sc (Sc.int IntKind.i64 h_0_1)), C.d (D.sc (Sc.int IntKind.i64 h_0_2)), C.d (D.sc (Sc.int IntKind.i64 h_0_3)), C.d (D.sc (Sc.int IntKind.i64 h_0_4)), C.d (D.sl h_0_5n h_0_5f ET.run h_0_5), C.d (D.sc (Sc.int IntKind.i64 h_0_6))]), some (Blk.box 29 [C.d (D.sc (Sc.str h_1_0)), C.d (D.sc (Sc.int IntKind.i64 h_1_1)), C.d (D.sl h_1_2n h_1_2f ET.val h_1_2)]), some (Blk.box 29 [C.d (D.sc (Sc.str h_2_0)), C.d (D.sc (Sc.int IntKind.i64 h_2_1)), C.d (D.sl h_2_2n h_2_2f ET.val h_2_2)]) => exT (fun j => ex_law13_MatchRoom_9 t_3_0 h_0_0n h_0_0f h_0_0 h_0_1 h_0_2 h_0_3 h_0_4 h_0_5n h_0_5f h_0_5 h_0_6 h_1_0 h_1_1 h_1_2n h_1_2f h_1_2 h_2_0 h_2_1 h_2_2n h_2_2f h_2_2 j (S.law13_MatchRoom_9_v h_0_5 ⟨t_14_0⟩)) (S.law13_MatchRoom_9_j h_0_5 ⟨t_14_0⟩) [0, 1]
  | _, _, _, _, _, _, _, _ => .bad
noncomputable def T_law13_MatchRoom_9 (st : St) : Tree := bif okSt 125 43 0 [0, 1, 2] st then T1_law13_MatchRoom_9 (st.env.getD 3 .any) (st.env.getD 4 .any) (st.env.getD 5 .any) (st.env.getD 6 .any) (st.env.getD 14 .any) (lk st.heap 0) (lk st.heap 1) (lk st.heap 2) else .bad
noncomputable def b_law13_MatchRoom_9 : Code := loopBy Try.f15 9
theorem rnd_law13_MatchRoom_9 (t_3_0 : Int) (h_0_0n : Option Bool) (h_0_0f : Bool) (h_0_0 : List (Ty ET.step)) (h_0_1 : Int) (h_0_2 : Int) (h_0_3 : Int) (h_0_4 : Int) (h_0_5n : Option Bool) (h_0_5f : Bool) (h_0_5 : List (Ty ET.run)) (h_0_6 : Int) (h_1_0 : ByteArray) (h_1_1 : Int) (h_1_2n : Option Bool) (h_1_2f : Bool) (h_1_2 : List (Ty ET.val)) (h_2_0 : ByteArray) (h_2_1 : Int) (h_2_2n : Option Bool) (h_2_2f : Bool) (h_2_2 : List (Ty ET.val)) (v : S.law13_MatchRoom_9_V) : round2 cx_law13_MatchRoom (hdI cx_law13_MatchRoom (find []) [] none 0) 15 b_law13_MatchRoom_9 [] 43 [3, 4, 5, 6, 8] (mk_law13_MatchRoom_9 t_3_0 h_0_0n h_0_0f h_0_0 h_0_1 h_0_2 h_0_3 h_0_4 h_0_5n h_0_5f h_0_5 h_0_6 h_1_0 h_1_1 h_1_2n h_1_2f h_1_2 h_2_0 h_2_1 h_2_2n h_2_2f h_2_2 v) = (S.law13_MatchRoom_9_R h_0_5 v).go (roundOut (mk_law13_MatchRoom_9 t_3_0 h_0_0n h_0_0f h_0_0 h_0_1 h_0_2 h_0_3 h_0_4 h_0_5n h_0_5f h_0_5 h_0_6 h_1_0 h_1_1 h_1_2n h_1_2f h_1_2 h_2_0 h_2_1 h_2_2n h_2_2f h_2_2) (ex_law13_MatchRoom_9 t_3_0 h_0_0n h_0_0f h_0_0 h_0_1 h_0_2 h_0_3 h_0_4 h_0_5n h_0_5f h_0_5 h_0_6 h_1_0 h_1_1 h_1_2n h_1_2f h_1_2 h_2_0 h_2_1 h_2_2n h_2_2f h_2_2)) := by kernel_rfl
theorem bs_law13_MatchRoom_9 : loopsOf b_law13_MatchRoom_9 ++ loopsInl [] = [] := by kernel_rfl
theorem ci_law13_MatchRoom_9 (t_3_0 : Int) (h_0_0n : Option Bool) (h_0_0f : Bool) (h_0_0 : List (Ty ET.step)) (h_0_1 : Int) (h_0_2 : Int) (h_0_3 : Int) (h_0_4 : Int) (h_0_5n : Option Bool) (h_0_5f : Bool) (h_0_5 : List (Ty ET.run)) (h_0_6 : Int) (h_1_0 : ByteArray) (h_1_1 : Int) (h_1_2n : Option Bool) (h_1_2f : Bool) (h_1_2 : List (Ty ET.val)) (h_2_0 : ByteArray) (h_2_1 : Int) (h_2_2n : Option Bool) (h_2_2f : Bool) (h_2_2 : List (Ty ET.val)) : ∀ v j v2, Lp (S.law13_MatchRoom_9_r h_0_5) v = some (j, v2) → Circles Try.prog cx_law13_MatchRoom b_law13_MatchRoom_9 (mk_law13_MatchRoom_9 t_3_0 h_0_0n h_0_0f h_0_0 h_0_1 h_0_2 h_0_3 h_0_4 h_0_5n h_0_5f h_0_5 h_0_6 h_1_0 h_1_1 h_1_2n h_1_2f h_1_2 h_2_0 h_2_1 h_2_2n h_2_2f h_2_2 v) (ex_law13_MatchRoom_9 t_3_0 h_0_0n h_0_0f h_0_0 h_0_1 h_0_2 h_0_3 h_0_4 h_0_5n h_0_5f h_0_5 h_0_6 h_1_0 h_1_1 h_1_2n h_1_2f h_1_2 h_2_0 h_2_1 h_2_2n h_2_2f h_2_2 j v2).1 (ex_law13_MatchRoom_9 t_3_0 h_0_0n h_0_0f h_0_0 h_0_1 h_0_2 h_0_3 h_0_4 h_0_5n h_0_5f h_0_5 h_0_6 h_1_0 h_1_1 h_1_2n h_1_2f h_1_2 h_2_0 h_2_1 h_2_2n h_2_2f h_2_2 j v2).2 :=
  loop_ok2 (L := find []) (n := 0) (hints := [(15, 9, { keep := [3, 4, 5, 6, 14], acc := [] })]) (cx_ok rfl) rdy_law13_MatchRoom bs_law13_MatchRoom_9 nilB (fun v => (rnd_law13_MatchRoom_9 t_3_0 h_0_0n h_0_0f h_0_0 h_0_1 h_0_2 h_0_3 h_0_4 h_0_5n h_0_5f h_0_5 h_0_6 h_1_0 h_1_1 h_1_2n h_1_2f h_1_2 h_2_0 h_2_1 h_2_2n h_2_2f h_2_2 v).trans (DT.go_run _ _)) (by intro j v; unfold ex_law13_MatchRoom_9; split <;> rfl)
theorem mke_law13_MatchRoom_9 (t_3_0 : Int) (h_0_0n : Option Bool) (h_0_0f : Bool) (h_0_0 : List (Ty ET.step)) (h_0_1 : Int) (h_0_2 : Int) (h_0_3 : Int) (h_0_4 : Int) (h_0_5n : Option Bool) (h_0_5f : Bool) (h_0_5 : List (Ty ET.run)) (h_0_6 : Int) (h_1_0 : ByteArray) (h_1_1 : Int) (h_1_2n : Option Bool) (h_1_2f : Bool) (h_1_2 : List (Ty ET.val)) (h_2_0 : ByteArray) (h_2_1 : Int) (h_2_2n : Option Bool) (h_2_2f : Bool) (h_2_2 : List (Ty ET.val)) (v : S.law13_MatchRoom_9_V) : mk_law13_MatchRoom_9 t_3_0 h_0_0n h_0_0f h_0_0 h_0_1 h_0_2 h_0_3 h_0_4 h_0_5n h_0_5f h_0_5 h_0_6 h_1_0 h_1_1 h_1_2n h_1_2f h_1_2 h_2_0 h_2_1 h_2_2n h_2_2f h_2_2 v = ⟨envOf 125 [(3, V.v false [C.d (D.sc (Sc.int IntKind.i64 t_3_0))]), (4, V.v false [C.ptr 0 0]), (5, V.v false [C.ptr 1 0]), (6, V.v false [C.ptr 2 0]), (14, V.v false [C.d (D.sc (Sc.int IntKind.i64 v.t_14_0))])], heapOf 43 [(0, some
  (Blk.box 71
    [C.d (D.sl h_0_0n h_0_0f ET.step h_0_0), C.d (D.sc (Sc.int IntKind.i64 h_0_1)), C.d (D.sc (Sc.int IntKind.i64 h_0_2)), C.d (D.sc (Sc.int IntKind.i64 h_0_3)),
      C.d (D.sc (Sc.int IntKind.i64 h_0_4)), C.d (D.sl h_0_5n h_0_5f ET.run h_0_5), C.d (D.sc (Sc.int IntKind.i64 h_0_6))])), (1, some (Blk.box 29 [C.d (D.sc (Sc.str h_1_0)), C.d (D.sc (Sc.int IntKind.i64 h_1_1)), C.d (D.sl h_1_2n h_1_2f ET.val h_1_2)])), (2, some (Blk.box 29 [C.d (D.sc (Sc.str h_2_0)), C.d (D.sc (Sc.int IntKind.i64 h_2_1)), C.d (D.sl h_2_2n h_2_2f ET.val h_2_2)]))], 0⟩ := by kernel_rfl
theorem lo1_law13_MatchRoom_9 (e3 : V) (e4 : V) (e5 : V) (e6 : V) (e14 : V) (h0 : Option Blk) (h1 : Option Blk) (h2 : Option Blk) e st2 (h : (T1_law13_MatchRoom_9 e3 e4 e5 e6 e14 h0 h1 h2).eval = some (e, st2)) : Circles Try.prog cx_law13_MatchRoom b_law13_MatchRoom_9 ⟨envOf 125 [(3, e3), (4, e4), (5, e5), (6, e6), (14, e14)], heapOf 43 [(0, h0), (1, h1), (2, h2)], 0⟩ e st2 := by
  unfold T1_law13_MatchRoom_9 at h
  split at h
  · have := loop_tree (mk := mk_law13_MatchRoom_9 _ _ _ _ _ _ _ _ _ _ _ _ _ _ _ _ _ _ _ _ _ _) (ci_law13_MatchRoom_9 _ _ _ _ _ _ _ _ _ _ _ _ _ _ _ _ _ _ _ _ _ _) _ _ e st2 h
    rw [mke_law13_MatchRoom_9] at this
    exact this
  · cases h
theorem lok_law13_MatchRoom_9 : LoopOk Try.prog cx_law13_MatchRoom b_law13_MatchRoom_9 T_law13_MatchRoom_9 := by
  intro st e st2 h
  unfold T_law13_MatchRoom_9 at h
  cases hk : okSt 125 43 0 [0, 1, 2] st with
  | false => rw [hk] at h; cases h
  | true =>
    rw [hk] at h
    exact circles_keep (ks := [3, 4, 5, 6, 14]) hk (lo1_law13_MatchRoom_9 _ _ _ _ _ _ _ _ e st2 h)
structure S.law13_MatchRoom_T where
  x0 : Bool
  deriving Inhabited
noncomputable def S.law13_MatchRoom_R (a0_0 : List (Ty .step)) (a0_1 : Int) (a0_2 : Int) (a0_3 : Int) (a0_4 : Int) (a0_5 : List (Ty .run)) (a0_6 : Int) (a1_0 : ByteArray) (a1_1 : Int) (a1_2 : List (Ty .val)) (a2_0 : ByteArray) (a2_1 : Int) (a2_2 : List (Ty .val)) (a3 : Int) : DT S.law13_MatchRoom_T :=
let y0 : S.law13_MatchRoom_9_V := { t_14_0 := 0 : S.law13_MatchRoom_9_V }
let y1 : S.match_Feed_T := S.match_Feed_o a0_0 a0_1 a0_2 a0_3 a0_4 a0_5 a0_6 a1_0 a1_1 a1_2 a3
let y2 : List (Ty ET.step) := y1.x0
let y3 : List (Ty ET.run) := y1.x5
let y4 : Int := y1.x6
let y5 : Int := (↑y3.length : Int)
let y6 : Int := xwrap IntKind.i64 ((↑a0_5.length : Int) + 1)
let y7 : Int := -1
let y8 : Int := y1.x1
let y9 : Int := y1.x2
let y10 : Int := y1.x3
let y11 : Int := y1.x4
let y12 : S.match_Feed_T := S.match_Feed_o y2 y8 y9 y10 y11 y3 y4 a2_0 a2_1 a2_2 a3
let y13 : List (Ty ET.step) := y12.x0
let y14 : Int := y12.x1
let y15 : Int := y12.x2
let y16 : Int := y12.x3
let y17 : Int := y12.x4
let y18 : List (Ty ET.run) := y12.x5
let y19 : Int := y12.x6
(.br (S.law13_awake_is)
(.br (S.law13_Few_is a0_0 a0_5)
(.br (S.law06_Few_is a1_0 a1_2)
(.br (S.law06_Few_is a2_0 a2_2)
(.br (S.ref09_May_is a0_0 a0_1 a0_2 a0_3 a0_4)
(.br (xnot S.law13_awake_o.x0)
(.leaf ⟨S.law13_awake_o.x0⟩)
(.br (xnot (S.law13_Few_o a0_0 a0_5).x0)
(.leaf ⟨S.law13_awake_o.x0⟩)
(.br (xnot (S.law06_Few_o a1_0 a1_2).x0)
(.leaf ⟨S.law13_awake_o.x0⟩)
(.br (xnot (S.law06_Few_o a2_0 a2_2).x0)
(.leaf ⟨S.law13_awake_o.x0⟩)
(.br (xnot (S.ref09_May_o a0_0 a0_1 a0_2 a0_3 a0_4).x0)
(.leaf ⟨S.law13_awake_o.x0⟩)
(.br (S.match_May_is a0_0 a0_5 a0_6)
(.br (xnot (S.match_May_o a0_0 a0_5 a0_6).x0)
(.leaf ⟨S.law13_awake_o.x0⟩)
(.br (S.law13_MatchRoom_9_j a0_5 y0 0)
(.leaf ⟨true⟩)
(.br (S.law13_MatchRoom_9_j a0_5 y0 1)
(.br (S.match_Feed_is a0_0 a0_1 a0_2 a0_3 a0_4 a0_5 a0_6 a1_0 a1_1 a1_2 a3)
(.br (S.match_May_is y2 y3 y4)
(.br (xnot (S.match_May_o y2 y3 y4).x0)
(.leaf ⟨false⟩)
(.br (xdec (y5 > y6))
(.leaf ⟨false⟩)
(.br (xdec ((↑y1.x7.length : Int) > y6))
(.leaf ⟨false⟩)
(.br (xeqI y4 y7)
(.leaf ⟨xeqI a0_6 y7⟩)
(.br (S.match_Feed_is y2 y8 y9 y10 y11 y3 y4 a2_0 a2_1 a2_2 a3)
(.br (S.ref13_Same_is y2 y8 y9 y10 y11 y3 y4 y13 y14 y15 y16 y17 y18 y19)
(.br ((S.ref13_Same_o y2 y8 y9 y10 y11 y3 y4 y13 y14 y15 y16 y17 y18 y19).x0)
(.br (xeqI (↑y12.x7.length : Int) 0)
(.leaf ⟨xeqI y5 0⟩)
(.leaf ⟨false⟩))
(.leaf ⟨false⟩))
.fail)
.fail)))))
.fail)
.fail)
.fail)))
.fail))))))
.fail)
.fail)
.fail)
.fail)
.fail)
noncomputable def S.law13_MatchRoom (a0_0 : List (Ty .step)) (a0_1 : Int) (a0_2 : Int) (a0_3 : Int) (a0_4 : Int) (a0_5 : List (Ty .run)) (a0_6 : Int) (a1_0 : ByteArray) (a1_1 : Int) (a1_2 : List (Ty .val)) (a2_0 : ByteArray) (a2_1 : Int) (a2_2 : List (Ty .val)) (a3 : Int) : Option S.law13_MatchRoom_T := (S.law13_MatchRoom_R a0_0 a0_1 a0_2 a0_3 a0_4 a0_5 a0_6 a1_0 a1_1 a1_2 a2_0 a2_1 a2_2 a3).run
noncomputable def S.law13_MatchRoom_is (a0_0 : List (Ty .step)) (a0_1 : Int) (a0_2 : Int) (a0_3 : Int) (a0_4 : Int) (a0_5 : List (Ty .run)) (a0_6 : Int) (a1_0 : ByteArray) (a1_1 : Int) (a1_2 : List (Ty .val)) (a2_0 : ByteArray) (a2_1 : Int) (a2_2 : List (Ty .val)) (a3 : Int) : Bool := (S.law13_MatchRoom a0_0 a0_1 a0_2 a0_3 a0_4 a0_5 a0_6 a1_0 a1_1 a1_2 a2_0 a2_1 a2_2 a3).isSome
noncomputable def S.law13_MatchRoom_o (a0_0 : List (Ty .step)) (a0_1 : Int) (a0_2 : Int) (a0_3 : Int) (a0_4 : Int) (a0_5 : List (Ty .run)) (a0_6 : Int) (a1_0 : ByteArray) (a1_1 : Int) (a1_2 : List (Ty .val)) (a2_0 : ByteArray) (a2_1 : Int) (a2_2 : List (Ty .val)) (a3 : Int) : S.law13_MatchRoom_T := (S.law13_MatchRoom a0_0 a0_1 a0_2 a0_3 a0_4 a0_5 a0_6 a1_0 a1_1 a1_2 a2_0 a2_1 a2_2 a3).getD default
noncomputable def ret_law13_MatchRoom (b : Bool) (r : S.law13_MatchRoom_T) : Ret := ⟨b, none, [(false, [C.d (D.sc (Sc.bool r.x0))])]⟩
noncomputable def g_law13_MatchRoom : Con
  | [(true, [.sl a0_0n a0_0f .step a0_0, .sc (.int .i64 a0_1), .sc (.int .i64 a0_2), .sc (.int .i64 a0_3), .sc (.int .i64 a0_4), .sl a0_5n a0_5f .run a0_5, .sc (.int .i64 a0_6)]), (true, [.sc (.str a1_0), .sc (.int .i64 a1_1), .sl a1_2n a1_2f .val a1_2]), (true, [.sc (.str a2_0), .sc (.int .i64 a2_1), .sl a2_2n a2_2f .val a2_2]), (false, [.sc (.int .i64 a3)])] => some (ret_law13_MatchRoom (S.law13_MatchRoom_is a0_0 a0_1 a0_2 a0_3 a0_4 a0_5 a0_6 a1_0 a1_1 a1_2 a2_0 a2_1 a2_2 a3) (S.law13_MatchRoom_o a0_0 a0_1 a0_2 a0_3 a0_4 a0_5 a0_6 a1_0 a1_1 a1_2 a2_0 a2_1 a2_2 a3))
  | _ => none
theorem raw_law13_MatchRoom (a0_0n : Option Bool) (a0_0f : Bool) (a0_0 : List (Ty .step)) (a0_1 : Int) (a0_2 : Int) (a0_3 : Int) (a0_4 : Int) (a0_5n : Option Bool) (a0_5f : Bool) (a0_5 : List (Ty .run)) (a0_6 : Int) (a1_0 : ByteArray) (a1_1 : Int) (a1_2n : Option Bool) (a1_2f : Bool) (a1_2 : List (Ty .val)) (a2_0 : ByteArray) (a2_1 : Int) (a2_2n : Option Bool) (a2_2f : Bool) (a2_2 : List (Ty .val)) (a3 : Int) : evR2 cx_law13_MatchRoom (hdI cx_law13_MatchRoom (find [(9, T_law13_MatchRoom_9)]) [] none 0) none Try.f15 15 none [(true, [.sl a0_0n a0_0f .step a0_0, .sc (.int .i64 a0_1), .sc (.int .i64 a0_2), .sc (.int .i64 a0_3), .sc (.int .i64 a0_4), .sl a0_5n a0_5f .run a0_5, .sc (.int .i64 a0_6)]), (true, [.sc (.str a1_0), .sc (.int .i64 a1_1), .sl a1_2n a1_2f .val a1_2]), (true, [.sc (.str a2_0), .sc (.int .i64 a2_1), .sl a2_2n a2_2f .val a2_2]), (false, [.sc (.int .i64 a3)])] some = (S.law13_MatchRoom_R a0_0 a0_1 a0_2 a0_3 a0_4 a0_5 a0_6 a1_0 a1_1 a1_2 a2_0 a2_1 a2_2 a3).go (ret_law13_MatchRoom true) := by kernel_rfl
theorem bs_law13_MatchRoom : loopsIn Try.f15 [] = [b_law13_MatchRoom_9] := by kernel_rfl
theorem law13_MatchRoom_ok : Stands Try.prog tyTab 15 g_law13_MatchRoom := by
  refine stands3 (L := find [(9, T_law13_MatchRoom_9)]) (n := 0) (hints := [(15, 9, { keep := [3, 4, 5, 6, 14], acc := [] })]) (cx_ok rfl) rdy_law13_MatchRoom ⟨by kernel_rfl, by kernel_rfl, by kernel_rfl⟩ bs_law13_MatchRoom (consB (fun T h => by have e : T_law13_MatchRoom_9 = T := Option.some.inj (show some T_law13_MatchRoom_9 = some T from h); exact e ▸ lok_law13_MatchRoom_9) nilB) (fun das r hG hr => ?_)
  unfold g_law13_MatchRoom at hG
  split at hG
  · rename_i a0_0n a0_0f a0_0 a0_1 a0_2 a0_3 a0_4 a0_5n a0_5f a0_5 a0_6 a1_0 a1_1 a1_2n a1_2f a1_2 a2_0 a2_1 a2_2n a2_2f a2_2 a3
    injection hG with hG; subst hG
    exact ⟨none, true, win default ((raw_law13_MatchRoom a0_0n a0_0f a0_0 a0_1 a0_2 a0_3 a0_4 a0_5n a0_5f a0_5 a0_6 a1_0 a1_1 a1_2n a1_2f a1_2 a2_0 a2_1 a2_2n a2_2f a2_2 a3).trans (DT.go_run _ _)) hr⟩
  · cases hG
end Go.Eng
