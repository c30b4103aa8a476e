/- Contracts, laid by program. -/
import Derived.Test.YtbjeikmkngcjlaaZG8
set_option linter.unusedVariables false
set_option linter.unusedSimpArgs false
namespace Go.Eng
open Go Go.Eng Go.Proofs Go.Eng.Tab
noncomputable abbrev cx_law13_MatchSpans : Cx := mkCx2 tyTab [(50, g_law09_Few), (51, g_ref09_May), (55, g_law13_awake), (60, g_law12_Log), (61, g_match_New), (62, g_law13_fed)] [] [(19, 14, { keep := [1, 2, 10, 12], acc := [] }), (19, 8, { keep := [1, 2, 9], acc := [] })] []
theorem rdy_law13_MatchSpans : Ready Try.prog tyTab [(50, g_law09_Few), (51, g_ref09_May), (55, g_law13_awake), (60, g_law12_Log), (61, g_match_New), (62, g_law13_fed)] [] [] := ⟨consG2 law09_Few_ok (consG2 ref09_May_ok (consG2 law13_awake_ok (consG2 law12_Log_ok (consG2 match_New_ok (consG2 law13_fed_ok (noneG2)))))), noneI2, noneF2⟩
structure S.law13_MatchSpans_8_V where
  t_9_0 : Int
noncomputable def S.law13_MatchSpans_8_R (t_1_0 : List (Ty ET.evt)) (v : S.law13_MatchSpans_8_V) : DT (Option Nat × S.law13_MatchSpans_8_V) :=
let y0 : Int := (↑t_1_0.length : Int)
let y1 : Bool := xdec (v.t_9_0 < y0)
let y2 : Bool := xdec (0 ≤ v.t_9_0) && y1
let y3 : Int := (t_1_0.getD v.t_9_0.toNat (dflt ET.evt)).at_
let y4 : Int := xwrap IntKind.i64 (v.t_9_0 - 1)
let y5 : Int := xwrap IntKind.i64 (v.t_9_0 + 1)
(.br (y1)
(.br (y2)
(.br (xdec (y3 < 0))
(.leaf (some 0, v))
(.br (y2)
(.br (xdec (y3 > 1125899906842624))
(.leaf (some 0, v))
(.br (xdec (v.t_9_0 > 0))
(.br (y2)
(.br (xdec (0 ≤ y4) && xdec (y4 < y0))
(.br (xdec (y3 < (t_1_0.getD y4.toNat (dflt ET.evt)).at_))
(.leaf (some 0, v))
(.leaf (none, ⟨y5⟩)))
.fail)
.fail)
(.leaf (none, ⟨y5⟩))))
.fail))
.fail)
(.leaf (some 1, v)))
noncomputable def S.law13_MatchSpans_8_r (t_1_0 : List (Ty ET.evt)) (v : S.law13_MatchSpans_8_V) : Option (Option Nat × S.law13_MatchSpans_8_V) := (S.law13_MatchSpans_8_R t_1_0 v).run
noncomputable def S.law13_MatchSpans_8_j (t_1_0 : List (Ty ET.evt)) (v : S.law13_MatchSpans_8_V) (j : Nat) : Bool := Lp_j (S.law13_MatchSpans_8_r t_1_0) v j
noncomputable def S.law13_MatchSpans_8_v (t_1_0 : List (Ty ET.evt)) (v : S.law13_MatchSpans_8_V) : S.law13_MatchSpans_8_V := Lp_v (S.law13_MatchSpans_8_r t_1_0) v
noncomputable def mk_law13_MatchSpans_8 (t_1_0n : Option Bool) (t_1_0f : Bool) (t_1_0 : List (Ty ET.evt)) (h_0_0n : Option Bool) (h_0_0f : Bool) (h_0_0 : List (Ty ET.step)) (h_0_1 : Int) (h_0_2 : Int) (h_0_3 : Int) (h_0_4 : Int) (v : S.law13_MatchSpans_8_V) : St := ⟨[V.any, V.v false [C.d (D.sl t_1_0n t_1_0f ET.evt t_1_0)], V.v false [C.ptr 0 0], V.any, V.any, V.any, V.any, V.any, V.any, V.v false [C.d (D.sc (Sc.int IntKind.i64 v.t_9_0))],
  V.any, V.any, V.any, V.any, V.any, V.any, V.any, V.any, V.any, V.any, V.any, V.any, V.any, V.any, V.any, V.any, V.any, V.any, V.any, V.any, V.any, V.any, V.any, V.any, V.any,
  V.any, V.any, V.any, V.any, V.any, V.any, V.any, V.any, V.any, V.any, V.any, V.any, V.any, V.any, V.any, V.any, V.any, V.any, V.any, V.any, V.any, V.any, V.any, V.any, V.any,
  V.any, V.any, V.any, V.any, V.any, V.any, V.any, V.any, V.any, V.any, V.any, V.any, V.any, V.any, V.any, V.any, V.any, V.any, V.any, V.any, V.any, V.any, V.any, V.any, V.any,
  V.any, V.any, V.any, V.any, V.any, V.any, V.any, V.any, V.any, V.any, V.any, V.any, V.any, V.any, V.any, V.any, V.any, V.any, V.any, V.any, V.any, V.any, V.any, V.any, V.any,
  V.any, V.any, V.any, V.any, V.any, V.any, V.any, V.any, V.any, V.any, V.any, V.any, V.any, V.any, V.any, V.any, V.any, V.any, V.any], [some
    (Blk.box 45
      [C.d (D.sl h_0_0n h_0_0f ET.step h_0_0), C.d (D.sc (Sc.int IntKind.i64 h_0_1)), C.d (D.sc (Sc.int IntKind.i64 h_0_2)), C.d (D.sc (Sc.int IntKind.i64 h_0_3)),
        C.d (D.sc (Sc.int IntKind.i64 h_0_4))]),
  none, none, none, none, none, none, none, none, none, none, none, none, none, none, none, none, none, none, none, none, none, none, none, none, none, none, none, none, none,
  none, none, none], 0⟩
noncomputable def ex_law13_MatchSpans_8 (t_1_0n : Option Bool) (t_1_0f : Bool) (t_1_0 : List (Ty ET.evt)) (h_0_0n : Option Bool) (h_0_0f : Bool) (h_0_0 : List (Ty ET.step)) (h_0_1 : Int) (h_0_2 : Int) (h_0_3 : Int) (h_0_4 : Int) (j : Nat) (v : S.law13_MatchSpans_8_V) : Ex × St := match j with
  | 0 => (Ex.ret, ⟨[V.any, V.v false [C.d (D.sl t_1_0n t_1_0f ET.evt t_1_0)], V.v false [C.ptr 0 0], V.any, V.v false [C.d (D.sc (Sc.bool true))], V.any, V.any, V.any, V.any, V.any, V.any, V.any,
  V.any, V.any, V.any, V.any, V.any, V.any, V.any, V.any, V.any, V.any, V.any, V.any, V.any, V.any, V.any, V.any, V.any, V.any, V.any, V.any, V.any, V.any, V.any, V.any, V.any,
  V.any, V.any, V.any, V.any, V.any, V.any, V.any, V.any, V.any, V.any, V.any, V.any, V.any, V.any, V.any, V.any, V.any, V.any, V.any, V.any, V.any, V.any, V.any, V.any, V.any,
  V.any, V.any, V.any, V.any, V.any, V.any, V.any, V.any, V.any, V.any, V.any, V.any, V.any, V.any, V.any, V.any, V.any, V.any, V.any, V.any, V.any, V.any, V.any, V.any, V.any,
  V.any, V.any, V.any, V.any, V.any, V.any, V.any, V.any, V.any, V.any, V.any, V.any, V.any, V.any, V.any, V.any, V.any, V.any, V.any, V.any, V.any, V.any, V.any, V.any, V.any,
  V.any, V.any, V.any, V.any, V.any, V.any, V.any, V.any, V.any, V.any, V.any, V.any, V.any, V.any, V.any, V.any, V.any], [some
    (Blk.box 45
      [C.d (D.sl h_0_0n h_0_0f ET.step h_0_0), C.d (D.sc (Sc.int IntKind.i64 h_0_1)), C.d (D.sc (Sc.int IntKind.i64 h_0_2)), C.d (D.sc (Sc.int IntKind.i64 h_0_3)),
        C.d (D.sc (Sc.int IntKind.i64 h_0_4))]),
  none, none, none, none, none, none, none, none, none, none, none, none, none, none, none, none, none, none, none, none, none, none, none, none, none, none, none, none, none,
  none, none, none, none, none, none, none, none, none, none, none, none, none, none, none, none, none, none, none, none, none, none, none, none, none, none, none, none, none,
  none, none, none, none, none, none, none, none, none, none, none], 0⟩)
  | 1 => (Ex.exit 0, ⟨[V.any, V.v false [C.d (D.sl t_1_0n t_1_0f ET.evt t_1_0)], V.v false [C.ptr 0 0], V.any, V.any, V.any, V.any, V.any, V.any, V.any, V.any, V.any, V.any, V.any, V.any, V.any, V.any,
  V.any, V.any, V.any, V.any, V.any, V.any, V.any, V.any, V.any, V.any, V.any, V.any, V.any, V.any, V.any, V.any, V.any, V.any, V.any, V.any, V.any, V.any, V.any, V.any, V.any,
  V.any, V.any, V.any, V.any, V.any, V.any, V.any, V.any, V.any, V.any, V.any, V.any, V.any, V.any, V.any, V.any, V.any, V.any, V.any, V.any, V.any, V.any, V.any, V.any, V.any,
  V.any, V.any, V.any, V.any, V.any, V.any, V.any, V.any, V.any, V.any, V.any, V.any, V.any, V.any, V.any, V.any, V.any, V.any, V.any, V.any, V.any, V.any, V.any, V.any, V.any,
  V.any, V.any, V.any, V.any, V.any, V.any, V.any, V.any, V.any, V.any, V.any, V.any, V.any, V.any, V.any, V.any, V.any, V.any, V.any, V.any, V.any, V.any, V.any, V.any, V.any,
  V.any, V.any, V.any, V.any, V.any, V.any, V.any, V.any, V.any, V.any, V.any, V.any], [some
    (Blk.box 45
      [C.d (D.sl h_0_0n h_0_0f ET.step h_0_0), C.d (D.sc (Sc.int IntKind.i64 h_0_1)), C.d (D.sc (Sc.int IntKind.i64 h_0_2)), C.d (D.sc (Sc.int IntKind.i64 h_0_3)),
        C.d (D.sc (Sc.int IntKind.i64 h_0_4))]),
  none, none, none, none, none, none, none, none, none, none, none, none, none, none, none, none, none, none, none, none, none, none, none, none, none, none, none, none, none,
  none, none, none, none, none, none, none], 0⟩)
  | _ => (.ret, ⟨[], [], 0⟩)
noncomputable def T1_law13_MatchSpans_8 : V → V → V → Option Blk → Tree
  | V.v false [C.d (D.sl t_1_0n t_1_0f ET.evt t_1_0)], V.v false [C.ptr 0 0], V.v false [C.d (D.sc (Sc.int IntKind.i64 t_9_0))], some (Blk.box 45 [C.d (D.sl h_0_0n h_0_0f ET.step h_0_0), C.d (D.sc (Sc.int IntKind.i64 h_0_1)), C.d (D.sc (Sc.int IntKind.i64 h_0_2)), C.d (D.sc (Sc.int IntKind.i64 h_0_3)), C.d (D.sc (Sc.int IntKind.i64 h_0_4))]) => exT (fun j => ex_law13_MatchSpans_8 t_1_0n t_1_0f t_1_0 h_0_0n h_0_0f h_0_0 h_0_1 h_0_2 h_0_3 h_0_4 j (S.law13_MatchSpans_8_v t_1_0 ⟨t_9_0⟩)) (S.law13_MatchSpans_8_j t_1_0 ⟨t_9_0⟩) [0, 1]
  | _, _, _, _ => .bad
noncomputable def T_law13_MatchSpans_8 (st : St) : Tree := bif okSt 129 33 0 [0] st then T1_law13_MatchSpans_8 (st.env.getD 1 .any) (st.env.getD 2 .any) (st.env.getD 9 .any) (lk st.heap 0) else .bad
noncomputable def b_law13_MatchSpans_8 : Code := loopBy Try.f19 8
theorem rnd_law13_MatchSpans_8 (t_1_0n : Option Bool) (t_1_0f : Bool) (t_1_0 : List (Ty ET.evt)) (h_0_0n : Option Bool) (h_0_0f : Bool) (h_0_0 : List (Ty ET.step)) (h_0_1 : Int) (h_0_2 : Int) (h_0_3 : Int) (h_0_4 : Int) (v : S.law13_MatchSpans_8_V) : round2 cx_law13_MatchSpans (hdI cx_law13_MatchSpans (find []) [] none 0) 19 b_law13_MatchSpans_8 [] 33 [1, 2, 4] (mk_law13_MatchSpans_8 t_1_0n t_1_0f t_1_0 h_0_0n h_0_0f h_0_0 h_0_1 h_0_2 h_0_3 h_0_4 v) = (S.law13_MatchSpans_8_R t_1_0 v).go (roundOut (mk_law13_MatchSpans_8 t_1_0n t_1_0f t_1_0 h_0_0n h_0_0f h_0_0 h_0_1 h_0_2 h_0_3 h_0_4) (ex_law13_MatchSpans_8 t_1_0n t_1_0f t_1_0 h_0_0n h_0_0f h_0_0 h_0_1 h_0_2 h_0_3 h_0_4)) := by kernel_rfl
theorem bs_law13_MatchSpans_8 : loopsOf b_law13_MatchSpans_8 ++ loopsInl [] = [] := by kernel_rfl
theorem ci_law13_MatchSpans_8 (t_1_0n : Option Bool) (t_1_0f : Bool) (t_1_0 : List (Ty ET.evt)) (h_0_0n : Option Bool) (h_0_0f : Bool) (h_0_0 : List (Ty ET.step)) (h_0_1 : Int) (h_0_2 : Int) (h_0_3 : Int) (h_0_4 : Int) : ∀ v j v2, Lp (S.law13_MatchSpans_8_r t_1_0) v = some (j, v2) → Circles Try.prog cx_law13_MatchSpans b_law13_MatchSpans_8 (mk_law13_MatchSpans_8 t_1_0n t_1_0f t_1_0 h_0_0n h_0_0f h_0_0 h_0_1 h_0_2 h_0_3 h_0_4 v) (ex_law13_MatchSpans_8 t_1_0n t_1_0f t_1_0 h_0_0n h_0_0f h_0_0 h_0_1 h_0_2 h_0_3 h_0_4 j v2).1 (ex_law13_MatchSpans_8 t_1_0n t_1_0f t_1_0 h_0_0n h_0_0f h_0_0 h_0_1 h_0_2 h_0_3 h_0_4 j v2).2 :=
  loop_ok2 (L := find []) (n := 0) (hints := [(19, 14, { keep := [1, 2, 10, 12], acc := [] }), (19, 8, { keep := [1, 2, 9], acc := [] })]) (cx_ok rfl) rdy_law13_MatchSpans bs_law13_MatchSpans_8 nilB (fun v => (rnd_law13_MatchSpans_8 t_1_0n t_1_0f t_1_0 h_0_0n h_0_0f h_0_0 h_0_1 h_0_2 h_0_3 h_0_4 v).trans (DT.go_run _ _)) (by intro j v; unfold ex_law13_MatchSpans_8; split <;> rfl)
theorem mke_law13_MatchSpans_8 (t_1_0n : Option Bool) (t_1_0f : Bool) (t_1_0 : List (Ty ET.evt)) (h_0_0n : Option Bool) (h_0_0f : Bool) (h_0_0 : List (Ty ET.step)) (h_0_1 : Int) (h_0_2 : Int) (h_0_3 : Int) (h_0_4 : Int) (v : S.law13_MatchSpans_8_V) : mk_law13_MatchSpans_8 t_1_0n t_1_0f t_1_0 h_0_0n h_0_0f h_0_0 h_0_1 h_0_2 h_0_3 h_0_4 v = ⟨envOf 129 [(1, V.v false [C.d (D.sl t_1_0n t_1_0f ET.evt t_1_0)]), (2, V.v false [C.ptr 0 0]), (9, V.v false [C.d (D.sc (Sc.int IntKind.i64 v.t_9_0))])], heapOf 33 [(0, some
  (Blk.box 45
    [C.d (D.sl h_0_0n h_0_0f ET.step h_0_0), C.d (D.sc (Sc.int IntKind.i64 h_0_1)), C.d (D.sc (Sc.int IntKind.i64 h_0_2)), C.d (D.sc (Sc.int IntKind.i64 h_0_3)),
      C.d (D.sc (Sc.int IntKind.i64 h_0_4))]))], 0⟩ := by kernel_rfl
theorem lo1_law13_MatchSpans_8 (e1 : V) (e2 : V) (e9 : V) (h0 : Option Blk) e st2 (h : (T1_law13_MatchSpans_8 e1 e2 e9 h0).eval = some (e, st2)) : Circles Try.prog cx_law13_MatchSpans b_law13_MatchSpans_8 ⟨envOf 129 [(1, e1), (2, e2), (9, e9)], heapOf 33 [(0, h0)], 0⟩ e st2 := by
  unfold T1_law13_MatchSpans_8 at h
  split at h
  · have := loop_tree (mk := mk_law13_MatchSpans_8 _ _ _ _ _ _ _ _ _ _) (ci_law13_MatchSpans_8 _ _ _ _ _ _ _ _ _ _) _ _ e st2 h
    rw [mke_law13_MatchSpans_8] at this
    exact this
  · cases h
theorem lok_law13_MatchSpans_8 : LoopOk Try.prog cx_law13_MatchSpans b_law13_MatchSpans_8 T_law13_MatchSpans_8 := by
  intro st e st2 h
  unfold T_law13_MatchSpans_8 at h
  cases hk : okSt 129 33 0 [0] st with
  | false => rw [hk] at h; cases h
  | true =>
    rw [hk] at h
    exact circles_keep (ks := [1, 2, 9]) hk (lo1_law13_MatchSpans_8 _ _ _ _ e st2 h)
structure S.law13_MatchSpans_14_V where
  t_12_0 : Int
noncomputable def S.law13_MatchSpans_14_R (t_1_0 : List (Ty ET.evt)) (h_0_1 : Int) (h_44_5 : List (Ty ET.run)) (v : S.law13_MatchSpans_14_V) : DT (Option Nat × S.law13_MatchSpans_14_V) :=
let y0 : Bool := xdec (v.t_12_0 < (↑h_44_5.length : Int))
let y1 : Bool := xdec (0 ≤ v.t_12_0) && y0
let y2 : Int := (↑t_1_0.length : Int)
let y3 : Int := xwrap IntKind.i64 (y2 - 1)
let y4 : Bool := xdec (0 ≤ y3) && xdec (y3 < y2)
let y5 : Int := (h_44_5.getD v.t_12_0.toNat (dflt ET.run)).at_
let y6 : Int := (t_1_0.getD y3.toNat (dflt ET.evt)).at_
(.br (y0)
(.br (y1)
(.br (y4)
(.br (xdec (y5 > y6))
(.leaf (some 0, v))
(.br (y4)
(.br (y1)
(.br (xdec (xwrap IntKind.i64 (y6 - y5) > h_0_1))
(.leaf (some 0, v))
(.leaf (none, ⟨xwrap IntKind.i64 (v.t_12_0 + 1)⟩)))
.fail)
.fail))
.fail)
.fail)
(.leaf (some 1, v)))
noncomputable def S.law13_MatchSpans_14_r (t_1_0 : List (Ty ET.evt)) (h_0_1 : Int) (h_44_5 : List (Ty ET.run)) (v : S.law13_MatchSpans_14_V) : Option (Option Nat × S.law13_MatchSpans_14_V) := (S.law13_MatchSpans_14_R t_1_0 h_0_1 h_44_5 v).run
noncomputable def S.law13_MatchSpans_14_j (t_1_0 : List (Ty ET.evt)) (h_0_1 : Int) (h_44_5 : List (Ty ET.run)) (v : S.law13_MatchSpans_14_V) (j : Nat) : Bool := Lp_j (S.law13_MatchSpans_14_r t_1_0 h_0_1 h_44_5) v j
noncomputable def S.law13_MatchSpans_14_v (t_1_0 : List (Ty ET.evt)) (h_0_1 : Int) (h_44_5 : List (Ty ET.run)) (v : S.law13_MatchSpans_14_V) : S.law13_MatchSpans_14_V := Lp_v (S.law13_MatchSpans_14_r t_1_0 h_0_1 h_44_5) v
noncomputable def mk_law13_MatchSpans_14 (t_1_0n : Option Bool) (t_1_0f : Bool) (t_1_0 : List (Ty ET.evt)) (h_0_0n : Option Bool) (h_0_0f : Bool) (h_0_0 : List (Ty ET.step)) (h_0_1 : Int) (h_0_2 : Int) (h_0_3 : Int) (h_0_4 : Int) (h_44_0 : List (Ty ET.step)) (h_44_1 : Int) (h_44_2 : Int) (h_44_3 : Int) (h_44_4 : Int) (h_44_5 : List (Ty ET.run)) (h_44_6 : Int) (v : S.law13_MatchSpans_14_V) : St := ⟨[V.any, V.v false [C.d (D.sl t_1_0n t_1_0f ET.evt t_1_0)], V.v false [C.ptr 0 0], V.any, V.any, V.any, V.any, V.any, V.any, V.any, V.v false [C.ptr 44 0], V.any,
  V.v false [C.d (D.sc (Sc.int IntKind.i64 v.t_12_0))], V.any, V.any, V.any, V.any, V.any, V.any, V.any, V.any, V.any, V.any, V.any, V.any, V.any, V.any, V.any, V.any, V.any,
  V.any, V.any, V.any, V.any, V.any, V.any, V.any, V.any, V.any, V.any, V.any, V.any, V.any, V.any, V.any, V.any, V.any, V.any, V.any, V.any, V.any, V.any, V.any, V.any, V.any,
  V.any, V.any, V.any, V.any, V.any, V.any, V.any, V.any, V.any, V.any, V.any, V.any, V.any, V.any, V.any, V.any, V.any, V.any, V.any, V.any, V.any, V.any, V.any, V.any, V.any,
  V.any, V.any, V.any, V.any, V.any, V.any, V.any, V.any, V.any, V.any, V.any, V.any, V.any, V.any, V.any, V.any, V.any, V.any, V.any, V.any, V.any, V.any, V.any, V.any, V.any,
  V.any, V.any, V.any, V.any, V.any, V.any, V.any, V.any, V.any, V.any, V.any, V.any, V.any, V.any, V.any, V.any, V.any, V.any, V.any, V.any, V.any, V.any, V.any, V.any], [some
    (Blk.box 45
      [C.d (D.sl h_0_0n h_0_0f ET.step h_0_0), C.d (D.sc (Sc.int IntKind.i64 h_0_1)), C.d (D.sc (Sc.int IntKind.i64 h_0_2)), C.d (D.sc (Sc.int IntKind.i64 h_0_3)),
        C.d (D.sc (Sc.int IntKind.i64 h_0_4))]),
  none, none, none, none, none, none, none, none, none, none, none, none, none, none, none, none, none, none, none, none, none, none, none, none, none, none, none, none, none,
  none, none, none, none, none, none, none, none, none, none, none, none, none, none,
  some
    (Blk.box 71
      [C.d (D.sl none false ET.step h_44_0), C.d (D.sc (Sc.int IntKind.i64 h_44_1)), C.d (D.sc (Sc.int IntKind.i64 h_44_2)), C.d (D.sc (Sc.int IntKind.i64 h_44_3)),
        C.d (D.sc (Sc.int IntKind.i64 h_44_4)), C.d (D.sl none false ET.run h_44_5), C.d (D.sc (Sc.int IntKind.i64 h_44_6))]),
  none, none, none], 0⟩
noncomputable def ex_law13_MatchSpans_14 (t_1_0n : Option Bool) (t_1_0f : Bool) (t_1_0 : List (Ty ET.evt)) (h_0_0n : Option Bool) (h_0_0f : Bool) (h_0_0 : List (Ty ET.step)) (h_0_1 : Int) (h_0_2 : Int) (h_0_3 : Int) (h_0_4 : Int) (h_44_0 : List (Ty ET.step)) (h_44_1 : Int) (h_44_2 : Int) (h_44_3 : Int) (h_44_4 : Int) (h_44_5 : List (Ty ET.run)) (h_44_6 : Int) (j : Nat) (v : S.law13_MatchSpans_14_V) : Ex × St := match j with
  | 0 => (Ex.ret, ⟨[V.any, V.any, V.any, V.any, V.v false [C.d (D.sc (Sc.bool false))], V.any, V.any, V.any, V.any, V.any, V.v false [C.ptr 44 0], V.any, V.any, V.any, V.any, V.any, V.any, V.any,
  V.any, V.any, V.any, V.any, V.any, V.any, V.any, V.any, V.any, V.any, V.any, V.any, V.any, V.any, V.any, V.any, V.any, V.any, V.any, V.any, V.any, V.any, V.any, V.any, V.any,
  V.any, V.any, V.any, V.any, V.any, V.any, V.any, V.any, V.any, V.any, V.any, V.any, V.any, V.any, V.any, V.any, V.any, V.any, V.any, V.any, V.any, V.any, V.any, V.any, V.any,
  V.any, V.any, V.any, V.any, V.any, V.any, V.any, V.any, V.any, V.any, V.any, V.any, V.any, V.any, V.any, V.any, V.any, V.any, V.any, V.any, V.any, V.any, V.any, V.any, V.any,
  V.any, V.any, V.any, V.any, V.any, V.any, V.any, V.any, V.any, V.any, V.any, V.any, V.any, V.any, V.any, V.any, V.any, V.any, V.any, V.any, V.any, V.any, V.any, V.any, V.any,
  V.any, V.any, V.any, V.any, V.any, V.any, V.any, V.any, V.any, V.any, V.any], [some
    (Blk.box 45
      [C.d (D.sl h_0_0n h_0_0f ET.step h_0_0), C.d (D.sc (Sc.int IntKind.i64 h_0_1)), C.d (D.sc (Sc.int IntKind.i64 h_0_2)), C.d (D.sc (Sc.int IntKind.i64 h_0_3)),
        C.d (D.sc (Sc.int IntKind.i64 h_0_4))]),
  none, none, none, none, none, none, none, none, none, none, none, none, none, none, none, none, none, none, none, none, none, none, none, none, none, none, none, none, none,
  none, none, none, none, none, none, none, none, none, none, none, none, none, none,
  some
    (Blk.box 71
      [C.d (D.sl none false ET.step h_44_0), C.d (D.sc (Sc.int IntKind.i64 h_44_1)), C.d (D.sc (Sc.int IntKind.i64 h_44_2)), C.d (D.sc (Sc.int IntKind.i64 h_44_3)),
        C.d (D.sc (Sc.int IntKind.i64 h_44_4)), C.d (D.sl none false ET.run h_44_5), C.d (D.sc (Sc.int IntKind.i64 h_44_6))]),
  none, none, none, none, none, none, none, none, none, none, none, none, none, none, none, none, none, none, none, none, none, none, none, none, none, none, none, none, none,
  none, none, none, none, none, none, none, none, none, none, none, none, none], 0⟩)
  | 1 => (Ex.exit 2, ⟨[V.any, V.any, V.any, V.any, V.any, V.any, V.any, V.any, V.any, V.any, V.v false [C.ptr 44 0], V.any, V.any, V.any, V.any, V.any, V.any, V.any, V.any, V.any, V.any, V.any, V.any,
  V.any, V.any, V.any, V.any, V.any, V.any, V.any, V.any, V.any, V.any, V.any, V.any, V.any, V.any, V.any, V.any, V.any, V.any, V.any, V.any, V.any, V.any, V.any, V.any, V.any,
  V.any, V.any, V.any, V.any, V.any, V.any, V.any, V.any, V.any, V.any, V.any, V.any, V.any, V.any, V.any, V.any, V.any, V.any, V.any, V.any, V.any, V.any, V.any, V.any, V.any,
  V.any, V.any, V.any, V.any, V.any, V.any, V.any, V.any, V.any, V.any, V.any, V.any, V.any, V.any, V.any, V.any, V.any, V.any, V.any, V.any, V.any, V.any, V.any, V.any, V.any,
  V.any, V.any, V.any, V.any, V.any, V.any, V.any, V.any, V.any, V.any, V.any, V.any, V.any, V.any, V.any, V.any, V.any, V.any, V.any, V.any, V.any, V.any, V.any, V.any, V.any,
  V.any, V.any, V.any, V.any, V.any, V.any], [some
    (Blk.box 45
      [C.d (D.sl h_0_0n h_0_0f ET.step h_0_0), C.d (D.sc (Sc.int IntKind.i64 h_0_1)), C.d (D.sc (Sc.int IntKind.i64 h_0_2)), C.d (D.sc (Sc.int IntKind.i64 h_0_3)),
        C.d (D.sc (Sc.int IntKind.i64 h_0_4))]),
  none, none, none, none, none, none, none, none, none, none, none, none, none, none, none, none, none, none, none, none, none, none, none, none, none, none, none, none, none,
  none, none, none, none, none, none, none, none, none, none, none, none, none, none,
  some
    (Blk.box 71
      [C.d (D.sl none false ET.step h_44_0), C.d (D.sc (Sc.int IntKind.i64 h_44_1)), C.d (D.sc (Sc.int IntKind.i64 h_44_2)), C.d (D.sc (Sc.int IntKind.i64 h_44_3)),
        C.d (D.sc (Sc.int IntKind.i64 h_44_4)), C.d (D.sl none false ET.run h_44_5), C.d (D.sc (Sc.int IntKind.i64 h_44_6))]),
  none, none, none, none, none, none, none, none], 0⟩)
  | _ => (.ret, ⟨[], [], 0⟩)
noncomputable def T1_law13_MatchSpans_14 : V → V → V → V → Option Blk → Option Blk → Tree
  | V.v false [C.d (D.sl t_1_0n t_1_0f ET.evt t_1_0)], V.v false [C.ptr 0 0], V.v false [C.ptr 44 0], V.v false [C.d (D.sc (Sc.int IntKind.i64 t_12_0))], some (Blk.box 45 [C.d (D.sl h_0_0n h_0_0f ET.step h_0_0), C.d (D.sc (Sc.int IntKind.i64 h_0_1)), C.d (D.sc (Sc.int IntKind.i64 h_0_2)), C.d (D.sc (Sc.int IntKind.i64 h_0_3)), C.d (D.sc (Sc.int IntKind.i64 h_0_4))]), some (Blk.box 71 [C.d (D.sl none false ET.step h_44_0), C.d (D.sc (Sc.int IntKind.i64 h_44_1)), C.d (D.sc (Sc.int IntKind.i64 h_44_2)), C.d (D.sc (Sc.int IntKind.i64 h_44_3)), C.d (D.sc (Sc.int IntKind.i64 h_44_4)), C.d (D.sl none false ET.run h_44_5), C.d (D.sc (Sc.int IntKind.i64 h_44_6))]) => exT (fun j => ex_law13_MatchSpans_14 t_1_0n t_1_0f t_1_0 h_0_0n h_0_0f h_0_0 h_0_1 h_0_2 h_0_3 h_0_4 h_44_0 h_44_1 h_44_2 h_44_3 h_44_4 h_44_5 h_44_6 j (S.law13_MatchSpans_14_v t_1_0 h_0_1 h_44_5 ⟨t_12_0⟩)) (S.law13_MatchSpans_14_j t_1_0 h_0_1 h_44_5 ⟨t_12_0⟩) [0, 1]
  | _, _, _, _, _, _ => .bad
noncomputable def T_law13_MatchSpans_14 (st : St) : Tree := bif okSt 129 48 0 [0, 44] st then T1_law13_MatchSpans_14 (st.env.getD 1 .any) (st.env.getD 2 .any) (st.env.getD 10 .any) (st.env.getD 12 .any) (lk st.heap 0) (lk st.heap 44) else .bad
noncomputable def b_law13_MatchSpans_14 : Code := loopBy Try.f19 14
theorem rnd_law13_MatchSpans_14 (t_1_0n : Option Bool) (t_1_0f : Bool) (t_1_0 : List (Ty ET.evt)) (h_0_0n : Option Bool) (h_0_0f : Bool) (h_0_0 : List (Ty ET.step)) (h_0_1 : Int) (h_0_2 : Int) (h_0_3 : Int) (h_0_4 : Int) (h_44_0 : List (Ty ET.step)) (h_44_1 : Int) (h_44_2 : Int) (h_44_3 : Int) (h_44_4 : Int) (h_44_5 : List (Ty ET.run)) (h_44_6 : Int) (v : S.law13_MatchSpans_14_V) : round2 cx_law13_MatchSpans (hdI cx_law13_MatchSpans (find [(8, T_law13_MatchSpans_8)]) [] none 0) 19 b_law13_MatchSpans_14 [] 48 [4, 10] (mk_law13_MatchSpans_14 t_1_0n t_1_0f t_1_0 h_0_0n h_0_0f h_0_0 h_0_1 h_0_2 h_0_3 h_0_4 h_44_0 h_44_1 h_44_2 h_44_3 h_44_4 h_44_5 h_44_6 v) = (S.law13_MatchSpans_14_R t_1_0 h_0_1 h_44_5 v).go (roundOut (mk_law13_MatchSpans_14 t_1_0n t_1_0f t_1_0 h_0_0n h_0_0f h_0_0 h_0_1 h_0_2 h_0_3 h_0_4 h_44_0 h_44_1 h_44_2 h_44_3 h_44_4 h_44_5 h_44_6) (ex_law13_MatchSpans_14 t_1_0n t_1_0f t_1_0 h_0_0n h_0_0f h_0_0 h_0_1 h_0_2 h_0_3 h_0_4 h_44_0 h_44_1 h_44_2 h_44_3 h_44_4 h_44_5 h_44_6)) := by kernel_rfl
theorem bs_law13_MatchSpans_14 : loopsOf b_law13_MatchSpans_14 ++ loopsInl [] = [] := by kernel_rfl
theorem ci_law13_MatchSpans_14 (t_1_0n : Option Bool) (t_1_0f : Bool) (t_1_0 : List (Ty ET.evt)) (h_0_0n : Option Bool) (h_0_0f : Bool) (h_0_0 : List (Ty ET.step)) (h_0_1 : Int) (h_0_2 : Int) (h_0_3 : Int) (h_0_4 : Int) (h_44_0 : List (Ty ET.step)) (h_44_1 : Int) (h_44_2 : Int) (h_44_3 : Int) (h_44_4 : Int) (h_44_5 : List (Ty ET.run)) (h_44_6 : Int) : ∀ v j v2, Lp (S.law13_MatchSpans_14_r t_1_0 h_0_1 h_44_5) v = some (j, v2) → Circles Try.prog cx_law13_MatchSpans b_law13_MatchSpans_14 (mk_law13_MatchSpans_14 t_1_0n t_1_0f t_1_0 h_0_0n h_0_0f h_0_0 h_0_1 h_0_2 h_0_3 h_0_4 h_44_0 h_44_1 h_44_2 h_44_3 h_44_4 h_44_5 h_44_6 v) (ex_law13_MatchSpans_14 t_1_0n t_1_0f t_1_0 h_0_0n h_0_0f h_0_0 h_0_1 h_0_2 h_0_3 h_0_4 h_44_0 h_44_1 h_44_2 h_44_3 h_44_4 h_44_5 h_44_6 j v2).1 (ex_law13_MatchSpans_14 t_1_0n t_1_0f t_1_0 h_0_0n h_0_0f h_0_0 h_0_1 h_0_2 h_0_3 h_0_4 h_44_0 h_44_1 h_44_2 h_44_3 h_44_4 h_44_5 h_44_6 j v2).2 :=
  loop_ok2 (L := find [(8, T_law13_MatchSpans_8)]) (n := 0) (hints := [(19, 14, { keep := [1, 2, 10, 12], acc := [] }), (19, 8, { keep := [1, 2, 9], acc := [] })]) (cx_ok rfl) rdy_law13_MatchSpans bs_law13_MatchSpans_14 nilB (fun v => (rnd_law13_MatchSpans_14 t_1_0n t_1_0f t_1_0 h_0_0n h_0_0f h_0_0 h_0_1 h_0_2 h_0_3 h_0_4 h_44_0 h_44_1 h_44_2 h_44_3 h_44_4 h_44_5 h_44_6 v).trans (DT.go_run _ _)) (by intro j v; unfold ex_law13_MatchSpans_14; split <;> rfl)
theorem mke_law13_MatchSpans_14 (t_1_0n : Option Bool) (t_1_0f : Bool) (t_1_0 : List (Ty ET.evt)) (h_0_0n : Option Bool) (h_0_0f : Bool) (h_0_0 : List (Ty ET.step)) (h_0_1 : Int) (h_0_2 : Int) (h_0_3 : Int) (h_0_4 : Int) (h_44_0 : List (Ty ET.step)) (h_44_1 : Int) (h_44_2 : Int) (h_44_3 : Int) (h_44_4 : Int) (h_44_5 : List (Ty ET.run)) (h_44_6 : Int) (v : S.law13_MatchSpans_14_V) : mk_law13_MatchSpans_14 t_1_0n t_1_0f t_1_0 h_0_0n h_0_0f h_0_0 h_0_1 h_0_2 h_0_3 h_0_4 h_44_0 h_44_1 h_44_2 h_44_3 h_44_4 h_44_5 h_44_6 v = ⟨envOf 129 [(1, V.v false [C.d (D.sl t_1_0n t_1_0f ET.evt t_1_0)]), (2, V.v false [C.ptr 0 0]), (10, V.v false [C.ptr 44 0]), (12, V.v false [C.d (D.sc (Sc.int IntKind.i64 v.t_12_0))])], heapOf 48 [(0, some
  (Blk.box 45
    [C.d (D.sl h_0_0n h_0_0f ET.step h_0_0), C.d (D.sc (Sc.int IntKind.i64 h_0_1)), C.d (D.sc (Sc.int IntKind.i64 h_0_2)), C.d (D.sc (Sc.int IntKind.i64 h_0_3)),
      C.d (D.sc (Sc.int IntKind.i64 h_0_4))])), (44, some
  (Blk.box 71
    [C.d (D.sl none false ET.step h_44_0), C.d (D.sc (Sc.int IntKind.i64 h_44_1)), C.d (D.sc (Sc.int IntKind.i64 h_44_2)), C.d (D.sc (Sc.int IntKind.i64 h_44_3)),
      C.d (D.sc (Sc.int IntKind.i64 h_44_4)), C.d (D.sl none false ET.run h_44_5), C.d (D.sc (Sc.int IntKind.i64 h_44_6))]))], 0⟩ := by kernel_rfl
theorem lo1_law13_MatchSpans_14 (e1 : V) (e2 : V) (e10 : V) (e12 : V) (h0 : Option Blk) (h44 : Option Blk) e st2 (h : (T1_law13_MatchSpans_14 e1 e2 e10 e12 h0 h44).eval = some (e, st2)) : Circles Try.prog cx_law13_MatchSpans b_law13_MatchSpans_14 ⟨envOf 129 [(1, e1), (2, e2), (10, e10), (12, e12)], heapOf 48 [(0, h0), (44, h44)], 0⟩ e st2 := by
  unfold T1_law13_MatchSpans_14 at h
  split at h
  · have := loop_tree (mk := mk_law13_MatchSpans_14 _ _ _ _ _ _ _ _ _ _ _ _ _ _ _ _ _) (ci_law13_MatchSpans_14 _ _ _ _ _ _ _ _ _ _ _ _ _ _ _ _ _) _ _ e st2 h
    rw [mke_law13_MatchSpans_14] at this
    exact this
  · cases h
theorem lok_law13_MatchSpans_14 : LoopOk Try.prog cx_law13_MatchSpans b_law13_MatchSpans_14 T_law13_MatchSpans_14 := by
  intro st e st2 h
  unfold T_law13_MatchSpans_14 at h
  cases hk : okSt 129 48 0 [0, 44] st with
  | false => rw [hk] at h; cases h
  | true =>
    rw [hk] at h
    exact circles_keep (ks := [1, 2, 10, 12]) hk (lo1_law13_MatchSpans_14 _ _ _ _ _ _ e st2 h)
structure S.law13_MatchSpans_T where
  x0 : Bool
  deriving Inhabited
noncomputable def S.law13_MatchSpans_R (a0_0 : List (Ty .step)) (a0_1 : Int) (a0_2 : Int) (a0_3 : Int) (a0_4 : Int) (a1 : List (Ty .evt)) : DT S.law13_MatchSpans_T :=
let y0 : S.law13_MatchSpans_8_V := { t_9_0 := 0 : S.law13_MatchSpans_8_V }
let y1 : S.match_New_T := S.match_New_o a0_0 a0_1 a0_2 a0_3 a0_4
let y2 : List (Ty ET.step) := y1.x0
let y3 : Int := y1.x1
let y4 : Int := y1.x2
let y5 : Int := y1.x3
let y6 : Int := y1.x4
let y7 : List (Ty ET.run) := y1.x5
let y8 : Int := y1.x6
let y9 : List (Ty ET.run) := (S.law13_fed_o none false y2 y3 y4 y5 y6 none false y7 y8 a1 0).x5
let y10 : S.law13_MatchSpans_14_V := { t_12_0 := 0 : S.law13_MatchSpans_14_V }
(.br (S.law13_awake_is)
(.br (S.law09_Few_is a0_0)
(.br (S.law12_Log_is a1 25)
(.br (S.ref09_May_is a0_0 a0_1 a0_2 a0_3 a0_4)
(.br (xnot S.law13_awake_o.x0)
(.leaf ⟨S.law13_awake_o.x0⟩)
(.br (xnot (S.law09_Few_o a0_0).x0)
(.leaf ⟨S.law13_awake_o.x0⟩)
(.br (xnot (S.law12_Log_o a1 25).x0)
(.leaf ⟨S.law13_awake_o.x0⟩)
(.br (xnot (S.ref09_May_o a0_0 a0_1 a0_2 a0_3 a0_4).x0)
(.leaf ⟨S.law13_awake_o.x0⟩)
(.br (xeqI (↑a1.length : Int) 0)
(.leaf ⟨S.law13_awake_o.x0⟩)
(.br (S.law13_MatchSpans_8_j a1 y0 0)
(.leaf ⟨true⟩)
(.br (S.law13_MatchSpans_8_j a1 y0 1)
(.br (S.law13_fed_is none false y2 y3 y4 y5 y6 none false y7 y8 a1 0)
(.br (S.law13_MatchSpans_14_j a1 a0_1 y9 y10 0)
(.leaf ⟨false⟩)
(.br (S.law13_MatchSpans_14_j a1 a0_1 y9 y10 1)
(.leaf ⟨xdec ((↑y9.length : Int) ≤ 5)⟩)
.fail))
.fail)
.fail)))))))
.fail)
.fail)
.fail)
.fail)
noncomputable def S.law13_MatchSpans (a0_0 : List (Ty .step)) (a0_1 : Int) (a0_2 : Int) (a0_3 : Int) (a0_4 : Int) (a1 : List (Ty .evt)) : Option S.law13_MatchSpans_T := (S.law13_MatchSpans_R a0_0 a0_1 a0_2 a0_3 a0_4 a1).run
noncomputable def S.law13_MatchSpans_is (a0_0 : List (Ty .step)) (a0_1 : Int) (a0_2 : Int) (a0_3 : Int) (a0_4 : Int) (a1 : List (Ty .evt)) : Bool := (S.law13_MatchSpans a0_0 a0_1 a0_2 a0_3 a0_4 a1).isSome
noncomputable def S.law13_MatchSpans_o (a0_0 : List (Ty .step)) (a0_1 : Int) (a0_2 : Int) (a0_3 : Int) (a0_4 : Int) (a1 : List (Ty .evt)) : S.law13_MatchSpans_T := (S.law13_MatchSpans a0_0 a0_1 a0_2 a0_3 a0_4 a1).getD default
noncomputable def ret_law13_MatchSpans (b : Bool) (r : S.law13_MatchSpans_T) : Ret := ⟨b, none, [(false, [C.d (D.sc (Sc.bool r.x0))])]⟩
noncomputable def g_law13_MatchSpans : Con
  | [(true, [.sl a0_0n a0_0f .step a0_0, .sc (.int .i64 a0_1), .sc (.int .i64 a0_2), .sc (.int .i64 a0_3), .sc (.int .i64 a0_4)]), (false, [.sl a1n a1f .evt a1])] => some (ret_law13_MatchSpans (S.law13_MatchSpans_is a0_0 a0_1 a0_2 a0_3 a0_4 a1) (S.law13_MatchSpans_o a0_0 a0_1 a0_2 a0_3 a0_4 a1))
  | _ => none
theorem raw_law13_MatchSpans (a0_0n : Option Bool) (a0_0f : Bool) (a0_0 : List (Ty .step)) (a0_1 : Int) (a0_2 : Int) (a0_3 : Int) (a0_4 : Int) (a1n : Option Bool) (a1f : Bool) (a1 : List (Ty .evt)) : evR2 cx_law13_MatchSpans (hdI cx_law13_MatchSpans (find [(8, T_law13_MatchSpans_8), (14, T_law13_MatchSpans_14)]) [] none 0) none Try.f19 19 none [(true, [.sl a0_0n a0_0f .step a0_0, .sc (.int .i64 a0_1), .sc (.int .i64 a0_2), .sc (.int .i64 a0_3), .sc (.int .i64 a0_4)]), (false, [.sl a1n a1f .evt a1])] some = (S.law13_MatchSpans_R a0_0 a0_1 a0_2 a0_3 a0_4 a1).go (ret_law13_MatchSpans true) := by kernel_rfl
theorem bs_law13_MatchSpans : loopsIn Try.f19 [] = [b_law13_MatchSpans_8, b_law13_MatchSpans_14] := by kernel_rfl
theorem law13_MatchSpans_ok : Stands Try.prog tyTab 19 g_law13_MatchSpans := by
  refine stands3 (L := find [(8, T_law13_MatchSpans_8), (14, T_law13_MatchSpans_14)]) (n := 0) (hints := [(19, 14, { keep := [1, 2, 10, 12], acc := [] }), (19, 8, { keep := [1, 2, 9], acc := [] })]) (cx_ok rfl) rdy_law13_MatchSpans ⟨by kernel_rfl, by kernel_rfl, by kernel_rfl⟩ bs_law13_MatchSpans (consB (fun T h => by have e : T_law13_MatchSpans_8 = T := Option.some.inj (show some T_law13_MatchSpans_8 = some T from h); exact e ▸ lok_law13_MatchSpans_8) (consB (fun T h => by have e : T_law13_MatchSpans_14 = T := Option.some.inj (show some T_law13_MatchSpans_14 = some T from h); exact e ▸ lok_law13_MatchSpans_14) nilB)) (fun das r hG hr => ?_)
  unfold g_law13_MatchSpans at hG
  split at hG
  · rename_i a0_0n a0_0f a0_0 a0_1 a0_2 a0_3 a0_4 a1n a1f a1
    injection hG with hG; subst hG
    exact ⟨none, true, win default ((raw_law13_MatchSpans a0_0n a0_0f a0_0 a0_1 a0_2 a0_3 a0_4 a1n a1f a1).trans (DT.go_run _ _)) hr⟩
  · cases hG
end Go.Eng
