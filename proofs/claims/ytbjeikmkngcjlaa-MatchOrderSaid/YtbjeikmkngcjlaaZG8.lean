/- Contracts, laid by program. -/
import Derived.Test.YtbjeikmkngcjlaaZG6
import Derived.Test.YtbjeikmkngcjlaaZG7
set_option linter.unusedVariables false
set_option linter.unusedSimpArgs false
namespace Go.Eng
open Go Go.Eng Go.Proofs Go.Eng.Tab
noncomputable abbrev cx_law13_fed : Cx := mkCx2 tyTab [(58, g_match_Feed)] [] [(62, 3, { keep := [1, 2, 3, 6, 8, 9], acc := [] })] []
theorem rdy_law13_fed : Ready Try.prog tyTab [(58, g_match_Feed)] [] [] := ⟨consG2 match_Feed_ok (noneG2), noneI2, noneF2⟩
structure S.law13_fed_3_V where
  t_8_0 : Int
  t_9_0 : Int
  h_0_0n : Option Bool
  h_0_0f : Bool
  h_0_0 : List (Ty ET.step)
  h_0_1 : Int
  h_0_2 : Int
  h_0_3 : Int
  h_0_4 : Int
  h_0_5n : Option Bool
  h_0_5f : Bool
  h_0_5 : List (Ty ET.run)
  h_0_6 : Int
noncomputable def S.law13_fed_3_R (t_1_0 : List (Ty ET.evt)) (t_2_0 : Int) (v : S.law13_fed_3_V) : DT (Option Nat × S.law13_fed_3_V) :=
let y0 : Bool := xdec (v.t_9_0 < (↑t_1_0.length : Int))
let y1 : Ty ET.evt := t_1_0.getD v.t_9_0.toNat (dflt ET.evt)
let y2 : ByteArray := y1.name
let y3 : Int := y1.at_
let y4 : List Val := y1.v
let y5 : Int := xwrap IntKind.i64 (t_2_0 + v.t_9_0)
let y6 : S.match_Feed_T := S.match_Feed_o v.h_0_0 v.h_0_1 v.h_0_2 v.h_0_3 v.h_0_4 v.h_0_5 v.h_0_6 y2 y3 y4 y5
(.br (y0)
(.br (xdec (0 ≤ v.t_9_0) && y0)
(.br (S.match_Feed_is v.h_0_0 v.h_0_1 v.h_0_2 v.h_0_3 v.h_0_4 v.h_0_5 v.h_0_6 y2 y3 y4 y5)
(.leaf (none, ⟨xwrap IntKind.i64 (v.t_8_0 + (↑y6.x7.length : Int)), xwrap IntKind.i64 (v.t_9_0 + 1), none, false, y6.x0, y6.x1, y6.x2, y6.x3, y6.x4, none, false, y6.x5, y6.x6⟩))
.fail)
.fail)
(.leaf (some 0, v)))
noncomputable def S.law13_fed_3_r (t_1_0 : List (Ty ET.evt)) (t_2_0 : Int) (v : S.law13_fed_3_V) : Option (Option Nat × S.law13_fed_3_V) := (S.law13_fed_3_R t_1_0 t_2_0 v).run
noncomputable def S.law13_fed_3_j (t_1_0 : List (Ty ET.evt)) (t_2_0 : Int) (v : S.law13_fed_3_V) (j : Nat) : Bool := Lp_j (S.law13_fed_3_r t_1_0 t_2_0) v j
noncomputable def S.law13_fed_3_v (t_1_0 : List (Ty ET.evt)) (t_2_0 : Int) (v : S.law13_fed_3_V) : S.law13_fed_3_V := Lp_v (S.law13_fed_3_r t_1_0 t_2_0) v
noncomputable def mk_law13_fed_3 (t_1_0n : Option Bool) (t_1_0f : Bool) (t_1_0 : List (Ty ET.evt)) (t_2_0 : Int) (h_1_0 : List (Ty ET.step)) (h_1_1 : Int) (h_1_2 : Int) (h_1_3 : Int) (h_1_4 : Int) (h_1_5 : List (Ty ET.run)) (h_1_6 : Int) (v : S.law13_fed_3_V) : St := ⟨[V.any, V.v false [C.d (D.sl t_1_0n t_1_0f ET.evt t_1_0)], V.v false [C.d (D.sc (Sc.int IntKind.i64 t_2_0))], V.v false [C.ptr 0 0], V.any, V.any, V.v false [C.ptr 1 0], V.any,
  V.v false [C.d (D.sc (Sc.int IntKind.i64 v.t_8_0))], V.v false [C.d (D.sc (Sc.int IntKind.i64 v.t_9_0))], V.any, V.any, V.any, V.any, V.any, V.any, V.any, V.any, V.any, V.any,
  V.any, V.any, V.any, V.any, V.any, V.any, V.any, V.any, V.any, V.any, V.any, V.any, V.any, V.any, V.any, V.any, V.any], [some
    (Blk.box 71
      [C.d (D.sl v.h_0_0n v.h_0_0f ET.step v.h_0_0), C.d (D.sc (Sc.int IntKind.i64 v.h_0_1)), C.d (D.sc (Sc.int IntKind.i64 v.h_0_2)), C.d (D.sc (Sc.int IntKind.i64 v.h_0_3)),
        C.d (D.sc (Sc.int IntKind.i64 v.h_0_4)), C.d (D.sl v.h_0_5n v.h_0_5f ET.run v.h_0_5), C.d (D.sc (Sc.int IntKind.i64 v.h_0_6))]),
  some
    (Blk.box 71
      [C.d (D.sl (some true) true ET.step h_1_0), C.d (D.sc (Sc.int IntKind.i64 h_1_1)), C.d (D.sc (Sc.int IntKind.i64 h_1_2)), C.d (D.sc (Sc.int IntKind.i64 h_1_3)),
        C.d (D.sc (Sc.int IntKind.i64 h_1_4)), C.d (D.sl (some true) true ET.run h_1_5), C.d (D.sc (Sc.int IntKind.i64 h_1_6))]),
  none, none, none], 0⟩
noncomputable def ex_law13_fed_3 (t_1_0n : Option Bool) (t_1_0f : Bool) (t_1_0 : List (Ty ET.evt)) (t_2_0 : Int) (h_1_0 : List (Ty ET.step)) (h_1_1 : Int) (h_1_2 : Int) (h_1_3 : Int) (h_1_4 : Int) (h_1_5 : List (Ty ET.run)) (h_1_6 : Int) (j : Nat) (v : S.law13_fed_3_V) : Ex × St := match j with
  | 0 => (Ex.exit 0, ⟨[V.any, V.any, V.any, V.v false [C.ptr 0 0], V.any, V.any, V.v false [C.ptr 1 0], V.any, V.v false [C.d (D.sc (Sc.int IntKind.i64 v.t_8_0))], V.any, V.any, V.any, V.any, V.any,
  V.any, V.any, V.any, V.any, V.any, V.any, V.any, V.any, V.any, V.any, V.any, V.any, V.any, V.any, V.any, V.any, V.any, V.any, V.any, V.any, V.any, V.any, V.any], [some
    (Blk.box 71
      [C.d (D.sl v.h_0_0n v.h_0_0f ET.step v.h_0_0), C.d (D.sc (Sc.int IntKind.i64 v.h_0_1)), C.d (D.sc (Sc.int IntKind.i64 v.h_0_2)), C.d (D.sc (Sc.int IntKind.i64 v.h_0_3)),
        C.d (D.sc (Sc.int IntKind.i64 v.h_0_4)), C.d (D.sl v.h_0_5n v.h_0_5f ET.run v.h_0_5), C.d (D.sc (Sc.int IntKind.i64 v.h_0_6))]),
  some
    (Blk.box 71
      [C.d (D.sl (some true) true ET.step h_1_0), C.d (D.sc (Sc.int IntKind.i64 h_1_1)), C.d (D.sc (Sc.int IntKind.i64 h_1_2)), C.d (D.sc (Sc.int IntKind.i64 h_1_3)),
        C.d (D.sc (Sc.int IntKind.i64 h_1_4)), C.d (D.sl (some true) true ET.run h_1_5), C.d (D.sc (Sc.int IntKind.i64 h_1_6))]),
  none, none, none, none, none, none, none], 0⟩)
  | _ => (.ret, ⟨[], [], 0⟩)
noncomputable def T1_law13_fed_3 : V → V → V → V → V → V → Option Blk → Option Blk → Tree
  | V.v false [C.d (D.sl t_1_0n t_1_0f ET.evt t_1_0)], V.v false [C.d (D.sc (Sc.int IntKind.i64 t_2_0))], V.v false [C.ptr 0 0], V.v false [C.ptr 1 0], V.v false [C.d (D.sc (Sc.int IntKind.i64 t_8_0))], V.v false [C.d (D.sc (Sc.int IntKind.i64 t_9_0))], some (Blk.box 71 [C.d (D.sl h_0_0n h_0_0f ET.step h_0_0), C.d (D.sc (Sc.int IntKind.i64 h_0_1)), C.d (D.sc (Sc.int IntKind.i64 h_0_2)), C.d (D.sc (Sc.int IntKind.i64 h_0_3)), C.d (D.sc (Sc.int IntKind.i64 h_0_4)), C.d (D.sl h_0_5n h_0_5f ET.run h_0_5), C.d (D.sc (Sc.int IntKind.i64 h_0_6))]), some (Blk.box 71 [C.d (D.sl (some true) true ET.step h_1_0), C.d (D.sc (Sc.int IntKind.i64 h_1_1)), C.d (D.sc (Sc.int IntKind.i64 h_1_2)), C.d (D.sc (Sc.int IntKind.i64 h_1_3)), C.d (D.sc (Sc.int IntKind.i64 h_1_4)), C.d (D.sl (some true) true ET.run h_1_5), C.d (D.sc (Sc.int IntKind.i64 h_1_6))]) => exT (fun j => ex_law13_fed_3 t_1_0n t_1_0f t_1_0 t_2_0 h_1_0 h_1_1 h_1_2 h_1_3 h_1_4 h_1_5 h_1_6 j (S.law13_fed_3_v t_1_0 t_2_0 ⟨t_8_0, t_9_0, h_0_0n, h_0_0f, h_0_0, h_0_1, h_0_2, h_0_3, h_0_4, h_0_5n, h_0_5f, h_0_5, h_0_6⟩)) (S.law13_fed_3_j t_1_0 t_2_0 ⟨t_8_0, t_9_0, h_0_0n, h_0_0f, h_0_0, h_0_1, h_0_2, h_0_3, h_0_4, h_0_5n, h_0_5f, h_0_5, h_0_6⟩) [0]
  | _, _, _, _, _, _, _, _ => .bad
noncomputable def T_law13_fed_3 (st : St) : Tree := bif okSt 37 5 0 [0, 1] st then T1_law13_fed_3 (st.env.getD 1 .any) (st.env.getD 2 .any) (st.env.getD 3 .any) (st.env.getD 6 .any) (st.env.getD 8 .any) (st.env.getD 9 .any) (lk st.heap 0) (lk st.heap 1) else .bad
noncomputable def b_law13_fed_3 : Code := loopBy Try.f62 3
theorem rnd_law13_fed_3 (t_1_0n : Option Bool) (t_1_0f : Bool) (t_1_0 : List (Ty ET.evt)) (t_2_0 : Int) (h_1_0 : List (Ty ET.step)) (h_1_1 : Int) (h_1_2 : Int) (h_1_3 : Int) (h_1_4 : Int) (h_1_5 : List (Ty ET.run)) (h_1_6 : Int) (v : S.law13_fed_3_V) : round2 cx_law13_fed (hdI cx_law13_fed (find []) [] none 0) 62 b_law13_fed_3 [] 5 [3, 6, 8] (mk_law13_fed_3 t_1_0n t_1_0f t_1_0 t_2_0 h_1_0 h_1_1 h_1_2 h_1_3 h_1_4 h_1_5 h_1_6 v) = (S.law13_fed_3_R t_1_0 t_2_0 v).go (roundOut (mk_law13_fed_3 t_1_0n t_1_0f t_1_0 t_2_0 h_1_0 h_1_1 h_1_2 h_1_3 h_1_4 h_1_5 h_1_6) (ex_law13_fed_3 t_1_0n t_1_0f t_1_0 t_2_0 h_1_0 h_1_1 h_1_2 h_1_3 h_1_4 h_1_5 h_1_6)) := by kernel_rfl
theorem bs_law13_fed_3 : loopsOf b_law13_fed_3 ++ loopsInl [] = [] := by kernel_rfl
theorem ci_law13_fed_3 (t_1_0n : Option Bool) (t_1_0f : Bool) (t_1_0 : List (Ty ET.evt)) (t_2_0 : Int) (h_1_0 : List (Ty ET.step)) (h_1_1 : Int) (h_1_2 : Int) (h_1_3 : Int) (h_1_4 : Int) (h_1_5 : List (Ty ET.run)) (h_1_6 : Int) : ∀ v j v2, Lp (S.law13_fed_3_r t_1_0 t_2_0) v = some (j, v2) → Circles Try.prog cx_law13_fed b_law13_fed_3 (mk_law13_fed_3 t_1_0n t_1_0f t_1_0 t_2_0 h_1_0 h_1_1 h_1_2 h_1_3 h_1_4 h_1_5 h_1_6 v) (ex_law13_fed_3 t_1_0n t_1_0f t_1_0 t_2_0 h_1_0 h_1_1 h_1_2 h_1_3 h_1_4 h_1_5 h_1_6 j v2).1 (ex_law13_fed_3 t_1_0n t_1_0f t_1_0 t_2_0 h_1_0 h_1_1 h_1_2 h_1_3 h_1_4 h_1_5 h_1_6 j v2).2 :=
  loop_ok2 (L := find []) (n := 0) (hints := [(62, 3, { keep := [1, 2, 3, 6, 8, 9], acc := [] })]) (cx_ok rfl) rdy_law13_fed bs_law13_fed_3 nilB (fun v => (rnd_law13_fed_3 t_1_0n t_1_0f t_1_0 t_2_0 h_1_0 h_1_1 h_1_2 h_1_3 h_1_4 h_1_5 h_1_6 v).trans (DT.go_run _ _)) (by intro j v; unfold ex_law13_fed_3; split <;> rfl)
theorem mke_law13_fed_3 (t_1_0n : Option Bool) (t_1_0f : Bool) (t_1_0 : List (Ty ET.evt)) (t_2_0 : Int) (h_1_0 : List (Ty ET.step)) (h_1_1 : Int) (h_1_2 : Int) (h_1_3 : Int) (h_1_4 : Int) (h_1_5 : List (Ty ET.run)) (h_1_6 : Int) (v : S.law13_fed_3_V) : mk_law13_fed_3 t_1_0n t_1_0f t_1_0 t_2_0 h_1_0 h_1_1 h_1_2 h_1_3 h_1_4 h_1_5 h_1_6 v = ⟨envOf 37 [(1, V.v false [C.d (D.sl t_1_0n t_1_0f ET.evt t_1_0)]), (2, V.v false [C.d (D.sc (Sc.int IntKind.i64 t_2_0))]), (3, V.v false [C.ptr 0 0]), (6, V.v false [C.ptr 1 0]), (8, V.v false [C.d (D.sc (Sc.int IntKind.i64 v.t_8_0))]), (9, V.v false [C.d (D.sc (Sc.int IntKind.i64 v.t_9_0))])], heapOf 5 [(0, some
  (Blk.box 71
    [C.d (D.sl v.h_0_0n v.h_0_0f ET.step v.h_0_0), C.d (D.sc (Sc.int IntKind.i64 v.h_0_1)), C.d (D.sc (Sc.int IntKind.i64 v.h_0_2)), C.d (D.sc (Sc.int IntKind.i64 v.h_0_3)),
      C.d (D.sc (Sc.int IntKind.i64 v.h_0_4)), C.d (D.sl v.h_0_5n v.h_0_5f ET.run v.h_0_5), C.d (D.sc (Sc.int IntKind.i64 v.h_0_6))])), (1, some
  (Blk.box 71
    [C.d (D.sl (some true) true ET.step h_1_0), C.d (D.sc (Sc.int IntKind.i64 h_1_1)), C.d (D.sc (Sc.int IntKind.i64 h_1_2)), C.d (D.sc (Sc.int IntKind.i64 h_1_3)),
      C.d (D.sc (Sc.int IntKind.i64 h_1_4)), C.d (D.sl (some true) true ET.run h_1_5), C.d (D.sc (Sc.int IntKind.i64 h_1_6))]))], 0⟩ := by kernel_rfl
theorem lo1_law13_fed_3 (e1 : V) (e2 : V) (e3 : V) (e6 : V) (e8 : V) (e9 : V) (h0 : Option Blk) (h1 : Option Blk) e st2 (h : (T1_law13_fed_3 e1 e2 e3 e6 e8 e9 h0 h1).eval = some (e, st2)) : Circles Try.prog cx_law13_fed b_law13_fed_3 ⟨envOf 37 [(1, e1), (2, e2), (3, e3), (6, e6), (8, e8), (9, e9)], heapOf 5 [(0, h0), (1, h1)], 0⟩ e st2 := by
  unfold T1_law13_fed_3 at h
  split at h
  · have := loop_tree (mk := mk_law13_fed_3 _ _ _ _ _ _ _ _ _ _ _) (ci_law13_fed_3 _ _ _ _ _ _ _ _ _ _ _) _ _ e st2 h
    rw [mke_law13_fed_3] at this
    exact this
  · cases h
theorem lok_law13_fed_3 : LoopOk Try.prog cx_law13_fed b_law13_fed_3 T_law13_fed_3 := by
  intro st e st2 h
  unfold T_law13_fed_3 at h
  cases hk : okSt 37 5 0 [0, 1] st with
  | false => rw [hk] at h; cases h
  | true =>
    rw [hk] at h
    exact circles_keep (ks := [1, 2, 3, 6, 8, 9]) hk (lo1_law13_fed_3 _ _ _ _ _ _ _ _ e st2 h)
structure S.law13_fed_T where
  x0 : List (Ty ET.step)
  x1 : Int
  x2 : Int
  x3 : Int
  x4 : Int
  x5 : List (Ty ET.run)
  x6 : Int
  x7 : Int
  deriving Inhabited
noncomputable def S.law13_fed_R (a0_0n : Option Bool) (a0_0f : Bool) (a0_0 : List (Ty .step)) (a0_1 : Int) (a0_2 : Int) (a0_3 : Int) (a0_4 : Int) (a0_5n : Option Bool) (a0_5f : Bool) (a0_5 : List (Ty .run)) (a0_6 : Int) (a1 : List (Ty .evt)) (a2 : Int) : DT S.law13_fed_T :=
let y0 : S.law13_fed_3_V := { t_8_0 := 0, t_9_0 := 0, h_0_0n := a0_0n, h_0_0f := a0_0f, h_0_0 := a0_0, h_0_1 := a0_1, h_0_2 := a0_2, h_0_3 := a0_3, h_0_4 := a0_4, h_0_5n := a0_5n, h_0_5f := a0_5f, h_0_5 := a0_5, h_0_6 := a0_6 : S.law13_fed_3_V }
let y1 : S.law13_fed_3_V := S.law13_fed_3_v a1 a2 y0
(.br (S.law13_fed_3_j a1 a2 y0 0)
(.leaf ⟨y1.h_0_0, y1.h_0_1, y1.h_0_2, y1.h_0_3, y1.h_0_4, y1.h_0_5, y1.h_0_6, y1.t_8_0⟩)
.fail)
noncomputable def S.law13_fed (a0_0n : Option Bool) (a0_0f : Bool) (a0_0 : List (Ty .step)) (a0_1 : Int) (a0_2 : Int) (a0_3 : Int) (a0_4 : Int) (a0_5n : Option Bool) (a0_5f : Bool) (a0_5 : List (Ty .run)) (a0_6 : Int) (a1 : List (Ty .evt)) (a2 : Int) : Option S.law13_fed_T := (S.law13_fed_R a0_0n a0_0f a0_0 a0_1 a0_2 a0_3 a0_4 a0_5n a0_5f a0_5 a0_6 a1 a2).run
noncomputable def S.law13_fed_is (a0_0n : Option Bool) (a0_0f : Bool) (a0_0 : List (Ty .step)) (a0_1 : Int) (a0_2 : Int) (a0_3 : Int) (a0_4 : Int) (a0_5n : Option Bool) (a0_5f : Bool) (a0_5 : List (Ty .run)) (a0_6 : Int) (a1 : List (Ty .evt)) (a2 : Int) : Bool := (S.law13_fed a0_0n a0_0f a0_0 a0_1 a0_2 a0_3 a0_4 a0_5n a0_5f a0_5 a0_6 a1 a2).isSome
noncomputable def S.law13_fed_o (a0_0n : Option Bool) (a0_0f : Bool) (a0_0 : List (Ty .step)) (a0_1 : Int) (a0_2 : Int) (a0_3 : Int) (a0_4 : Int) (a0_5n : Option Bool) (a0_5f : Bool) (a0_5 : List (Ty .run)) (a0_6 : Int) (a1 : List (Ty .evt)) (a2 : Int) : S.law13_fed_T := (S.law13_fed a0_0n a0_0f a0_0 a0_1 a0_2 a0_3 a0_4 a0_5n a0_5f a0_5 a0_6 a1 a2).getD default
noncomputable def ret_law13_fed (b : Bool) (r : S.law13_fed_T) : Ret := ⟨b, none, [(true,
    [C.d (D.sl none false ET.step r.x0), C.d (D.sc (Sc.int IntKind.i64 r.x1)), C.d (D.sc (Sc.int IntKind.i64 r.x2)), C.d (D.sc (Sc.int IntKind.i64 r.x3)),
      C.d (D.sc (Sc.int IntKind.i64 r.x4)), C.d (D.sl none false ET.run r.x5), C.d (D.sc (Sc.int IntKind.i64 r.x6))]),
  (false, [C.d (D.sc (Sc.int IntKind.i64 r.x7))])]⟩
noncomputable def g_law13_fed : Con
  | [(true, [.sl a0_0n a0_0f .step a0_0, .sc (.int .i64 a0_1), .sc (.int .i64 a0_2), .sc (.int .i64 a0_3), .sc (.int .i64 a0_4), .sl a0_5n a0_5f .run a0_5, .sc (.int .i64 a0_6)]), (false, [.sl a1n a1f .evt a1]), (false, [.sc (.int .i64 a2)])] => some (ret_law13_fed (S.law13_fed_is a0_0n a0_0f a0_0 a0_1 a0_2 a0_3 a0_4 a0_5n a0_5f a0_5 a0_6 a1 a2) (S.law13_fed_o a0_0n a0_0f a0_0 a0_1 a0_2 a0_3 a0_4 a0_5n a0_5f a0_5 a0_6 a1 a2))
  | _ => none
theorem raw_law13_fed (a0_0n : Option Bool) (a0_0f : Bool) (a0_0 : List (Ty .step)) (a0_1 : Int) (a0_2 : Int) (a0_3 : Int) (a0_4 : Int) (a0_5n : Option Bool) (a0_5f : Bool) (a0_5 : List (Ty .run)) (a0_6 : Int) (a1n : Option Bool) (a1f : Bool) (a1 : List (Ty .evt)) (a2 : Int) : evR2 cx_law13_fed (hdI cx_law13_fed (find [(3, T_law13_fed_3)]) [] none 0) none Try.f62 62 none [(true, [.sl a0_0n a0_0f .step a0_0, .sc (.int .i64 a0_1), .sc (.int .i64 a0_2), .sc (.int .i64 a0_3), .sc (.int .i64 a0_4), .sl a0_5n a0_5f .run a0_5, .sc (.int .i64 a0_6)]), (false, [.sl a1n a1f .evt a1]), (false, [.sc (.int .i64 a2)])] some = (S.law13_fed_R a0_0n a0_0f a0_0 a0_1 a0_2 a0_3 a0_4 a0_5n a0_5f a0_5 a0_6 a1 a2).go (ret_law13_fed true) := by kernel_rfl
theorem bs_law13_fed : loopsIn Try.f62 [] = [b_law13_fed_3] := by kernel_rfl
theorem law13_fed_ok : Stands Try.prog tyTab 62 g_law13_fed := by
  refine stands3 (L := find [(3, T_law13_fed_3)]) (n := 0) (hints := [(62, 3, { keep := [1, 2, 3, 6, 8, 9], acc := [] })]) (cx_ok rfl) rdy_law13_fed ⟨by kernel_rfl, by kernel_rfl, by kernel_rfl⟩ bs_law13_fed (consB (fun T h => by have e : T_law13_fed_3 = T := Option.some.inj (show some T_law13_fed_3 = some T from h); exact e ▸ lok_law13_fed_3) nilB) (fun das r hG hr => ?_)
  unfold g_law13_fed at hG
  split at hG
  · rename_i a0_0n a0_0f a0_0 a0_1 a0_2 a0_3 a0_4 a0_5n a0_5f a0_5 a0_6 a1n a1f a1 a2
    injection hG with hG; subst hG
    exact ⟨none, true, win default ((raw_law13_fed a0_0n a0_0f a0_0 a0_1 a0_2 a0_3 a0_4 a0_5n a0_5f a0_5 a0_6 a1n a1f a1 a2).trans (DT.go_run _ _)) hr⟩
  · cases hG
noncomputable abbrev cx_law13_awake : Cx := mkCx2 tyTab [(57, g_match_May), (58, g_match_Feed), (61, g_match_New), (91, g_law11_Two), (98, g_match_Same)] [] [] []
theorem rdy_law13_awake : Ready Try.prog tyTab [(57, g_match_May), (58, g_match_Feed), (61, g_match_New), (91, g_law11_Two), (98, g_match_Same)] [] [] := ⟨consG2 match_May_ok (consG2 match_Feed_ok (consG2 match_New_ok (consG2 law11_Two_ok (consG2 match_Same_ok (noneG2))))), noneI2, noneF2⟩
structure S.law13_awake_T where
  x0 : Bool
  deriving Inhabited
noncomputable def S.law13_awake_R  : DT S.law13_awake_T :=
let y0 : S.law11_Two_T := S.law11_Two_o 5
let y1 : S.match_New_T := S.match_New_o y0.x0 y0.x1 y0.x2 y0.x3 y0.x4
let y2 : List (Ty ET.step) := y1.x0
let y3 : Int := y1.x1
let y4 : Int := y1.x2
let y5 : Int := y1.x3
let y6 : Int := y1.x4
let y7 : List (Ty ET.run) := y1.x5
let y8 : Int := y1.x6
let y9 : ByteArray := { data := { toList := [97] : Array UInt8 } : ByteArray }
let y10 : S.match_Feed_T := S.match_Feed_o y2 y3 y4 y5 y6 y7 y8 y9 0 [] 0
let y11 : List (Ty ET.step) := y10.x0
let y12 : Int := y10.x1
let y13 : Int := y10.x2
let y14 : Int := y10.x3
let y15 : Int := y10.x4
let y16 : List (Ty ET.run) := y10.x5
let y17 : Int := y10.x6
let y18 : S.match_Feed_T := S.match_Feed_o y11 y12 y13 y14 y15 y16 y17 y9 0 [] 1
let y19 : List (Ty ET.step) := y18.x0
let y20 : Int := y18.x1
let y21 : Int := y18.x2
let y22 : Int := y18.x3
let y23 : Int := y18.x4
let y24 : List (Ty ET.run) := y18.x5
let y25 : Int := y18.x6
let y26 : ByteArray := { data := { toList := [98] : Array UInt8 } : ByteArray }
let y27 : S.match_Feed_T := S.match_Feed_o y19 y20 y21 y22 y23 y24 y25 y26 0 [] 2
let y28 : List (Ty ET.mat) := y27.x7
let y29 : Int := (↑y28.length : Int)
let y30 : List (Ty ET.run) := y27.x5
let y31 : List (Ty ET.step) := y27.x0
let y32 : Int := y27.x1
let y33 : Int := y27.x2
let y34 : Int := y27.x3
let y35 : Int := y27.x4
let y36 : Int := y27.x6
(.br (S.law11_Two_is 5)
(.br (S.match_Feed_is y2 y3 y4 y5 y6 y7 y8 y9 0 [] 0)
(.br (S.match_Feed_is y11 y12 y13 y14 y15 y16 y17 y9 0 [] 1)
(.br (S.match_Feed_is y19 y20 y21 y22 y23 y24 y25 y26 0 [] 2)
(.br (xeqI (xwrap IntKind.i64 ((↑y10.x7.length : Int) + (↑y18.x7.length : Int))) 0)
(.br (xeqI y29 2)
(.br (xdec (0 ≤ 0) && xdec (0 < y29))
(.br (xeqI (y28.getD (Int.toNat 0) (dflt ET.mat)).start 0)
(.br (xdec (0 ≤ 1) && xdec (1 < y29))
(.br (xeqI (y28.getD (Int.toNat 1) (dflt ET.mat)).start 1)
(.br (xeqI (↑y30.length : Int) 0)
(.br (S.match_May_is y19 y24 y25)
(.br ((S.match_May_o y19 y24 y25).x0)
(.br (S.match_Same_is y19 y20 y21 y22 y23 y24 y25 y31 y32 y33 y34 y35 y30 y36)
(.leaf ⟨xnot (S.match_Same_o y19 y20 y21 y22 y23 y24 y25 y31 y32 y33 y34 y35 y30 y36).x0⟩)
.fail)
(.leaf ⟨false⟩))
.fail)
(.leaf ⟨false⟩))
(.leaf ⟨false⟩))
.fail)
(.leaf ⟨false⟩))
.fail)
(.leaf ⟨false⟩))
(.leaf ⟨false⟩))
.fail)
.fail)
.fail)
.fail)
noncomputable def S.law13_awake  : Option S.law13_awake_T := (S.law13_awake_R ).run
noncomputable def S.law13_awake_is  : Bool := (S.law13_awake ).isSome
noncomputable def S.law13_awake_o  : S.law13_awake_T := (S.law13_awake ).getD default
noncomputable def ret_law13_awake (b : Bool) (r : S.law13_awake_T) : Ret := ⟨b, none, [(false, [C.d (D.sc (Sc.bool r.x0))])]⟩
noncomputable def g_law13_awake : Con
  | [] => some (ret_law13_awake (S.law13_awake_is ) (S.law13_awake_o ))
  | _ => none
theorem raw_law13_awake  : evR2 cx_law13_awake (hdI cx_law13_awake (find []) [] none 0) none Try.f55 55 none [] some = (S.law13_awake_R ).go (ret_law13_awake true) := by kernel_rfl
theorem bs_law13_awake : loopsIn Try.f55 [] = [] := by kernel_rfl
theorem law13_awake_ok : Stands Try.prog tyTab 55 g_law13_awake := by
  refine stands3 (L := find []) (n := 0) (hints := []) (cx_ok rfl) rdy_law13_awake ⟨by kernel_rfl, by kernel_rfl, by kernel_rfl⟩ bs_law13_awake nilB (fun das r hG hr => ?_)
  unfold g_law13_awake at hG
  split at hG
  · injection hG with hG; subst hG
    exact ⟨none, true, win default ((raw_law13_awake ).trans (DT.go_run _ _)) hr⟩
  · cases hG
end Go.Eng
