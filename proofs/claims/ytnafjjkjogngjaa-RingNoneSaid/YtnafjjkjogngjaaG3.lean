/- Contracts, laid by program. -/
import Derived.Test.YtnafjjkjogngjaaG2
set_option linter.unusedVariables false
set_option linter.unusedSimpArgs false
namespace Go.Eng
open Go Go.Eng Go.Proofs Go.Eng.Tab
noncomputable abbrev cx_law14_RingSends : Cx := mkCx2 tyTab [(15, g_law14_awake), (16, g_ring_May), (17, g_ring_Back), (18, g_ring_Next)] [] [(3, 8, { keep := [1, 4, 6], acc := [] })] []
theorem rdy_law14_RingSends : Ready Try.prog tyTab [(15, g_law14_awake), (16, g_ring_May), (17, g_ring_Back), (18, g_ring_Next)] [] [] := ⟨consG2 law14_awake_ok (consG2 ring_May_ok (consG2 ring_Back_ok (consG2 ring_Next_ok (noneG2)))), noneI2, noneF2⟩
structure S.law14_RingSends_8_V where
  t_6_0 : Int
  h_18_0 : Int
  h_18_1 : Int
  h_18_2 : List (Ty ET.mat)
noncomputable def S.law14_RingSends_8_R (h_0_0 : Int) (h_0_2 : List (Ty ET.mat)) (v : S.law14_RingSends_8_V) : DT (Option Nat × S.law14_RingSends_8_V) :=
let y0 : Bool := xdec (v.t_6_0 < (↑h_0_2.length : Int))
let y1 : S.ring_Next_T := S.ring_Next_o v.h_18_0 v.h_18_1 v.h_18_2
let y2 : Ty ET.mat := h_0_2.getD v.t_6_0.toNat (dflt ET.mat)
let y3 : Int := y1.x0
let y4 : Int := y1.x1
let y5 : List (Ty ET.mat) := y1.x2
(.br (y0)
(.br (S.ring_Next_is v.h_18_0 v.h_18_1 v.h_18_2)
(.br (xnot y1.x8)
(.leaf (some 0, v))
(.br (xneI y1.x3 (xwrap IntKind.i64 (xwrap IntKind.i64 (h_0_0 + v.t_6_0) + 1)))
(.leaf (some 0, v))
(.br (xdec (0 ≤ v.t_6_0) && y0)
(.br (bif xeqI y1.x4 y2.start && (xeqI y1.x5 y2.fin && (xeqI y1.x6 y2.agg && xeqB y1.x7 y2.bad)) then false else true)
(.leaf (some 0, v))
(.br (S.ring_May_is y3 y4 y5)
(.br (xnot (S.ring_May_o y3 y4 y5).x0)
(.leaf (some 0, v))
(.leaf (none, ⟨xwrap IntKind.i64 (v.t_6_0 + 1), y3, y4, y5⟩)))
.fail))
.fail)))
.fail)
(.leaf (some 1, v)))
noncomputable def S.law14_RingSends_8_r (h_0_0 : Int) (h_0_2 : List (Ty ET.mat)) (v : S.law14_RingSends_8_V) : Option (Option Nat × S.law14_RingSends_8_V) := (S.law14_RingSends_8_R h_0_0 h_0_2 v).run
noncomputable def S.law14_RingSends_8_j (h_0_0 : Int) (h_0_2 : List (Ty ET.mat)) (v : S.law14_RingSends_8_V) (j : Nat) : Bool := Lp_j (S.law14_RingSends_8_r h_0_0 h_0_2) v j
noncomputable def S.law14_RingSends_8_v (h_0_0 : Int) (h_0_2 : List (Ty ET.mat)) (v : S.law14_RingSends_8_V) : S.law14_RingSends_8_V := Lp_v (S.law14_RingSends_8_r h_0_0 h_0_2) v
noncomputable def mk_law14_RingSends_8 (h_0_0 : Int) (h_0_1 : Int) (h_0_2n : Option Bool) (h_0_2f : Bool) (h_0_2 : List (Ty ET.mat)) (v : S.law14_RingSends_8_V) : St := ⟨[V.any, V.v false [C.ptr 0 0], V.any, V.any, V.v false [C.ptr 18 0], V.any, V.v false [C.d (D.sc (Sc.int IntKind.i64 v.t_6_0))], V.any, V.any, V.any, V.any, V.any, V.any, V.any,
  V.any, V.any, V.any, V.any, V.any, V.any, V.any, V.any, V.any, V.any, V.any, V.any, V.any, V.any, V.any, V.any, V.any, V.any, V.any, V.any, V.any, V.any, V.any, V.any, V.any,
  V.any, V.any, V.any, V.any, V.any, V.any, V.any, V.any, V.any, V.any, V.any, V.any, V.any, V.any, V.any, V.any, V.any, V.any, V.any, V.any, V.any, V.any, V.any, V.any, V.any,
  V.any, V.any, V.any, V.any, V.any, V.any, V.any, V.any, V.any, V.any, V.any, V.any, V.any, V.any, V.any, V.any, V.any, V.any, V.any, V.any, V.any, V.any, V.any, V.any, V.any,
  V.any, V.any, V.any, V.any, V.any, V.any, V.any, V.any, V.any, V.any, V.any], [some (Blk.box 24 [C.d (D.sc (Sc.int IntKind.i64 h_0_0)), C.d (D.sc (Sc.int IntKind.i64 h_0_1)), C.d (D.sl h_0_2n h_0_2f ET.mat h_0_2)]), none, none, none, none, none, none, none,
  none, none, none, none, none, none, none, none, none, none,
  some (Blk.box 24 [C.d (D.sc (Sc.int IntKind.i64 v.h_18_0)), C.d (D.sc (Sc.int IntKind.i64 v.h_18_1)), C.d (D.sl none false ET.mat v.h_18_2)]), none, none, none, none, none], 0⟩
noncomputable def ex_law14_RingSends_8 (h_0_0 : Int) (h_0_1 : Int) (h_0_2n : Option Bool) (h_0_2f : Bool) (h_0_2 : List (Ty ET.mat)) (j : Nat) (v : S.law14_RingSends_8_V) : Ex × St := match j with
  | 0 => (Ex.ret, ⟨[V.any, V.v false [C.ptr 0 0], V.v false [C.d (D.sc (Sc.bool false))], V.any, V.v false [C.ptr 18 0], V.any, V.any, V.any, V.any, V.any, V.any, V.any, V.any, V.any, V.any, V.any,
  V.any, V.any, V.any, V.any, V.any, V.any, V.any, V.any, V.any, V.any, V.any, V.any, V.any, V.any, V.any, V.any, V.any, V.any, V.any, V.any, V.any, V.any, V.any, V.any, V.any,
  V.any, V.any, V.any, V.any, V.any, V.any, V.any, V.any, V.any, V.any, V.any, V.any, V.any, V.any, V.any, V.any, V.any, V.any, V.any, V.any, V.any, V.any, V.any, V.any, V.any,
  V.any, V.any, V.any, V.any, V.any, V.any, V.any, V.any, V.any, V.any, V.any, V.any, V.any, V.any, V.any, V.any, V.any, V.any, V.any, V.any, V.any, V.any, V.any, V.any, V.any,
  V.any, V.any, V.any, V.any, V.any, V.any, V.any, V.any, V.any], [some (Blk.box 24 [C.d (D.sc (Sc.int IntKind.i64 h_0_0)), C.d (D.sc (Sc.int IntKind.i64 h_0_1)), C.d (D.sl h_0_2n h_0_2f ET.mat h_0_2)]), none, none, none, none, none, none, none,
  none, none, none, none, none, none, none, none, none, none,
  some (Blk.box 24 [C.d (D.sc (Sc.int IntKind.i64 v.h_18_0)), C.d (D.sc (Sc.int IntKind.i64 v.h_18_1)), C.d (D.sl none false ET.mat v.h_18_2)]), none, none, none, none, none, none,
  none, none, none, none, none, none, none, none, none, none, none,
  some
    (Blk.box 24
      [C.d (D.sc (Sc.int IntKind.i64 (S.ring_Next_o v.h_18_0 v.h_18_1 v.h_18_2).x0)), C.d (D.sc (Sc.int IntKind.i64 (S.ring_Next_o v.h_18_0 v.h_18_1 v.h_18_2).x1)),
        C.d (D.sl none false ET.mat (S.ring_Next_o v.h_18_0 v.h_18_1 v.h_18_2).x2)]),
  some
    (Blk.box 31
      [C.d (D.sc (Sc.int IntKind.i64 (S.ring_Next_o v.h_18_0 v.h_18_1 v.h_18_2).x4)), C.d (D.sc (Sc.int IntKind.i64 (S.ring_Next_o v.h_18_0 v.h_18_1 v.h_18_2).x5)),
        C.d (D.sc (Sc.int IntKind.i64 (S.ring_Next_o v.h_18_0 v.h_18_1 v.h_18_2).x6)), C.d (D.sc (Sc.bool (S.ring_Next_o v.h_18_0 v.h_18_1 v.h_18_2).x7))]),
  none, none, none, none, none, none, none, none, none, none, none, none, none, none, none, none, none, none, none, none, none, none, none, none, none, none, none, none, none,
  none], 0⟩)
  | 1 => (Ex.exit 0, ⟨[V.any, V.v false [C.ptr 0 0], V.any, V.any, V.v false [C.ptr 18 0], V.any, V.any, V.any, V.any, V.any, V.any, V.any, V.any, V.any, V.any, V.any, V.any, V.any, V.any, V.any, V.any,
  V.any, V.any, V.any, V.any, V.any, V.any, V.any, V.any, V.any, V.any, V.any, V.any, V.any, V.any, V.any, V.any, V.any, V.any, V.any, V.any, V.any, V.any, V.any, V.any, V.any,
  V.any, V.any, V.any, V.any, V.any, V.any, V.any, V.any, V.any, V.any, V.any, V.any, V.any, V.any, V.any, V.any, V.any, V.any, V.any, V.any, V.any, V.any, V.any, V.any, V.any,
  V.any, V.any, V.any, V.any, V.any, V.any, V.any, V.any, V.any, V.any, V.any, V.any, V.any, V.any, V.any, V.any, V.any, V.any, V.any, V.any, V.any, V.any, V.any, V.any, V.any,
  V.any, V.any, V.any, V.any], [some (Blk.box 24 [C.d (D.sc (Sc.int IntKind.i64 h_0_0)), C.d (D.sc (Sc.int IntKind.i64 h_0_1)), C.d (D.sl h_0_2n h_0_2f ET.mat h_0_2)]), none, none, none, none, none, none, none,
  none, none, none, none, none, none, none, none, none, none,
  some (Blk.box 24 [C.d (D.sc (Sc.int IntKind.i64 v.h_18_0)), C.d (D.sc (Sc.int IntKind.i64 v.h_18_1)), C.d (D.sl none false ET.mat v.h_18_2)]), none, none, none, none, none, none,
  none, none, none, none], 0⟩)
  | _ => (.ret, ⟨[], [], 0⟩)
noncomputable def T1_law14_RingSends_8 : V → V → V → Option Blk → Option Blk → Tree
  | V.v false [C.ptr 0 0], V.v false [C.ptr 18 0], V.v false [C.d (D.sc (Sc.int IntKind.i64 t_6_0))], some (Blk.box 24 [C.d (D.sc (Sc.int IntKind.i64 h_0_0)), C.d (D.sc (Sc.int IntKind.i64 h_0_1)), C.d (D.sl h_0_2n h_0_2f ET.mat h_0_2)]), some (Blk.box 24 [C.d (D.sc (Sc.int IntKind.i64 h_18_0)), C.d (D.sc (Sc.int IntKind.i64 h_18_1)), C.d (D.sl none false ET.mat h_18_2)]) => exT (fun j => ex_law14_RingSends_8 h_0_0 h_0_1 h_0_2n h_0_2f h_0_2 j (S.law14_RingSends_8_v h_0_0 h_0_2 ⟨t_6_0, h_18_0, h_18_1, h_18_2⟩)) (S.law14_RingSends_8_j h_0_0 h_0_2 ⟨t_6_0, h_18_0, h_18_1, h_18_2⟩) [0, 1]
  | _, _, _, _, _ => .bad
noncomputable def T_law14_RingSends_8 (st : St) : Tree := bif okSt 100 24 0 [0, 18] st then T1_law14_RingSends_8 (st.env.getD 1 .any) (st.env.getD 4 .any) (st.env.getD 6 .any) (lk st.heap 0) (lk st.heap 18) else .bad
noncomputable def b_law14_RingSends_8 : Code := loopBy Try.f3 8
theorem rnd_law14_RingSends_8 (h_0_0 : Int) (h_0_1 : Int) (h_0_2n : Option Bool) (h_0_2f : Bool) (h_0_2 : List (Ty ET.mat)) (v : S.law14_RingSends_8_V) : round2 cx_law14_RingSends (hdI cx_law14_RingSends (find []) [] none 0) 3 b_law14_RingSends_8 [] 24 [1, 2, 4] (mk_law14_RingSends_8 h_0_0 h_0_1 h_0_2n h_0_2f h_0_2 v) = (S.law14_RingSends_8_R h_0_0 h_0_2 v).go (roundOut (mk_law14_RingSends_8 h_0_0 h_0_1 h_0_2n h_0_2f h_0_2) (ex_law14_RingSends_8 h_0_0 h_0_1 h_0_2n h_0_2f h_0_2)) := by kernel_rfl
theorem bs_law14_RingSends_8 : loopsOf b_law14_RingSends_8 ++ loopsInl [] = [] := by kernel_rfl
theorem ci_law14_RingSends_8 (h_0_0 : Int) (h_0_1 : Int) (h_0_2n : Option Bool) (h_0_2f : Bool) (h_0_2 : List (Ty ET.mat)) : ∀ v j v2, Lp (S.law14_RingSends_8_r h_0_0 h_0_2) v = some (j, v2) → Circles Try.prog cx_law14_RingSends b_law14_RingSends_8 (mk_law14_RingSends_8 h_0_0 h_0_1 h_0_2n h_0_2f h_0_2 v) (ex_law14_RingSends_8 h_0_0 h_0_1 h_0_2n h_0_2f h_0_2 j v2).1 (ex_law14_RingSends_8 h_0_0 h_0_1 h_0_2n h_0_2f h_0_2 j v2).2 :=
  loop_ok2 (L := find []) (n := 0) (hints := [(3, 8, { keep := [1, 4, 6], acc := [] })]) (cx_ok rfl) rdy_law14_RingSends bs_law14_RingSends_8 nilB (fun v => (rnd_law14_RingSends_8 h_0_0 h_0_1 h_0_2n h_0_2f h_0_2 v).trans (DT.go_run _ _)) (by intro j v; unfold ex_law14_RingSends_8; split <;> rfl)
theorem mke_law14_RingSends_8 (h_0_0 : Int) (h_0_1 : Int) (h_0_2n : Option Bool) (h_0_2f : Bool) (h_0_2 : List (Ty ET.mat)) (v : S.law14_RingSends_8_V) : mk_law14_RingSends_8 h_0_0 h_0_1 h_0_2n h_0_2f h_0_2 v = ⟨envOf 100 [(1, V.v false [C.ptr 0 0]), (4, V.v false [C.ptr 18 0]), (6, V.v false [C.d (D.sc (Sc.int IntKind.i64 v.t_6_0))])], heapOf 24 [(0, some (Blk.box 24 [C.d (D.sc (Sc.int IntKind.i64 h_0_0)), C.d (D.sc (Sc.int IntKind.i64 h_0_1)), C.d (D.sl h_0_2n h_0_2f ET.mat h_0_2)])), (18, some (Blk.box 24 [C.d (D.sc (Sc.int IntKind.i64 v.h_18_0)), C.d (D.sc (Sc.int IntKind.i64 v.h_18_1)), C.d (D.sl none false ET.mat v.h_18_2)]))], 0⟩ := by kernel_rfl
theorem lo1_law14_RingSends_8 (e1 : V) (e4 : V) (e6 : V) (h0 : Option Blk) (h18 : Option Blk) e st2 (h : (T1_law14_RingSends_8 e1 e4 e6 h0 h18).eval = some (e, st2)) : Circles Try.prog cx_law14_RingSends b_law14_RingSends_8 ⟨envOf 100 [(1, e1), (4, e4), (6, e6)], heapOf 24 [(0, h0), (18, h18)], 0⟩ e st2 := by
  unfold T1_law14_RingSends_8 at h
  split at h
  · have := loop_tree (mk := mk_law14_RingSends_8 _ _ _ _ _) (ci_law14_RingSends_8 _ _ _ _ _) _ _ e st2 h
    rw [mke_law14_RingSends_8] at this
    exact this
  · cases h
theorem lok_law14_RingSends_8 : LoopOk Try.prog cx_law14_RingSends b_law14_RingSends_8 T_law14_RingSends_8 := by
  intro st e st2 h
  unfold T_law14_RingSends_8 at h
  cases hk : okSt 100 24 0 [0, 18] st with
  | false => rw [hk] at h; cases h
  | true =>
    rw [hk] at h
    exact circles_keep (ks := [1, 4, 6]) hk (lo1_law14_RingSends_8 _ _ _ _ _ e st2 h)
structure S.law14_RingSends_T where
  x0 : Bool
  deriving Inhabited
noncomputable def S.law14_RingSends_R (a0_0 : Int) (a0_1 : Int) (a0_2 : List (Ty .mat)) : DT S.law14_RingSends_T :=
let y0 : S.ring_Back_T := S.ring_Back_o a0_0 a0_1 a0_2 a0_0
let y1 : S.law14_RingSends_8_V := { t_6_0 := 0, h_18_0 := y0.x0, h_18_1 := y0.x1, h_18_2 := y0.x2 : S.law14_RingSends_8_V }
let y2 : S.law14_RingSends_8_V := S.law14_RingSends_8_v a0_0 a0_2 y1
let y3 : Int := y2.h_18_0
let y4 : Int := y2.h_18_1
let y5 : List (Ty ET.mat) := y2.h_18_2
(.br (S.law14_awake_is)
(.br (xnot S.law14_awake_o.x0)
(.leaf ⟨S.law14_awake_o.x0⟩)
(.br (S.ring_May_is a0_0 a0_1 a0_2)
(.br (xnot (S.ring_May_o a0_0 a0_1 a0_2).x0)
(.leaf ⟨S.law14_awake_o.x0⟩)
(.br (S.ring_Back_is a0_0 a0_1 a0_2 a0_0)
(.br (xneI y0.x3 0)
(.leaf ⟨false⟩)
(.br (S.law14_RingSends_8_j a0_0 a0_2 y1 0)
(.leaf ⟨false⟩)
(.br (S.law14_RingSends_8_j a0_0 a0_2 y1 1)
(.br (S.ring_Next_is y3 y4 y5)
(.br (xnot (S.ring_Next_o y3 y4 y5).x8)
(.br (xeqI y4 (xwrap IntKind.i64 (a0_0 + (↑a0_2.length : Int))))
(.leaf ⟨xeqI y3 a0_0⟩)
(.leaf ⟨false⟩))
(.leaf ⟨false⟩))
.fail)
.fail)))
.fail))
.fail))
.fail)
noncomputable def S.law14_RingSends (a0_0 : Int) (a0_1 : Int) (a0_2 : List (Ty .mat)) : Option S.law14_RingSends_T := (S.law14_RingSends_R a0_0 a0_1 a0_2).run
noncomputable def S.law14_RingSends_is (a0_0 : Int) (a0_1 : Int) (a0_2 : List (Ty .mat)) : Bool := (S.law14_RingSends a0_0 a0_1 a0_2).isSome
noncomputable def S.law14_RingSends_o (a0_0 : Int) (a0_1 : Int) (a0_2 : List (Ty .mat)) : S.law14_RingSends_T := (S.law14_RingSends a0_0 a0_1 a0_2).getD default
noncomputable def ret_law14_RingSends (b : Bool) (r : S.law14_RingSends_T) : Ret := ⟨b, none, [(false, [C.d (D.sc (Sc.bool r.x0))])]⟩
noncomputable def g_law14_RingSends : Con
  | [(true, [.sc (.int .i64 a0_0), .sc (.int .i64 a0_1), .sl a0_2n a0_2f .mat a0_2])] => some (ret_law14_RingSends (S.law14_RingSends_is a0_0 a0_1 a0_2) (S.law14_RingSends_o a0_0 a0_1 a0_2))
  | _ => none
theorem raw_law14_RingSends (a0_0 : Int) (a0_1 : Int) (a0_2n : Option Bool) (a0_2f : Bool) (a0_2 : List (Ty .mat)) : evR2 cx_law14_RingSends (hdI cx_law14_RingSends (find [(8, T_law14_RingSends_8)]) [] none 0) none Try.f3 3 none [(true, [.sc (.int .i64 a0_0), .sc (.int .i64 a0_1), .sl a0_2n a0_2f .mat a0_2])] some = (S.law14_RingSends_R a0_0 a0_1 a0_2).go (ret_law14_RingSends true) := by kernel_rfl
theorem bs_law14_RingSends : loopsIn Try.f3 [] = [b_law14_RingSends_8] := by kernel_rfl
theorem law14_RingSends_ok : Stands Try.prog tyTab 3 g_law14_RingSends := by
  refine stands3 (L := find [(8, T_law14_RingSends_8)]) (n := 0) (hints := [(3, 8, { keep := [1, 4, 6], acc := [] })]) (cx_ok rfl) rdy_law14_RingSends ⟨by kernel_rfl, by kernel_rfl, by kernel_rfl⟩ bs_law14_RingSends (consB (fun T h => by have e : T_law14_RingSends_8 = T := Option.some.inj (show some T_law14_RingSends_8 = some T from h); exact e ▸ lok_law14_RingSends_8) nilB) (fun das r hG hr => ?_)
  unfold g_law14_RingSends at hG
  split at hG
  · rename_i a0_0 a0_1 a0_2n a0_2f a0_2
    injection hG with hG; subst hG
    exact ⟨none, true, win default ((raw_law14_RingSends a0_0 a0_1 a0_2n a0_2f a0_2).trans (DT.go_run _ _)) hr⟩
  · cases hG
noncomputable abbrev cx_law14_RingFills : Cx := mkCx2 tyTab [(15, g_law14_awake), (18, g_ring_Next), (19, g_ring_Add), (20, g_ring_Ack)] [] [(4, 7, { keep := [0, 4, 5, 6], acc := [] })] []
theorem rdy_law14_RingFills : Ready Try.prog tyTab [(15, g_law14_awake), (18, g_ring_Next), (19, g_ring_Add), (20, g_ring_Ack)] [] [] := ⟨consG2 law14_awake_ok (consG2 ring_Next_ok (consG2 ring_Add_ok (consG2 ring_Ack_ok (noneG2)))), noneI2, noneF2⟩
structure S.law14_RingFills_7_V where
  t_6_0 : Int
  h_11_0 : Int
  h_11_1 : Int
  h_11_2n : Option Bool
  h_11_2f : Bool
  h_11_2 : List (Ty ET.mat)
  h_14_0 : Int
  h_14_1 : Int
  h_14_2n : Option Bool
  h_14_2f : Bool
  h_14_2 : List (Ty ET.mat)
noncomputable def S.law14_RingFills_7_R (t_0_0 : List (Ty ET.mat)) (v : S.law14_RingFills_7_V) : DT (Option Nat × S.law14_RingFills_7_V) :=
let y0 : Bool := xdec (v.t_6_0 < (↑t_0_0.length : Int))
let y1 : Bool := xdec (0 ≤ v.t_6_0) && y0
let y2 : Ty ET.mat := t_0_0.getD v.t_6_0.toNat (dflt ET.mat)
let y3 : Int := y2.start
let y4 : Int := y2.fin
let y5 : Int := y2.agg
let y6 : Bool := y2.bad
let y7 : S.ring_Add_T := S.ring_Add_o v.h_11_0 v.h_11_1 v.h_11_2 y3 y4 y5 y6
let y8 : S.ring_Add_T := S.ring_Add_o v.h_14_0 v.h_14_1 v.h_14_2 y3 y4 y5 y6
let y9 : Int := y8.x0
let y10 : Int := y8.x1
let y11 : List (Ty ET.mat) := y8.x2
let y12 : S.ring_Next_T := S.ring_Next_o y9 y10 y11
let y13 : Int := y12.x0
let y14 : Int := y12.x1
let y15 : List (Ty ET.mat) := y12.x2
let y16 : Int := y12.x3
let y17 : Int := xwrap IntKind.i64 (v.t_6_0 + 1)
let y18 : S.ring_Ack_T := S.ring_Ack_o y13 y14 y15 y16
let y19 : List (Ty ET.mat) := y18.x2
(.br (y0)
(.br (y1)
(.br (S.ring_Add_is v.h_11_0 v.h_11_1 v.h_11_2 y3 y4 y5 y6)
(.br (bif y7.x3 == xdec (v.t_6_0 < 6) then false else true)
(.leaf (some 0, v))
(.br (y1)
(.br (S.ring_Add_is v.h_14_0 v.h_14_1 v.h_14_2 y3 y4 y5 y6)
(.br (S.ring_Next_is y9 y10 y11)
(.br (S.ring_Ack_is y13 y14 y15 y16)
(.br (xnot y8.x3)
(.leaf (some 1, v))
(.br (xnot y12.x8)
(.leaf (some 1, v))
(.br (xneI y16 y17)
(.leaf (some 1, v))
(.br (y1)
(.br (bif xeqI y12.x4 y3 && (xeqI y12.x5 y4 && (xeqI y12.x6 y5 && xeqB y12.x7 y6)) then false else true)
(.leaf (some 1, v))
(.br (xneI y18.x3 0)
(.leaf (some 1, v))
(.br (xneI (↑y19.length : Int) 0)
(.leaf (some 1, v))
(.leaf (none, ⟨y17, y7.x0, y7.x1, none, false, y7.x2, y18.x0, y18.x1, none, false, y19⟩)))))
.fail))))
.fail)
.fail)
.fail)
.fail))
.fail)
.fail)
(.leaf (some 2, v)))
noncomputable def S.law14_RingFills_7_r (t_0_0 : List (Ty ET.mat)) (v : S.law14_RingFills_7_V) : Option (Option Nat × S.law14_RingFills_7_V) := (S.law14_RingFills_7_R t_0_0 v).run
noncomputable def S.law14_RingFills_7_j (t_0_0 : List (Ty ET.mat)) (v : S.law14_RingFills_7_V) (j : Nat) : Bool := Lp_j (S.law14_RingFills_7_r t_0_0) v j
noncomputable def S.law14_RingFills_7_v (t_0_0 : List (Ty ET.mat)) (v : S.law14_RingFills_7_V) : S.law14_RingFills_7_V := Lp_v (S.law14_RingFills_7_r t_0_0) v
noncomputable def mk_law14_RingFills_7 (t_0_0n : Option Bool) (t_0_0f : Bool) (t_0_0 : List (Ty ET.mat)) (v : S.law14_RingFills_7_V) : St := ⟨[V.v false [C.d (D.sl t_0_0n t_0_0f ET.mat t_0_0)], V.any, V.any, V.any, V.v false [C.ptr 11 0], V.v false [C.ptr 14 0], V.v false [C.d (D.sc (Sc.int IntKind.i64 v.t_6_0))], V.any,
  V.any, V.any, V.any, V.any, V.any, V.any, V.any, V.any, V.any, V.any, V.any, V.any, V.any, V.any, V.any, V.any, V.any, V.any, V.any, V.any, V.any, V.any, V.any, V.any, V.any,
  V.any, V.any, V.any, V.any, V.any, V.any, V.any, V.any, V.any, V.any, V.any, V.any, V.any, V.any, V.any, V.any, V.any, V.any, V.any, V.any, V.any, V.any, V.any, V.any, V.any,
  V.any, V.any, V.any, V.any, V.any, V.any, V.any, V.any, V.any, V.any, V.any, V.any, V.any, V.any, V.any, V.any, V.any, V.any, V.any, V.any, V.any, V.any, V.any, V.any, V.any,
  V.any, V.any, V.any, V.any, V.any, V.any, V.any, V.any, V.any, V.any, V.any, V.any, V.any, V.any, V.any, V.any, V.any, V.any, V.any, V.any, V.any, V.any, V.any, V.any, V.any,
  V.any, V.any, V.any, V.any, V.any, V.any, V.any, V.any, V.any], [none, none, none, none, none, none, none, none, none, none, none,
  some (Blk.box 24 [C.d (D.sc (Sc.int IntKind.i64 v.h_11_0)), C.d (D.sc (Sc.int IntKind.i64 v.h_11_1)), C.d (D.sl v.h_11_2n v.h_11_2f ET.mat v.h_11_2)]), none, none,
  some (Blk.box 24 [C.d (D.sc (Sc.int IntKind.i64 v.h_14_0)), C.d (D.sc (Sc.int IntKind.i64 v.h_14_1)), C.d (D.sl v.h_14_2n v.h_14_2f ET.mat v.h_14_2)]), none, none], 0⟩
noncomputable def ex_law14_RingFills_7 (t_0_0n : Option Bool) (t_0_0f : Bool) (t_0_0 : List (Ty ET.mat)) (j : Nat) (v : S.law14_RingFills_7_V) : Ex × St := match j with
  | 0 => (Ex.ret, ⟨[V.v false [C.d (D.sl t_0_0n t_0_0f ET.mat t_0_0)], V.any, V.v false [C.d (D.sc (Sc.bool false))], V.any, V.v false [C.ptr 11 0], V.v false [C.ptr 14 0], V.any, V.any, V.any,
  V.any, V.any, V.any, V.any, V.any, V.any, V.any, V.any, V.any, V.any, V.any, V.any, V.any, V.any, V.any, V.any, V.any, V.any, V.any, V.any, V.any, V.any, V.any, V.any, V.any,
  V.any, V.any, V.any, V.any, V.any, V.any, V.any, V.any, V.any, V.any, V.any, V.any, V.any, V.any, V.any, V.any, V.any, V.any, V.any, V.any, V.any, V.any, V.any, V.any, V.any,
  V.any, V.any, V.any, V.any, V.any, V.any, V.any, V.any, V.any, V.any, V.any, V.any, V.any, V.any, V.any, V.any, V.any, V.any, V.any, V.any, V.any, V.any, V.any, V.any, V.any,
  V.any, V.any, V.any, V.any, V.any, V.any, V.any, V.any, V.any, V.any, V.any, V.any, V.any, V.any, V.any, V.any, V.any, V.any, V.any, V.any, V.any, V.any, V.any, V.any, V.any,
  V.any, V.any, V.any, V.any, V.any, V.any, V.any, V.any], [none, none, none, none, none, none, none, none, none, none, none,
  some (Blk.box 24 [C.d (D.sc (Sc.int IntKind.i64 v.h_11_0)), C.d (D.sc (Sc.int IntKind.i64 v.h_11_1)), C.d (D.sl v.h_11_2n v.h_11_2f ET.mat v.h_11_2)]), none, none,
  some (Blk.box 24 [C.d (D.sc (Sc.int IntKind.i64 v.h_14_0)), C.d (D.sc (Sc.int IntKind.i64 v.h_14_1)), C.d (D.sl v.h_14_2n v.h_14_2f ET.mat v.h_14_2)]), none, none, none, none,
  none, none, none, none, none, none, none, none, none, none, none,
  some
    (Blk.box 24
      [C.d
          (D.sc
            (Sc.int IntKind.i64
              (S.ring_Add_o v.h_11_0 v.h_11_1 v.h_11_2 (t_0_0.getD v.t_6_0.toNat (dflt ET.mat)).start (t_0_0.getD v.t_6_0.toNat (dflt ET.mat)).fin
                  (t_0_0.getD v.t_6_0.toNat (dflt ET.mat)).agg (t_0_0.getD v.t_6_0.toNat (dflt ET.mat)).bad).x0)),
        C.d
          (D.sc
            (Sc.int IntKind.i64
              (S.ring_Add_o v.h_11_0 v.h_11_1 v.h_11_2 (t_0_0.getD v.t_6_0.toNat (dflt ET.mat)).start (t_0_0.getD v.t_6_0.toNat (dflt ET.mat)).fin
                  (t_0_0.getD v.t_6_0.toNat (dflt ET.mat)).agg (t_0_0.getD v.t_6_0.toNat (dflt ET.mat)).bad).x1)),
        C.d
          (D.sl none false ET.mat
            (S.ring_Add_o v.h_11_0 v.h_11_1 v.h_11_2 (t_0_0.getD v.t_6_0.toNat (dflt ET.mat)).start (t_0_0.getD v.t_6_0.toNat (dflt ET.mat)).fin
                (t_0_0.getD v.t_6_0.toNat (dflt ET.mat)).agg (t_0_0.getD v.t_6_0.toNat (dflt ET.mat)).bad).x2)]),
  none, none, none, none, none, none, none], 0⟩)
  | 1 => (Ex.ret, ⟨[V.v false [C.d (D.sl t_0_0n t_0_0f ET.mat t_0_0)], V.any, V.v false [C.d (D.sc (Sc.bool false))], V.any, V.v false [C.ptr 11 0], V.v false [C.ptr 14 0], V.any, V.any, V.any,
  V.any, V.any, V.any, V.any, V.any, V.any, V.any, V.any, V.any, V.any, V.any, V.any, V.any, V.any, V.any, V.any, V.any, V.any, V.any, V.any, V.any, V.any, V.any, V.any, V.any,
  V.any, V.any, V.any, V.any, V.any, V.any, V.any, V.any, V.any, V.any, V.any, V.any, V.any, V.any, V.any, V.any, V.any, V.any, V.any, V.any, V.any, V.any, V.any, V.any, V.any,
  V.any, V.any, V.any, V.any, V.any, V.any, V.any, V.any, V.any, V.any, V.any, V.any, V.any, V.any, V.any, V.any, V.any, V.any, V.any, V.any, V.any, V.any, V.any, V.any, V.any,
  V.any, V.any, V.any, V.any, V.any, V.any, V.any, V.any, V.any, V.any, V.any, V.any, V.any, V.any, V.any, V.any, V.any, V.any, V.any, V.any, V.any, V.any, V.any, V.any, V.any,
  V.any, V.any, V.any, V.any, V.any, V.any, V.any, V.any], [none, none, none, none, none, none, none, none, none, none, none,
  some
    (Blk.box 24
      [C.d
          (D.sc
            (Sc.int IntKind.i64
              (S.ring_Add_o v.h_11_0 v.h_11_1 v.h_11_2 (t_0_0.getD v.t_6_0.toNat (dflt ET.mat)).start (t_0_0.getD v.t_6_0.toNat (dflt ET.mat)).fin
                  (t_0_0.getD v.t_6_0.toNat (dflt ET.mat)).agg (t_0_0.getD v.t_6_0.toNat (dflt ET.mat)).bad).x0)),
        C.d
          (D.sc
            (Sc.int IntKind.i64
              (S.ring_Add_o v.h_11_0 v.h_11_1 v.h_11_2 (t_0_0.getD v.t_6_0.toNat (dflt ET.mat)).start (t_0_0.getD v.t_6_0.toNat (dflt ET.mat)).fin
                  (t_0_0.getD v.t_6_0.toNat (dflt ET.mat)).agg (t_0_0.getD v.t_6_0.toNat (dflt ET.mat)).bad).x1)),
        C.d
          (D.sl none false ET.mat
            (S.ring_Add_o v.h_11_0 v.h_11_1 v.h_11_2 (t_0_0.getD v.t_6_0.toNat (dflt ET.mat)).start (t_0_0.getD v.t_6_0.toNat (dflt ET.mat)).fin
                (t_0_0.getD v.t_6_0.toNat (dflt ET.mat)).agg (t_0_0.getD v.t_6_0.toNat (dflt ET.mat)).bad).x2)]),
  none, none, some (Blk.box 24 [C.d (D.sc (Sc.int IntKind.i64 v.h_14_0)), C.d (D.sc (Sc.int IntKind.i64 v.h_14_1)), C.d (D.sl v.h_14_2n v.h_14_2f ET.mat v.h_14_2)]), none, none,
  none, none, none, none, none, none, none, none, none, none, none, none, none,
  some
    (Blk.box 24
      [C.d
          (D.sc
            (Sc.int IntKind.i64
              (S.ring_Add_o v.h_11_0 v.h_11_1 v.h_11_2 (t_0_0.getD v.t_6_0.toNat (dflt ET.mat)).start (t_0_0.getD v.t_6_0.toNat (dflt ET.mat)).fin
                  (t_0_0.getD v.t_6_0.toNat (dflt ET.mat)).agg (t_0_0.getD v.t_6_0.toNat (dflt ET.mat)).bad).x0)),
        C.d
          (D.sc
            (Sc.int IntKind.i64
              (S.ring_Add_o v.h_11_0 v.h_11_1 v.h_11_2 (t_0_0.getD v.t_6_0.toNat (dflt ET.mat)).start (t_0_0.getD v.t_6_0.toNat (dflt ET.mat)).fin
                  (t_0_0.getD v.t_6_0.toNat (dflt ET.mat)).agg (t_0_0.getD v.t_6_0.toNat (dflt ET.mat)).bad).x1)),
        C.d
          (D.sl none false ET.mat
            (S.ring_Add_o v.h_11_0 v.h_11_1 v.h_11_2 (t_0_0.getD v.t_6_0.toNat (dflt ET.mat)).start (t_0_0.getD v.t_6_0.toNat (dflt ET.mat)).fin
                (t_0_0.getD v.t_6_0.toNat (dflt ET.mat)).agg (t_0_0.getD v.t_6_0.toNat (dflt ET.mat)).bad).x2)]),
  none, none, none, none, none, none, none, none, none, none, none, none, none, none, none, none, none,
  some
    (Blk.box 24
      [C.d
          (D.sc
            (Sc.int IntKind.i64
              (S.ring_Add_o v.h_14_0 v.h_14_1 v.h_14_2 (t_0_0.getD v.t_6_0.toNat (dflt ET.mat)).start (t_0_0.getD v.t_6_0.toNat (dflt ET.mat)).fin
                  (t_0_0.getD v.t_6_0.toNat (dflt ET.mat)).agg (t_0_0.getD v.t_6_0.toNat (dflt ET.mat)).bad).x0)),
        C.d
          (D.sc
            (Sc.int IntKind.i64
              (S.ring_Add_o v.h_14_0 v.h_14_1 v.h_14_2 (t_0_0.getD v.t_6_0.toNat (dflt ET.mat)).start (t_0_0.getD v.t_6_0.toNat (dflt ET.mat)).fin
                  (t_0_0.getD v.t_6_0.toNat (dflt ET.mat)).agg (t_0_0.getD v.t_6_0.toNat (dflt ET.mat)).bad).x1)),
        C.d
          (D.sl none false ET.mat
            (S.ring_Add_o v.h_14_0 v.h_14_1 v.h_14_2 (t_0_0.getD v.t_6_0.toNat (dflt ET.mat)).start (t_0_0.getD v.t_6_0.toNat (dflt ET.mat)).fin
                (t_0_0.getD v.t_6_0.toNat (dflt ET.mat)).agg (t_0_0.getD v.t_6_0.toNat (dflt ET.mat)).bad).x2)]),
  none, none, none, none, none, none, none, none, none,
  some
    (Blk.box 24
      [C.d
          (D.sc
            (Sc.int IntKind.i64
              (S.ring_Next_o
                  (S.ring_Add_o v.h_14_0 v.h_14_1 v.h_14_2 (t_0_0.getD v.t_6_0.toNat (dflt ET.mat)).start (t_0_0.getD v.t_6_0.toNat (dflt ET.mat)).fin
                      (t_0_0.getD v.t_6_0.toNat (dflt ET.mat)).agg (t_0_0.getD v.t_6_0.toNat (dflt ET.mat)).bad).x0
                  (S.ring_Add_o v.h_14_0 v.h_14_1 v.h_14_2 (t_0_0.getD v.t_6_0.toNat (dflt ET.mat)).start (t_0_0.getD v.t_6_0.toNat (dflt ET.mat)).fin
                      (t_0_0.getD v.t_6_0.toNat (dflt ET.mat)).agg (t_0_0.getD v.t_6_0.toNat (dflt ET.mat)).bad).x1
                  (S.ring_Add_o v.h_14_0 v.h_14_1 v.h_14_2 (t_0_0.getD v.t_6_0.toNat (dflt ET.mat)).start (t_0_0.getD v.t_6_0.toNat (dflt ET.mat)).fin
                      (t_0_0.getD v.t_6_0.toNat (dflt ET.mat)).agg (t_0_0.getD v.t_6_0.toNat (dflt ET.mat)).bad).x2).x0)),
        C.d
          (D.sc
            (Sc.int IntKind.i64
              (S.ring_Next_o
                  (S.ring_Add_o v.h_14_0 v.h_14_1 v.h_14_2 (t_0_0.getD v.t_6_0.toNat (dflt ET.mat)).start (t_0_0.getD v.t_6_0.toNat (dflt ET.mat)).fin
                      (t_0_0.getD v.t_6_0.toNat (dflt ET.mat)).agg (t_0_0.getD v.t_6_0.toNat (dflt ET.mat)).bad).x0
                  (S.ring_Add_o v.h_14_0 v.h_14_1 v.h_14_2 (t_0_0.getD v.t_6_0.toNat (dflt ET.mat)).start (t_0_0.getD v.t_6_0.toNat (dflt ET.mat)).fin
                      (t_0_0.getD v.t_6_0.toNat (dflt ET.mat)).agg (t_0_0.getD v.t_6_0.toNat (dflt ET.mat)).bad).x1
                  (S.ring_Add_o v.h_14_0 v.h_14_1 v.h_14_2 (t_0_0.getD v.t_6_0.toNat (dflt ET.mat)).start (t_0_0.getD v.t_6_0.toNat (dflt ET.mat)).fin
                      (t_0_0.getD v.t_6_0.toNat (dflt ET.mat)).agg (t_0_0.getD v.t_6_0.toNat (dflt ET.mat)).bad).x2).x1)),
        C.d
          (D.sl none false ET.mat
            (S.ring_Next_o
                (S.ring_Add_o v.h_14_0 v.h_14_1 v.h_14_2 (t_0_0.getD v.t_6_0.toNat (dflt ET.mat)).start (t_0_0.getD v.t_6_0.toNat (dflt ET.mat)).fin
                    (t_0_0.getD v.t_6_0.toNat (dflt ET.mat)).agg (t_0_0.getD v.t_6_0.toNat (dflt ET.mat)).bad).x0
                (S.ring_Add_o v.h_14_0 v.h_14_1 v.h_14_2 (t_0_0.getD v.t_6_0.toNat (dflt ET.mat)).start (t_0_0.getD v.t_6_0.toNat (dflt ET.mat)).fin
                    (t_0_0.getD v.t_6_0.toNat (dflt ET.mat)).agg (t_0_0.getD v.t_6_0.toNat (dflt ET.mat)).bad).x1
                (S.ring_Add_o v.h_14_0 v.h_14_1 v.h_14_2 (t_0_0.getD v.t_6_0.toNat (dflt ET.mat)).start (t_0_0.getD v.t_6_0.toNat (dflt ET.mat)).fin
                    (t_0_0.getD v.t_6_0.toNat (dflt ET.mat)).agg (t_0_0.getD v.t_6_0.toNat (dflt ET.mat)).bad).x2).x2)]),
  some
    (Blk.box 31
      [C.d
          (D.sc
            (Sc.int IntKind.i64
              (S.ring_Next_o
                  (S.ring_Add_o v.h_14_0 v.h_14_1 v.h_14_2 (t_0_0.getD v.t_6_0.toNat (dflt ET.mat)).start (t_0_0.getD v.t_6_0.toNat (dflt ET.mat)).fin
                      (t_0_0.getD v.t_6_0.toNat (dflt ET.mat)).agg (t_0_0.getD v.t_6_0.toNat (dflt ET.mat)).bad).x0
                  (S.ring_Add_o v.h_14_0 v.h_14_1 v.h_14_2 (t_0_0.getD v.t_6_0.toNat (dflt ET.mat)).start (t_0_0.getD v.t_6_0.toNat (dflt ET.mat)).fin
                      (t_0_0.getD v.t_6_0.toNat (dflt ET.mat)).agg (t_0_0.getD v.t_6_0.toNat (dflt ET.mat)).bad).x1
                  (S.ring_Add_o v.h_14_0 v.h_14_1 v.h_14_2 (t_0_0.getD v.t_6_0.toNat (dflt ET.mat)).start (t_0_0.getD v.t_6_0.toNat (dflt ET.mat)).fin
                      (t_0_0.getD v.t_6_0.toNat (dflt ET.mat)).agg (t_0_0.getD v.t_6_0.toNat (dflt ET.mat)).bad).x2).x4)),
        C.d
          (D.sc
            (Sc.int IntKind.i64
              (S.ring_Next_o
                  (S.ring_Add_o v.h_14_0 v.h_14_1 v.h_14_2 (t_0_0.getD v.t_6_0.toNat (dflt ET.mat)).start (t_0_0.getD v.t_6_0.toNat (dflt ET.mat)).fin
                      (t_0_0.getD v.t_6_0.toNat (dflt ET.mat)).agg (t_0_0.getD v.t_6_0.toNat (dflt ET.mat)).bad).x0
                  (S.ring_Add_o v.h_14_0 v.h_14_1 v.h_14_2 (t_0_0.getD v.t_6_0.toNat (dflt ET.mat)).start (t_0_0.getD v.t_6_0.toNat (dflt ET.mat)).fin
                      (t_0_0.getD v.t_6_0.toNat (dflt ET.mat)).agg (t_0_0.getD v.t_6_0.toNat (dflt ET.mat)).bad).x1
                  (S.ring_Add_o v.h_14_0 v.h_14_1 v.h_14_2 (t_0_0.getD v.t_6_0.toNat (dflt ET.mat)).start (t_0_0.getD v.t_6_0.toNat (dflt ET.mat)).fin
                      (t_0_0.getD v.t_6_0.toNat (dflt ET.mat)).agg (t_0_0.getD v.t_6_0.toNat (dflt ET.mat)).bad).x2).x5)),
        C.d
          (D.sc
            (Sc.int IntKind.i64
              (S.ring_Next_o
                  (S.ring_Add_o v.h_14_0 v.h_14_1 v.h_14_2 (t_0_0.getD v.t_6_0.toNat (dflt ET.mat)).start (t_0_0.getD v.t_6_0.toNat (dflt ET.mat)).fin
                      (t_0_0.getD v.t_6_0.toNat (dflt ET.mat)).agg (t_0_0.getD v.t_6_0.toNat (dflt ET.mat)).bad).x0
                  (S.ring_Add_o v.h_14_0 v.h_14_1 v.h_14_2 (t_0_0.getD v.t_6_0.toNat (dflt ET.mat)).start (t_0_0.getD v.t_6_0.toNat (dflt ET.mat)).fin
                      (t_0_0.getD v.t_6_0.toNat (dflt ET.mat)).agg (t_0_0.getD v.t_6_0.toNat (dflt ET.mat)).bad).x1
                  (S.ring_Add_o v.h_14_0 v.h_14_1 v.h_14_2 (t_0_0.getD v.t_6_0.toNat (dflt ET.mat)).start (t_0_0.getD v.t_6_0.toNat (dflt ET.mat)).fin
                      (t_0_0.getD v.t_6_0.toNat (dflt ET.mat)).agg (t_0_0.getD v.t_6_0.toNat (dflt ET.mat)).bad).x2).x6)),
        C.d
          (D.sc
            (Sc.bool
              (S.ring_Next_o
                  (S.ring_Add_o v.h_14_0 v.h_14_1 v.h_14_2 (t_0_0.getD v.t_6_0.toNat (dflt ET.mat)).start (t_0_0.getD v.t_6_0.toNat (dflt ET.mat)).fin
                      (t_0_0.getD v.t_6_0.toNat (dflt ET.mat)).agg (t_0_0.getD v.t_6_0.toNat (dflt ET.mat)).bad).x0
                  (S.ring_Add_o v.h_14_0 v.h_14_1 v.h_14_2 (t_0_0.getD v.t_6_0.toNat (dflt ET.mat)).start (t_0_0.getD v.t_6_0.toNat (dflt ET.mat)).fin
                      (t_0_0.getD v.t_6_0.toNat (dflt ET.mat)).agg (t_0_0.getD v.t_6_0.toNat (dflt ET.mat)).bad).x1
                  (S.ring_Add_o v.h_14_0 v.h_14_1 v.h_14_2 (t_0_0.getD v.t_6_0.toNat (dflt ET.mat)).start (t_0_0.getD v.t_6_0.toNat (dflt ET.mat)).fin
                      (t_0_0.getD v.t_6_0.toNat (dflt ET.mat)).agg (t_0_0.getD v.t_6_0.toNat (dflt ET.mat)).bad).x2).x7))]),
  none, none, none, none, none, none, none, none, none, none,
  some
    (Blk.box 24
      [C.d
          (D.sc
            (Sc.int IntKind.i64
              (S.ring_Ack_o
                  (S.ring_Next_o
                      (S.ring_Add_o v.h_14_0 v.h_14_1 v.h_14_2 (t_0_0.getD v.t_6_0.toNat (dflt ET.mat)).start (t_0_0.getD v.t_6_0.toNat (dflt ET.mat)).fin
                          (t_0_0.getD v.t_6_0.toNat (dflt ET.mat)).agg (t_0_0.getD v.t_6_0.toNat (dflt ET.mat)).bad).x0
                      (S.ring_Add_o v.h_14_0 v.h_14_1 v.h_14_2 (t_0_0.getD v.t_6_0.toNat (dflt ET.mat)).start (t_0_0.getD v.t_6_0.toNat (dflt ET.mat)).fin
                          (t_0_0.getD v.t_6_0.toNat (dflt ET.mat)).agg (t_0_0.getD v.t_6_0.toNat (dflt ET.mat)).bad).x1
                      (S.ring_Add_o v.h_14_0 v.h_14_1 v.h_14_2 (t_0_0.getD v.t_6_0.toNat (dflt ET.mat)).start (t_0_0.getD v.t_6_0.toNat (dflt ET.mat)).fin
                          (t_0_0.getD v.t_6_0.toNat (dflt ET.mat)).agg (t_0_0.getD v.t_6_0.toNat (dflt ET.mat)).bad).x2).x0
                  (S.ring_Next_o
                      (S.ring_Add_o v.h_14_0 v.h_14_1 v.h_14_2 (t_0_0.getD v.t_6_0.toNat (dflt ET.mat)).start (t_0_0.getD v.t_6_0.toNat (dflt ET.mat)).fin
                          (t_0_0.getD v.t_6_0.toNat (dflt ET.mat)).agg (t_0_0.getD v.t_6_0.toNat (dflt ET.mat)).bad).x0
                      (S.ring_Add_o v.h_14_0 v.h_14_1 v.h_14_2 (t_0_0.getD v.t_6_0.toNat (dflt ET.mat)).start (t_0_0.getD v.t_6_0.toNat (dflt ET.mat)).fin
                          (t_0_0.getD v.t_6_0.toNat (dflt ET.mat)).agg (t_0_0.getD v.t_6_0.toNat (dflt ET.mat)).bad).x1
                      (S.ring_Add_o v.h_14_0 v.h_14_1 v.h_14_2 (t_0_0.getD v.t_6_0.toNat (dflt ET.mat)).start (t_0_0.getD v.t_6_0.toNat (dflt ET.mat)).fin
                          (t_0_0.getD v.t_6_0.toNat (dflt ET.mat)).agg (t_0_0.getD v.t_6_0.toNat (dflt ET.mat)).bad).x2).x1
                  (S.ring_Next_o
                      (S.ring_Add_o v.h_14_0 v.h_14_1 v.h_14_2 (t_0_0.getD v.t_6_0.toNat (dflt ET.mat)).start (t_0_0.getD v.t_6_0.toNat (dflt ET.mat)).fin
                          (t_0_0.getD v.t_6_0.toNat (dflt ET.mat)).agg (t_0_0.getD v.t_6_0.toNat (dflt ET.mat)).bad).x0
                      (S.ring_Add_o v.h_14_0 v.h_14_1 v.h_14_2 (t_0_0.getD v.t_6_0.toNat (dflt ET.mat)).start (t_0_0.getD v.t_6_0.toNat (dflt ET.mat)).fin
                          (t_0_0.getD v.t_6_0.toNat (dflt ET.mat)).agg (t_0_0.getD v.t_6_0.toNat (dflt ET.mat)).bad).x1
                      (S.ring_Add_o v.h_14_0 v.h_14_1 v.h_14_2 (t_0_0.getD v.t_6_0.toNat (dflt ET.mat)).start (t_0_0.getD v.t_6_0.toNat (dflt ET.mat)).fin
                          (t_0_0.getD v.t_6_0.toNat (dflt ET.mat)).agg (t_0_0.getD v.t_6_0.toNat (dflt ET.mat)).bad).x2).x2
                  (S.ring_Next_o
                      (S.ring_Add_o v.h_14_0 v.h_14_1 v.h_14_2 (t_0_0.getD v.t_6_0.toNat (dflt ET.mat)).start (t_0_0.getD v.t_6_0.toNat (dflt ET.mat)).fin
                          (t_0_0.getD v.t_6_0.toNat (dflt ET.mat)).agg (t_0_0.getD v.t_6_0.toNat (dflt ET.mat)).bad).x0
                      (S.ring_Add_o v.h_14_0 v.h_14_1 v.h_14_2 (t_0_0.getD v.t_6_0.toNat (dflt ET.mat)).start (t_0_0.getD v.t_6_0.toNat (dflt ET.mat)).fin
                          (t_0_0.getD v.t_6_0.toNat (dflt ET.mat)).agg (t_0_0.getD v.t_6_0.toNat (dflt ET.mat)).bad).x1
                      (S.ring_Add_o v.h_14_0 v.h_14_1 v.h_14_2 (t_0_0.getD v.t_6_0.toNat (dflt ET.mat)).start (t_0_0.getD v.t_6_0.toNat (dflt ET.mat)).fin
                          (t_0_0.getD v.t_6_0.toNat (dflt ET.mat)).agg (t_0_0.getD v.t_6_0.toNat (dflt ET.mat)).bad).x2).x3).x0)),
        C.d
          (D.sc
            (Sc.int IntKind.i64
              (S.ring_Ack_o
                  (S.ring_Next_o
                      (S.ring_Add_o v.h_14_0 v.h_14_1 v.h_14_2 (t_0_0.getD v.t_6_0.toNat (dflt ET.mat)).start (t_0_0.getD v.t_6_0.toNat (dflt ET.mat)).fin
                          (t_0_0.getD v.t_6_0.toNat (dflt ET.mat)).agg (t_0_0.getD v.t_6_0.toNat (dflt ET.mat)).bad).x0
                      (S.ring_Add_o v.h_14_0 v.h_14_1 v.h_14_2 (t_0_0.getD v.t_6_0.toNat (dflt ET.mat)).start (t_0_0.getD v.t_6_0.toNat (dflt ET.mat)).fin
                          (t_0_0.getD v.t_6_0.toNat (dflt ET.mat)).agg (t_0_0.getD v.t_6_0.toNat (dflt ET.mat)).bad).x1
                      (S.ring_Add_o v.h_14_0 v.h_14_1 v.h_14_2 (t_0_0.getD v.t_6_0.toNat (dflt ET.mat)).start (t_0_0.getD v.t_6_0.toNat (dflt ET.mat)).fin
                          (t_0_0.getD v.t_6_0.toNat (dflt ET.mat)).agg (t_0_0.getD v.t_6_0.toNat (dflt ET.mat)).bad).x2).x0
                  (S.ring_Next_o
                      (S.ring_Add_o v.h_14_0 v.h_14_1 v.h_14_2 (t_0_0.getD v.t_6_0.toNat (dflt ET.mat)).start (t_0_0.getD v.t_6_0.toNat (dflt ET.mat)).fin
                          (t_0_0.getD v.t_6_0.toNat (dflt ET.mat)).agg (t_0_0.getD v.t_6_0.toNat (dflt ET.mat)).bad).x0
                      (S.ring_Add_o v.h_14_0 v.h_14_1 v.h_14_2 (t_0_0.getD v.t_6_0.toNat (dflt ET.mat)).start (t_0_0.getD v.t_6_0.toNat (dflt ET.mat)).fin
                          (t_0_0.getD v.t_6_0.toNat (dflt ET.mat)).agg (t_0_0.getD v.t_6_0.toNat (dflt ET.mat)).bad).x1
                      (S.ring_Add_o v.h_14_0 v.h_14_1 v.h_14_2 (t_0_0.getD v.t_6_0.toNat (dflt ET.mat)).start (t_0_0.getD v.t_6_0.toNat (dflt ET.mat)).fin
                          (t_0_0.getD v.t_6_0.toNat (dflt ET.mat)).agg (t_0_0.getD v.t_6_0.toNat (dflt ET.mat)).bad).x2).x1
                  (S.ring_Next_o
                      (S.ring_Add_o v.h_14_0 v.h_14_1 v.h_14_2 (t_0_0.getD v.t_6_0.toNat (dflt ET.mat)).start (t_0_0.getD v.t_6_0.toNat (dflt ET.mat)).fin
                          (t_0_0.getD v.t_6_0.toNat (dflt ET.mat)).agg (t_0_0.getD v.t_6_0.toNat (dflt ET.mat)).bad).x0
                      (S.ring_Add_o v.h_14_0 v.h_14_1 v.h_14_2 (t_0_0.getD v.t_6_0.toNat (dflt ET.mat)).start (t_0_0.getD v.t_6_0.toNat (dflt ET.mat)).fin
                          (t_0_0.getD v.t_6_0.toNat (dflt ET.mat)).agg (t_0_0.getD v.t_6_0.toNat (dflt ET.mat)).bad).x1
                      (S.ring_Add_o v.h_14_0 v.h_14_1 v.h_14_2 (t_0_0.getD v.t_6_0.toNat (dflt ET.mat)).start (t_0_0.getD v.t_6_0.toNat (dflt ET.mat)).fin
                          (t_0_0.getD v.t_6_0.toNat (dflt ET.mat)).agg (t_0_0.getD v.t_6_0.toNat (dflt ET.mat)).bad).x2).x2
                  (S.ring_Next_o
                      (S.ring_Add_o v.h_14_0 v.h_14_1 v.h_14_2 (t_0_0.getD v.t_6_0.toNat (dflt ET.mat)).start (t_0_0.getD v.t_6_0.toNat (dflt ET.mat)).fin
                          (t_0_0.getD v.t_6_0.toNat (dflt ET.mat)).agg (t_0_0.getD v.t_6_0.toNat (dflt ET.mat)).bad).x0
                      (S.ring_Add_o v.h_14_0 v.h_14_1 v.h_14_2 (t_0_0.getD v.t_6_0.toNat (dflt ET.mat)).start (t_0_0.getD v.t_6_0.toNat (dflt ET.mat)).fin
                          (t_0_0.getD v.t_6_0.toNat (dflt ET.mat)).agg (t_0_0.getD v.t_6_0.toNat (dflt ET.mat)).bad).x1
                      (S.ring_Add_o v.h_14_0 v.h_14_1 v.h_14_2 (t_0_0.getD v.t_6_0.toNat (dflt ET.mat)).start (t_0_0.getD v.t_6_0.toNat (dflt ET.mat)).fin
                          (t_0_0.getD v.t_6_0.toNat (dflt ET.mat)).agg (t_0_0.getD v.t_6_0.toNat (dflt ET.mat)).bad).x2).x3).x1)),
        C.d
          (D.sl none false ET.mat
            (S.ring_Ack_o
                (S.ring_Next_o
                    (S.ring_Add_o v.h_14_0 v.h_14_1 v.h_14_2 (t_0_0.getD v.t_6_0.toNat (dflt ET.mat)).start (t_0_0.getD v.t_6_0.toNat (dflt ET.mat)).fin
                        (t_0_0.getD v.t_6_0.toNat (dflt ET.mat)).agg (t_0_0.getD v.t_6_0.toNat (dflt ET.mat)).bad).x0
                    (S.ring_Add_o v.h_14_0 v.h_14_1 v.h_14_2 (t_0_0.getD v.t_6_0.toNat (dflt ET.mat)).start (t_0_0.getD v.t_6_0.toNat (dflt ET.mat)).fin
                        (t_0_0.getD v.t_6_0.toNat (dflt ET.mat)).agg (t_0_0.getD v.t_6_0.toNat (dflt ET.mat)).bad).x1
                    (S.ring_Add_o v.h_14_0 v.h_14_1 v.h_14_2 (t_0_0.getD v.t_6_0.toNat (dflt ET.mat)).start (t_0_0.getD v.t_6_0.toNat (dflt ET.mat)).fin
                        (t_0_0.getD v.t_6_0.toNat (dflt ET.mat)).agg (t_0_0.getD v.t_6_0.toNat (dflt ET.mat)).bad).x2).x0
                (S.ring_Next_o
                    (S.ring_Add_o v.h_14_0 v.h_14_1 v.h_14_2 (t_0_0.getD v.t_6_0.toNat (dflt ET.mat)).start (t_0_0.getD v.t_6_0.toNat (dflt ET.mat)).fin
                        (t_0_0.getD v.t_6_0.toNat (dflt ET.mat)).agg (t_0_0.getD v.t_6_0.toNat (dflt ET.mat)).bad).x0
                    (S.ring_Add_o v.h_14_0 v.h_14_1 v.h_14_2 (t_0_0.getD v.t_6_0.toNat (dflt ET.mat)).start (t_0_0.getD v.t_6_0.toNat (dflt ET.mat)).fin
                        (t_0_0.getD v.t_6_0.toNat (dflt ET.mat)).agg (t_0_0.getD v.t_6_0.toNat (dflt ET.mat)).bad).x1
                    (S.ring_Add_o v.h_14_0 v.h_14_1 v.h_14_2 (t_0_0.getD v.t_6_0.toNat (dflt ET.mat)).start (t_0_0.getD v.t_6_0.toNat (dflt ET.mat)).fin
                        (t_0_0.getD v.t_6_0.toNat (dflt ET.mat)).agg (t_0_0.getD v.t_6_0.toNat (dflt ET.mat)).bad).x2).x1
                (S.ring_Next_o
                    (S.ring_Add_o v.h_14_0 v.h_14_1 v.h_14_2 (t_0_0.getD v.t_6_0.toNat (dflt ET.mat)).start (t_0_0.getD v.t_6_0.toNat (dflt ET.mat)).fin
                        (t_0_0.getD v.t_6_0.toNat (dflt ET.mat)).agg (t_0_0.getD v.t_6_0.toNat (dflt ET.mat)).bad).x0
                    (S.ring_Add_o v.h_14_0 v.h_14_1 v.h_14_2 (t_0_0.getD v.t_6_0.toNat (dflt ET.mat)).start (t_0_0.getD v.t_6_0.toNat (dflt ET.mat)).fin
                        (t_0_0.getD v.t_6_0.toNat (dflt ET.mat)).agg (t_0_0.getD v.t_6_0.toNat (dflt ET.mat)).bad).x1
                    (S.ring_Add_o v.h_14_0 v.h_14_1 v.h_14_2 (t_0_0.getD v.t_6_0.toNat (dflt ET.mat)).start (t_0_0.getD v.t_6_0.toNat (dflt ET.mat)).fin
                        (t_0_0.getD v.t_6_0.toNat (dflt ET.mat)).agg (t_0_0.getD v.t_6_0.toNat (dflt ET.mat)).bad).x2).x2
                (S.ring_Next_o
                    (S.ring_Add_o v.h_14_0 v.h_14_1 v.h_14_2 (t_0_0.getD v.t_6_0.toNat (dflt ET.mat)).start (t_0_0.getD v.t_6_0.toNat (dflt ET.mat)).fin
                        (t_0_0.getD v.t_6_0.toNat (dflt ET.mat)).agg (t_0_0.getD v.t_6_0.toNat (dflt ET.mat)).bad).x0
                    (S.ring_Add_o v.h_14_0 v.h_14_1 v.h_14_2 (t_0_0.getD v.t_6_0.toNat (dflt ET.mat)).start (t_0_0.getD v.t_6_0.toNat (dflt ET.mat)).fin
                        (t_0_0.getD v.t_6_0.toNat (dflt ET.mat)).agg (t_0_0.getD v.t_6_0.toNat (dflt ET.mat)).bad).x1
                    (S.ring_Add_o v.h_14_0 v.h_14_1 v.h_14_2 (t_0_0.getD v.t_6_0.toNat (dflt ET.mat)).start (t_0_0.getD v.t_6_0.toNat (dflt ET.mat)).fin
                        (t_0_0.getD v.t_6_0.toNat (dflt ET.mat)).agg (t_0_0.getD v.t_6_0.toNat (dflt ET.mat)).bad).x2).x3).x2)]),
  none, none, none, none, none, none, none, none, none, none, none, none, none, none, none, none, none, none, none, none, none, none, none, none, none, none, none, none, none,
  none, none, none, none], 0⟩)
  | 2 => (Ex.exit 0, ⟨[V.v false [C.d (D.sl t_0_0n t_0_0f ET.mat t_0_0)], V.any, V.any, V.any, V.v false [C.ptr 11 0], V.v false [C.ptr 14 0], V.any, V.any, V.any, V.any, V.any, V.any, V.any, V.any,
  V.any, V.any, V.any, V.any, V.any, V.any, V.any, V.any, V.any, V.any, V.any, V.any, V.any, V.any, V.any, V.any, V.any, V.any, V.any, V.any, V.any, V.any, V.any, V.any, V.any,
  V.any, V.any, V.any, V.any, V.any, V.any, V.any, V.any, V.any, V.any, V.any, V.any, V.any, V.any, V.any, V.any, V.any, V.any, V.any, V.any, V.any, V.any, V.any, V.any, V.any,
  V.any, V.any, V.any, V.any, V.any, V.any, V.any, V.any, V.any, V.any, V.any, V.any, V.any, V.any, V.any, V.any, V.any, V.any, V.any, V.any, V.any, V.any, V.any, V.any, V.any,
  V.any, V.any, V.any, V.any, V.any, V.any, V.any, V.any, V.any, V.any, V.any, V.any, V.any, V.any, V.any, V.any, V.any, V.any, V.any, V.any, V.any, V.any, V.any, V.any, V.any,
  V.any, V.any, V.any], [none, none, none, none, none, none, none, none, none, none, none,
  some (Blk.box 24 [C.d (D.sc (Sc.int IntKind.i64 v.h_11_0)), C.d (D.sc (Sc.int IntKind.i64 v.h_11_1)), C.d (D.sl v.h_11_2n v.h_11_2f ET.mat v.h_11_2)]), none, none,
  some (Blk.box 24 [C.d (D.sc (Sc.int IntKind.i64 v.h_14_0)), C.d (D.sc (Sc.int IntKind.i64 v.h_14_1)), C.d (D.sl v.h_14_2n v.h_14_2f ET.mat v.h_14_2)]), none, none, none, none,
  none, none], 0⟩)
  | _ => (.ret, ⟨[], [], 0⟩)
noncomputable def T1_law14_RingFills_7 : V → V → V → V → Option Blk → Option Blk → Tree
  | V.v false [C.d (D.sl t_0_0n t_0_0f ET.mat t_0_0)], V.v false [C.ptr 11 0], V.v false [C.ptr 14 0], V.v false [C.d (D.sc (Sc.int IntKind.i64 t_6_0))], some (Blk.box 24 [C.d (D.sc (Sc.int IntKind.i64 h_11_0)), C.d (D.sc (Sc.int IntKind.i64 h_11_1)), C.d (D.sl h_11_2n h_11_2f ET.mat h_11_2)]), some (Blk.box 24 [C.d (D.sc (Sc.int IntKind.i64 h_14_0)), C.d (D.sc (Sc.int IntKind.i64 h_14_1)), C.d (D.sl h_14_2n h_14_2f ET.mat h_14_2)]) => exT (fun j => ex_law14_RingFills_7 t_0_0n t_0_0f t_0_0 j (S.law14_RingFills_7_v t_0_0 ⟨t_6_0, h_11_0, h_11_1, h_11_2n, h_11_2f, h_11_2, h_14_0, h_14_1, h_14_2n, h_14_2f, h_14_2⟩)) (S.law14_RingFills_7_j t_0_0 ⟨t_6_0, h_11_0, h_11_1, h_11_2n, h_11_2f, h_11_2, h_14_0, h_14_1, h_14_2n, h_14_2f, h_14_2⟩) [0, 1, 2]
  | _, _, _, _, _, _ => .bad
noncomputable def T_law14_RingFills_7 (st : St) : Tree := bif okSt 117 17 0 [11, 14] st then T1_law14_RingFills_7 (st.env.getD 0 .any) (st.env.getD 4 .any) (st.env.getD 5 .any) (st.env.getD 6 .any) (lk st.heap 11) (lk st.heap 14) else .bad
noncomputable def b_law14_RingFills_7 : Code := loopBy Try.f4 7
theorem rnd_law14_RingFills_7 (t_0_0n : Option Bool) (t_0_0f : Bool) (t_0_0 : List (Ty ET.mat)) (v : S.law14_RingFills_7_V) : round2 cx_law14_RingFills (hdI cx_law14_RingFills (find []) [] none 0) 4 b_law14_RingFills_7 [] 17 [0, 2, 4, 5] (mk_law14_RingFills_7 t_0_0n t_0_0f t_0_0 v) = (S.law14_RingFills_7_R t_0_0 v).go (roundOut (mk_law14_RingFills_7 t_0_0n t_0_0f t_0_0) (ex_law14_RingFills_7 t_0_0n t_0_0f t_0_0)) := by kernel_rfl
theorem bs_law14_RingFills_7 : loopsOf b_law14_RingFills_7 ++ loopsInl [] = [] := by kernel_rfl
theorem ci_law14_RingFills_7 (t_0_0n : Option Bool) (t_0_0f : Bool) (t_0_0 : List (Ty ET.mat)) : ∀ v j v2, Lp (S.law14_RingFills_7_r t_0_0) v = some (j, v2) → Circles Try.prog cx_law14_RingFills b_law14_RingFills_7 (mk_law14_RingFills_7 t_0_0n t_0_0f t_0_0 v) (ex_law14_RingFills_7 t_0_0n t_0_0f t_0_0 j v2).1 (ex_law14_RingFills_7 t_0_0n t_0_0f t_0_0 j v2).2 :=
  loop_ok2 (L := find []) (n := 0) (hints := [(4, 7, { keep := [0, 4, 5, 6], acc := [] })]) (cx_ok rfl) rdy_law14_RingFills bs_law14_RingFills_7 nilB (fun v => (rnd_law14_RingFills_7 t_0_0n t_0_0f t_0_0 v).trans (DT.go_run _ _)) (by intro j v; unfold ex_law14_RingFills_7; split <;> rfl)
theorem mke_law14_RingFills_7 (t_0_0n : Option Bool) (t_0_0f : Bool) (t_0_0 : List (Ty ET.mat)) (v : S.law14_RingFills_7_V) : mk_law14_RingFills_7 t_0_0n t_0_0f t_0_0 v = ⟨envOf 117 [(0, V.v false [C.d (D.sl t_0_0n t_0_0f ET.mat t_0_0)]), (4, V.v false [C.ptr 11 0]), (5, V.v false [C.ptr 14 0]), (6, V.v false [C.d (D.sc (Sc.int IntKind.i64 v.t_6_0))])], heapOf 17 [(11, some (Blk.box 24 [C.d (D.sc (Sc.int IntKind.i64 v.h_11_0)), C.d (D.sc (Sc.int IntKind.i64 v.h_11_1)), C.d (D.sl v.h_11_2n v.h_11_2f ET.mat v.h_11_2)])), (14, some (Blk.box 24 [C.d (D.sc (Sc.int IntKind.i64 v.h_14_0)), C.d (D.sc (Sc.int IntKind.i64 v.h_14_1)), C.d (D.sl v.h_14_2n v.h_14_2f ET.mat v.h_14_2)]))], 0⟩ := by kernel_rfl
theorem lo1_law14_RingFills_7 (e0 : V) (e4 : V) (e5 : V) (e6 : V) (h11 : Option Blk) (h14 : Option Blk) e st2 (h : (T1_law14_RingFills_7 e0 e4 e5 e6 h11 h14).eval = some (e, st2)) : Circles Try.prog cx_law14_RingFills b_law14_RingFills_7 ⟨envOf 117 [(0, e0), (4, e4), (5, e5), (6, e6)], heapOf 17 [(11, h11), (14, h14)], 0⟩ e st2 := by
  unfold T1_law14_RingFills_7 at h
  split at h
  · have := loop_tree (mk := mk_law14_RingFills_7 _ _ _) (ci_law14_RingFills_7 _ _ _) _ _ e st2 h
    rw [mke_law14_RingFills_7] at this
    exact this
  · cases h
theorem lok_law14_RingFills_7 : LoopOk Try.prog cx_law14_RingFills b_law14_RingFills_7 T_law14_RingFills_7 := by
  intro st e st2 h
  unfold T_law14_RingFills_7 at h
  cases hk : okSt 117 17 0 [11, 14] st with
  | false => rw [hk] at h; cases h
  | true =>
    rw [hk] at h
    exact circles_keep (ks := [0, 4, 5, 6]) hk (lo1_law14_RingFills_7 _ _ _ _ _ _ e st2 h)
structure S.law14_RingFills_T where
  x0 : Bool
  deriving Inhabited
noncomputable def S.law14_RingFills_R (a0 : List (Ty .mat)) : DT S.law14_RingFills_T :=
let y0 : Int := (↑a0.length : Int)
let y1 : S.law14_RingFills_7_V := { t_6_0 := 0, h_11_0 := 0, h_11_1 := 0, h_11_2n := some true, h_11_2f := true, h_11_2 := [], h_14_0 := 0, h_14_1 := 0, h_14_2n := some true, h_14_2f := true, h_14_2 := [] :
  S.law14_RingFills_7_V }
let y2 : S.law14_RingFills_7_V := S.law14_RingFills_7_v a0 y1
(.br (S.law14_awake_is)
(.br (xnot S.law14_awake_o.x0)
(.leaf ⟨S.law14_awake_o.x0⟩)
(.br (xdec (y0 > 40))
(.leaf ⟨S.law14_awake_o.x0⟩)
(.br (S.law14_RingFills_7_j a0 y1 0)
(.leaf ⟨false⟩)
(.br (S.law14_RingFills_7_j a0 y1 1)
(.leaf ⟨false⟩)
(.br (S.law14_RingFills_7_j a0 y1 2)
(.br (xdec ((↑y2.h_11_2.length : Int) ≤ 6))
(.br (xeqI y2.h_11_1 0)
(.leaf ⟨xeqI y2.h_14_0 y0⟩)
(.leaf ⟨false⟩))
(.leaf ⟨false⟩))
.fail)))))
.fail)
noncomputable def S.law14_RingFills (a0 : List (Ty .mat)) : Option S.law14_RingFills_T := (S.law14_RingFills_R a0).run
noncomputable def S.law14_RingFills_is (a0 : List (Ty .mat)) : Bool := (S.law14_RingFills a0).isSome
noncomputable def S.law14_RingFills_o (a0 : List (Ty .mat)) : S.law14_RingFills_T := (S.law14_RingFills a0).getD default
noncomputable def ret_law14_RingFills (b : Bool) (r : S.law14_RingFills_T) : Ret := ⟨b, none, [(false, [C.d (D.sc (Sc.bool r.x0))])]⟩
noncomputable def g_law14_RingFills : Con
  | [(false, [.sl a0n a0f .mat a0])] => some (ret_law14_RingFills (S.law14_RingFills_is a0) (S.law14_RingFills_o a0))
  | _ => none
theorem raw_law14_RingFills (a0n : Option Bool) (a0f : Bool) (a0 : List (Ty .mat)) : evR2 cx_law14_RingFills (hdI cx_law14_RingFills (find [(7, T_law14_RingFills_7)]) [] none 0) none Try.f4 4 none [(false, [.sl a0n a0f .mat a0])] some = (S.law14_RingFills_R a0).go (ret_law14_RingFills true) := by kernel_rfl
theorem bs_law14_RingFills : loopsIn Try.f4 [] = [b_law14_RingFills_7] := by kernel_rfl
theorem law14_RingFills_ok : Stands Try.prog tyTab 4 g_law14_RingFills := by
  refine stands3 (L := find [(7, T_law14_RingFills_7)]) (n := 0) (hints := [(4, 7, { keep := [0, 4, 5, 6], acc := [] })]) (cx_ok rfl) rdy_law14_RingFills ⟨by kernel_rfl, by kernel_rfl, by kernel_rfl⟩ bs_law14_RingFills (consB (fun T h => by have e : T_law14_RingFills_7 = T := Option.some.inj (show some T_law14_RingFills_7 = some T from h); exact e ▸ lok_law14_RingFills_7) nilB) (fun das r hG hr => ?_)
  unfold g_law14_RingFills at hG
  split at hG
  · rename_i a0n a0f a0
    injection hG with hG; subst hG
    exact ⟨none, true, win default ((raw_law14_RingFills a0n a0f a0).trans (DT.go_run _ _)) hr⟩
  · cases hG
noncomputable abbrev cx_law14_RingTells : Cx := mkCx2 tyTab [(15, g_law14_awake), (16, g_ring_May), (17, g_ring_Back), (18, g_ring_Next), (19, g_ring_Add), (20, g_ring_Ack), (21, g_ref14_Add), (22, g_ref14_Next), (23, g_ref14_Ack), (24, g_ref14_Back), (25, g_ref14_Same), (26, g_ref14_May), (27, g_ring_Same)] [] [] []
theorem rdy_law14_RingTells : Ready Try.prog tyTab [(15, g_law14_awake), (16, g_ring_May), (17, g_ring_Back), (18, g_ring_Next), (19, g_ring_Add), (20, g_ring_Ack), (21, g_ref14_Add), (22, g_ref14_Next), (23, g_ref14_Ack), (24, g_ref14_Back), (25, g_ref14_Same), (26, g_ref14_May), (27, g_ring_Same)] [] [] := ⟨consG2 law14_awake_ok (consG2 ring_May_ok (consG2 ring_Back_ok (consG2 ring_Next_ok (consG2 ring_Add_ok (consG2 ring_Ack_ok (consG2 ref14_Add_ok (consG2 ref14_Next_ok (consG2 ref14_Ack_ok (consG2 ref14_Back_ok (consG2 ref14_Same_ok (consG2 ref14_May_ok (consG2 ring_Same_ok (noneG2))))))))))))), noneI2, noneF2⟩
structure S.law14_RingTells_T where
  x0 : Bool
  deriving Inhabited
noncomputable def S.law14_RingTells_R (a0_0 : Int) (a0_1 : Int) (a0_2 : List (Ty .mat)) (a1_0 : Int) (a1_1 : Int) (a1_2 : List (Ty .mat)) (a2_0 : Int) (a2_1 : Int) (a2_2 : Int) (a2_3 : Bool) (a3 : Int) : DT S.law14_RingTells_T :=
let y0 : S.ring_Add_T := S.ring_Add_o a0_0 a0_1 a0_2 a2_0 a2_1 a2_2 a2_3
let y1 : Int := y0.x0
let y2 : Int := y0.x1
let y3 : List (Ty ET.mat) := y0.x2
let y4 : S.ref14_Add_T := S.ref14_Add_o a0_0 a0_1 a0_2 a2_0 a2_1 a2_2 a2_3
let y5 : Int := y4.x0
let y6 : Int := y4.x1
let y7 : List (Ty ET.mat) := y4.x2
let y8 : S.ring_Next_T := S.ring_Next_o a0_0 a0_1 a0_2
let y9 : Int := y8.x0
let y10 : Int := y8.x1
let y11 : List (Ty ET.mat) := y8.x2
let y12 : S.ref14_Next_T := S.ref14_Next_o a0_0 a0_1 a0_2
let y13 : Int := y12.x0
let y14 : Int := y12.x1
let y15 : List (Ty ET.mat) := y12.x2
let y16 : S.ring_Ack_T := S.ring_Ack_o a0_0 a0_1 a0_2 a3
let y17 : Int := y16.x0
let y18 : Int := y16.x1
let y19 : List (Ty ET.mat) := y16.x2
let y20 : S.ref14_Ack_T := S.ref14_Ack_o a0_0 a0_1 a0_2 a3
let y21 : Int := y20.x0
let y22 : Int := y20.x1
let y23 : List (Ty ET.mat) := y20.x2
let y24 : S.ring_Back_T := S.ring_Back_o a0_0 a0_1 a0_2 a3
let y25 : Int := y24.x0
let y26 : Int := y24.x1
let y27 : List (Ty ET.mat) := y24.x2
let y28 : S.ref14_Back_T := S.ref14_Back_o a0_0 a0_1 a0_2 a3
let y29 : Int := y28.x0
let y30 : Int := y28.x1
let y31 : List (Ty ET.mat) := y28.x2
(.br (S.law14_awake_is)
(.br (xnot S.law14_awake_o.x0)
(.leaf ⟨S.law14_awake_o.x0⟩)
(.br (xdec ((↑a0_2.length : Int) > 20))
(.leaf ⟨S.law14_awake_o.x0⟩)
(.br (xdec ((↑a1_2.length : Int) > 20))
(.leaf ⟨S.law14_awake_o.x0⟩)
(.br (S.ring_Add_is a0_0 a0_1 a0_2 a2_0 a2_1 a2_2 a2_3)
(.br (S.ref14_Add_is a0_0 a0_1 a0_2 a2_0 a2_1 a2_2 a2_3)
(.br (S.ring_Next_is a0_0 a0_1 a0_2)
(.br (S.ref14_Next_is a0_0 a0_1 a0_2)
(.br (S.ring_Ack_is a0_0 a0_1 a0_2 a3)
(.br (S.ref14_Ack_is a0_0 a0_1 a0_2 a3)
(.br (S.ring_Back_is a0_0 a0_1 a0_2 a3)
(.br (S.ref14_Back_is a0_0 a0_1 a0_2 a3)
(.br (S.ref14_Same_is y1 y2 y3 y5 y6 y7)
(.br (S.ref14_Same_is y9 y10 y11 y13 y14 y15)
(.br (S.ref14_Same_is y17 y18 y19 y21 y22 y23)
(.br (S.ref14_Same_is y25 y26 y27 y29 y30 y31)
(.br (S.ref14_May_is a0_0 a0_1 a0_2)
(.br (S.ref14_Same_is a0_0 a0_1 a0_2 a1_0 a1_1 a1_2)
(.br ((S.ref14_Same_o y1 y2 y3 y5 y6 y7).x0)
(.br ((S.ref14_Same_o y9 y10 y11 y13 y14 y15).x0)
(.br ((S.ref14_Same_o y17 y18 y19 y21 y22 y23).x0)
(.br ((S.ref14_Same_o y25 y26 y27 y29 y30 y31).x0)
(.br (y0.x3 == y4.x3)
(.br (xeqI y8.x3 y12.x3)
(.br (xeqI y8.x4 y12.x4 && (xeqI y8.x5 y12.x5 && (xeqI y8.x6 y12.x6 && xeqB y8.x7 y12.x7)))
(.br (y8.x8 == y12.x8)
(.br (xeqI y16.x3 y20.x3)
(.br (xeqI y24.x3 y28.x3)
(.br (S.ring_May_is a0_0 a0_1 a0_2)
(.br ((S.ring_May_o a0_0 a0_1 a0_2).x0 == (S.ref14_May_o a0_0 a0_1 a0_2).x0)
(.br (S.ring_Same_is a0_0 a0_1 a0_2 a1_0 a1_1 a1_2)
(.leaf ⟨(S.ring_Same_o a0_0 a0_1 a0_2 a1_0 a1_1 a1_2).x0 == (S.ref14_Same_o a0_0 a0_1 a0_2 a1_0 a1_1 a1_2).x0⟩)
.fail)
(.leaf ⟨false⟩))
.fail)
(.leaf ⟨false⟩))
(.leaf ⟨false⟩))
(.leaf ⟨false⟩))
(.leaf ⟨false⟩))
(.leaf ⟨false⟩))
(.leaf ⟨false⟩))
(.leaf ⟨false⟩))
(.leaf ⟨false⟩))
(.leaf ⟨false⟩))
(.leaf ⟨false⟩))
.fail)
.fail)
.fail)
.fail)
.fail)
.fail)
.fail)
.fail)
.fail)
.fail)
.fail)
.fail)
.fail)
.fail))))
.fail)
noncomputable def S.law14_RingTells (a0_0 : Int) (a0_1 : Int) (a0_2 : List (Ty .mat)) (a1_0 : Int) (a1_1 : Int) (a1_2 : List (Ty .mat)) (a2_0 : Int) (a2_1 : Int) (a2_2 : Int) (a2_3 : Bool) (a3 : Int) : Option S.law14_RingTells_T := (S.law14_RingTells_R a0_0 a0_1 a0_2 a1_0 a1_1 a1_2 a2_0 a2_1 a2_2 a2_3 a3).run
noncomputable def S.law14_RingTells_is (a0_0 : Int) (a0_1 : Int) (a0_2 : List (Ty .mat)) (a1_0 : Int) (a1_1 : Int) (a1_2 : List (Ty .mat)) (a2_0 : Int) (a2_1 : Int) (a2_2 : Int) (a2_3 : Bool) (a3 : Int) : Bool := (S.law14_RingTells a0_0 a0_1 a0_2 a1_0 a1_1 a1_2 a2_0 a2_1 a2_2 a2_3 a3).isSome
noncomputable def S.law14_RingTells_o (a0_0 : Int) (a0_1 : Int) (a0_2 : List (Ty .mat)) (a1_0 : Int) (a1_1 : Int) (a1_2 : List (Ty .mat)) (a2_0 : Int) (a2_1 : Int) (a2_2 : Int) (a2_3 : Bool) (a3 : Int) : S.law14_RingTells_T := (S.law14_RingTells a0_0 a0_1 a0_2 a1_0 a1_1 a1_2 a2_0 a2_1 a2_2 a2_3 a3).getD default
noncomputable def ret_law14_RingTells (b : Bool) (r : S.law14_RingTells_T) : Ret := ⟨b, none, [(false, [C.d (D.sc (Sc.bool r.x0))])]⟩
noncomputable def g_law14_RingTells : Con
  | [(true, [.sc (.int .i64 a0_0), .sc (.int .i64 a0_1), .sl a0_2n a0_2f .mat a0_2]), (true, [.sc (.int .i64 a1_0), .sc (.int .i64 a1_1), .sl a1_2n a1_2f .mat a1_2]), (true, [.sc (.int .i64 a2_0), .sc (.int .i64 a2_1), .sc (.int .i64 a2_2), .sc (.bool a2_3)]), (false, [.sc (.int .i64 a3)])] => some (ret_law14_RingTells (S.law14_RingTells_is a0_0 a0_1 a0_2 a1_0 a1_1 a1_2 a2_0 a2_1 a2_2 a2_3 a3) (S.law14_RingTells_o a0_0 a0_1 a0_2 a1_0 a1_1 a1_2 a2_0 a2_1 a2_2 a2_3 a3))
  | _ => none
theorem raw_law14_RingTells (a0_0 : Int) (a0_1 : Int) (a0_2n : Option Bool) (a0_2f : Bool) (a0_2 : List (Ty .mat)) (a1_0 : Int) (a1_1 : Int) (a1_2n : Option Bool) (a1_2f : Bool) (a1_2 : List (Ty .mat)) (a2_0 : Int) (a2_1 : Int) (a2_2 : Int) (a2_3 : Bool) (a3 : Int) : evR2 cx_law14_RingTells (hdI cx_law14_RingTells (find []) [] none 0) none Try.f5 5 none [(true, [.sc (.int .i64 a0_0), .sc (.int .i64 a0_1), .sl a0_2n a0_2f .mat a0_2]), (true, [.sc (.int .i64 a1_0), .sc (.int .i64 a1_1), .sl a1_2n a1_2f .mat a1_2]), (true, [.sc (.int .i64 a2_0), .sc (.int .i64 a2_1), .sc (.int .i64 a2_2), .sc (.bool a2_3)]), (false, [.sc (.int .i64 a3)])] some = (S.law14_RingTells_R a0_0 a0_1 a0_2 a1_0 a1_1 a1_2 a2_0 a2_1 a2_2 a2_3 a3).go (ret_law14_RingTells true) := by kernel_rfl
theorem bs_law14_RingTells : loopsIn Try.f5 [] = [] := by kernel_rfl
theorem law14_RingTells_ok : Stands Try.prog tyTab 5 g_law14_RingTells := by
  refine stands3 (L := find []) (n := 0) (hints := []) (cx_ok rfl) rdy_law14_RingTells ⟨by kernel_rfl, by kernel_rfl, by kernel_rfl⟩ bs_law14_RingTells nilB (fun das r hG hr => ?_)
  unfold g_law14_RingTells at hG
  split at hG
  · rename_i a0_0 a0_1 a0_2n a0_2f a0_2 a1_0 a1_1 a1_2n a1_2f a1_2 a2_0 a2_1 a2_2 a2_3 a3
    injection hG with hG; subst hG
    exact ⟨none, true, win default ((raw_law14_RingTells a0_0 a0_1 a0_2n a0_2f a0_2 a1_0 a1_1 a1_2n a1_2f a1_2 a2_0 a2_1 a2_2 a2_3 a3).trans (DT.go_run _ _)) hr⟩
  · cases hG
noncomputable abbrev cx_law14_RingAcks : Cx := mkCx2 tyTab [(15, g_law14_awake), (16, g_ring_May), (20, g_ring_Ack), (27, g_ring_Same)] [] [(6, 10, { keep := [1, 2, 6, 8], acc := [] })] []
theorem rdy_law14_RingAcks : Ready Try.prog tyTab [(15, g_law14_awake), (16, g_ring_May), (20, g_ring_Ack), (27, g_ring_Same)] [] [] := ⟨consG2 law14_awake_ok (consG2 ring_May_ok (consG2 ring_Ack_ok (consG2 ring_Same_ok (noneG2)))), noneI2, noneF2⟩
structure S.law14_RingAcks_10_V where
  t_8_0 : Int
noncomputable def S.law14_RingAcks_10_R (h_0_2 : List (Ty ET.mat)) (h_17_2 : List (Ty ET.mat)) (v : S.law14_RingAcks_10_V) : DT (Option Nat × S.law14_RingAcks_10_V) :=
let y0 : Int := (↑h_17_2.length : Int)
let y1 : Bool := xdec (v.t_8_0 < y0)
let y2 : Int := (↑h_0_2.length : Int)
let y3 : Int := xwrap IntKind.i64 (xwrap IntKind.i64 (y2 - y0) + v.t_8_0)
let y4 : Ty ET.mat := h_17_2.getD v.t_8_0.toNat (dflt ET.mat)
let y5 : Ty ET.mat := h_0_2.getD y3.toNat (dflt ET.mat)
(.br (y1)
(.br (xdec (0 ≤ v.t_8_0) && y1)
(.br (xdec (0 ≤ y3) && xdec (y3 < y2))
(.br (bif xeqI y4.start y5.start && (xeqI y4.fin y5.fin && (xeqI y4.agg y5.agg && xeqB y4.bad y5.bad)) then false else true)
(.leaf (some 0, v))
(.leaf (none, ⟨xwrap IntKind.i64 (v.t_8_0 + 1)⟩)))
.fail)
.fail)
(.leaf (some 1, v)))
noncomputable def S.law14_RingAcks_10_r (h_0_2 : List (Ty ET.mat)) (h_17_2 : List (Ty ET.mat)) (v : S.law14_RingAcks_10_V) : Option (Option Nat × S.law14_RingAcks_10_V) := (S.law14_RingAcks_10_R h_0_2 h_17_2 v).run
noncomputable def S.law14_RingAcks_10_j (h_0_2 : List (Ty ET.mat)) (h_17_2 : List (Ty ET.mat)) (v : S.law14_RingAcks_10_V) (j : Nat) : Bool := Lp_j (S.law14_RingAcks_10_r h_0_2 h_17_2) v j
noncomputable def S.law14_RingAcks_10_v (h_0_2 : List (Ty ET.mat)) (h_17_2 : List (Ty ET.mat)) (v : S.law14_RingAcks_10_V) : S.law14_RingAcks_10_V := Lp_v (S.law14_RingAcks_10_r h_0_2 h_17_2) v
noncomputable def mk_law14_RingAcks_10 (t_1_0 : Int) (h_0_0 : Int) (h_0_1 : Int) (h_0_2n : Option Bool) (h_0_2f : Bool) (h_0_2 : List (Ty ET.mat)) (h_17_0 : Int) (h_17_1 : Int) (h_17_2 : List (Ty ET.mat)) (v : S.law14_RingAcks_10_V) : St := ⟨[V.any, V.v false [C.d (D.sc (Sc.int IntKind.i64 t_1_0))], V.v false [C.ptr 0 0], V.any, V.any, V.any, V.v false [C.ptr 17 0], V.any,
  V.v false [C.d (D.sc (Sc.int IntKind.i64 v.t_8_0))], V.any, V.any, V.any, V.any, V.any, V.any, V.any, V.any, V.any, V.any, V.any, V.any, V.any, V.any, V.any, V.any, V.any, V.any,
  V.any, V.any, V.any, V.any, V.any, V.any, V.any, V.any, V.any, V.any, V.any, V.any, V.any, V.any, V.any, V.any, V.any, V.any, V.any, V.any, V.any, V.any, V.any, V.any, V.any,
  V.any, V.any, V.any, V.any, V.any, V.any, V.any, V.any, V.any, V.any, V.any, V.any, V.any, V.any, V.any, V.any, V.any, V.any, V.any, V.any, V.any, V.any, V.any, V.any, V.any,
  V.any, V.any, V.any, V.any, V.any, V.any, V.any, V.any, V.any, V.any, V.any, V.any, V.any, V.any, V.any, V.any, V.any, V.any, V.any, V.any, V.any, V.any, V.any, V.any, V.any,
  V.any, V.any, V.any, V.any, V.any, V.any, V.any, V.any, V.any, V.any, V.any, V.any, V.any, V.any, V.any, V.any, V.any, V.any, V.any, V.any, V.any, V.any, V.any, V.any, V.any,
  V.any, V.any, V.any, V.any, V.any, V.any, V.any, V.any, V.any, V.any, V.any, V.any, V.any, V.any, V.any, V.any, V.any, V.any], [some (Blk.box 24 [C.d (D.sc (Sc.int IntKind.i64 h_0_0)), C.d (D.sc (Sc.int IntKind.i64 h_0_1)), C.d (D.sl h_0_2n h_0_2f ET.mat h_0_2)]), none, none, none, none, none, none, none,
  none, none, none, none, none, none, none, none, none,
  some (Blk.box 24 [C.d (D.sc (Sc.int IntKind.i64 h_17_0)), C.d (D.sc (Sc.int IntKind.i64 h_17_1)), C.d (D.sl none false ET.mat h_17_2)]), none, none, none, none, none, none, none,
  none, none, none, none, none, none, none, none, none, none, none, none, none, none, none, none, none, none, none, none, none, none, none, none, none, none, none, none, none], 0⟩
noncomputable def ex_law14_RingAcks_10 (t_1_0 : Int) (h_0_0 : Int) (h_0_1 : Int) (h_0_2n : Option Bool) (h_0_2f : Bool) (h_0_2 : List (Ty ET.mat)) (h_17_0 : Int) (h_17_1 : Int) (h_17_2 : List (Ty ET.mat)) (j : Nat) (v : S.law14_RingAcks_10_V) : Ex × St := match j with
  | 0 => (Ex.ret, ⟨[V.any, V.v false [C.d (D.sc (Sc.int IntKind.i64 t_1_0))], V.any, V.any, V.v false [C.d (D.sc (Sc.bool false))], V.any, V.v false [C.ptr 17 0], V.any, V.any, V.any, V.any, V.any,
  V.any, V.any, V.any, V.any, V.any, V.any, V.any, V.any, V.any, V.any, V.any, V.any, V.any, V.any, V.any, V.any, V.any, V.any, V.any, V.any, V.any, V.any, V.any, V.any, V.any,
  V.any, V.any, V.any, V.any, V.any, V.any, V.any, V.any, V.any, V.any, V.any, V.any, V.any, V.any, V.any, V.any, V.any, V.any, V.any, V.any, V.any, V.any, V.any, V.any, V.any,
  V.any, V.any, V.any, V.any, V.any, V.any, V.any, V.any, V.any, V.any, V.any, V.any, V.any, V.any, V.any, V.any, V.any, V.any, V.any, V.any, V.any, V.any, V.any, V.any, V.any,
  V.any, V.any, V.any, V.any, V.any, V.any, V.any, V.any, V.any, V.any, V.any, V.any, V.any, V.any, V.any, V.any, V.any, V.any, V.any, V.any, V.any, V.any, V.any, V.any, V.any,
  V.any, V.any, V.any, V.any, V.any, V.any, V.any, V.any, V.any, V.any, V.any, V.any, V.any, V.any, V.any, V.any, V.any, V.any, V.any, V.any, V.any, V.any, V.any, V.any, V.any,
  V.any, V.any, V.any, V.any, V.any, V.any, V.any, V.any], [some (Blk.box 24 [C.d (D.sc (Sc.int IntKind.i64 h_0_0)), C.d (D.sc (Sc.int IntKind.i64 h_0_1)), C.d (D.sl h_0_2n h_0_2f ET.mat h_0_2)]), none, none, none, none, none, none, none,
  none, none, none, none, none, none, none, none, none,
  some (Blk.box 24 [C.d (D.sc (Sc.int IntKind.i64 h_17_0)), C.d (D.sc (Sc.int IntKind.i64 h_17_1)), C.d (D.sl none false ET.mat h_17_2)]), none, none, none, none, none, none, none,
  none, none, none, none, none, none, none, none, none, none, none, none, none, none, none, none, none, none, none, none, none, none, none, none, none, none, none, none, none,
  none, none, none, none, none, none, none, none, none, none, none, none, none, none, none, none, none, none, none, none, none, none, none, none, none], 0⟩)
  | 1 => (Ex.exit 0, ⟨[V.any, V.v false [C.d (D.sc (Sc.int IntKind.i64 t_1_0))], V.any, V.any, V.any, V.any, V.v false [C.ptr 17 0], V.any, V.any, V.any, V.any, V.any, V.any, V.any, V.any, V.any, V.any,
  V.any, V.any, V.any, V.any, V.any, V.any, V.any, V.any, V.any, V.any, V.any, V.any, V.any, V.any, V.any, V.any, V.any, V.any, V.any, V.any, V.any, V.any, V.any, V.any, V.any,
  V.any, V.any, V.any, V.any, V.any, V.any, V.any, V.any, V.any, V.any, V.any, V.any, V.any, V.any, V.any, V.any, V.any, V.any, V.any, V.any, V.any, V.any, V.any, V.any, V.any,
  V.any, V.any, V.any, V.any, V.any, V.any, V.any, V.any, V.any, V.any, V.any, V.any, V.any, V.any, V.any, V.any, V.any, V.any, V.any, V.any, V.any, V.any, V.any, V.any, V.any,
  V.any, V.any, V.any, V.any, V.any, V.any, V.any, V.any, V.any, V.any, V.any, V.any, V.any, V.any, V.any, V.any, V.any, V.any, V.any, V.any, V.any, V.any, V.any, V.any, V.any,
  V.any, V.any, V.any, V.any, V.any, V.any, V.any, V.any, V.any, V.any, V.any, V.any, V.any, V.any, V.any, V.any, V.any, V.any, V.any, V.any, V.any, V.any, V.any, V.any, V.any,
  V.any, V.any, V.any], [some (Blk.box 24 [C.d (D.sc (Sc.int IntKind.i64 h_0_0)), C.d (D.sc (Sc.int IntKind.i64 h_0_1)), C.d (D.sl h_0_2n h_0_2f ET.mat h_0_2)]), none, none, none, none, none, none, none,
  none, none, none, none, none, none, none, none, none,
  some (Blk.box 24 [C.d (D.sc (Sc.int IntKind.i64 h_17_0)), C.d (D.sc (Sc.int IntKind.i64 h_17_1)), C.d (D.sl none false ET.mat h_17_2)]), none, none, none, none, none, none, none,
  none, none, none, none, none, none, none, none, none, none, none, none, none, none, none, none, none, none, none, none, none, none, none, none, none, none, none, none, none,
  none, none, none, none, none], 0⟩)
  | _ => (.ret, ⟨[], [], 0⟩)
noncomputable def T1_law14_RingAcks_10 : V → V → V → V → Option Blk → Option Blk → Tree
  | V.v false [C.d (D.sc (Sc.int IntKind.i64 t_1_0))], V.v false [C.ptr 0 0], V.v false [C.ptr 17 0], V.v false [C.d (D.sc (Sc.int IntKind.i64 t_8_0))], some (Blk.box 24 [C.d (D.sc (Sc.int IntKind.i64 h_0_0)), C.d (D.sc (Sc.int IntKind.i64 h_0_1)), C.d (D.sl h_0_2n h_0_2f ET.mat h_0_2)]), some (Blk.box 24 [C.d (D.sc (Sc.int IntKind.i64 h_17_0)), C.d (D.sc (Sc.int IntKind.i64 h_17_1)), C.d (D.sl none false ET.mat h_17_2)]) => exT (fun j => ex_law14_RingAcks_10 t_1_0 h_0_0 h_0_1 h_0_2n h_0_2f h_0_2 h_17_0 h_17_1 h_17_2 j (S.law14_RingAcks_10_v h_0_2 h_17_2 ⟨t_8_0⟩)) (S.law14_RingAcks_10_j h_0_2 h_17_2 ⟨t_8_0⟩) [0, 1]
  | _, _, _, _, _, _ => .bad
noncomputable def T_law14_RingAcks_10 (st : St) : Tree := bif okSt 145 54 0 [0, 17] st then T1_law14_RingAcks_10 (st.env.getD 1 .any) (st.env.getD 2 .any) (st.env.getD 6 .any) (st.env.getD 8 .any) (lk st.heap 0) (lk st.heap 17) else .bad
noncomputable def b_law14_RingAcks_10 : Code := loopBy Try.f6 10
theorem rnd_law14_RingAcks_10 (t_1_0 : Int) (h_0_0 : Int) (h_0_1 : Int) (h_0_2n : Option Bool) (h_0_2f : Bool) (h_0_2 : List (Ty ET.mat)) (h_17_0 : Int) (h_17_1 : Int) (h_17_2 : List (Ty ET.mat)) (v : S.law14_RingAcks_10_V) : round2 cx_law14_RingAcks (hdI cx_law14_RingAcks (find []) [] none 0) 6 b_law14_RingAcks_10 [] 54 [1, 4, 6] (mk_law14_RingAcks_10 t_1_0 h_0_0 h_0_1 h_0_2n h_0_2f h_0_2 h_17_0 h_17_1 h_17_2 v) = (S.law14_RingAcks_10_R h_0_2 h_17_2 v).go (roundOut (mk_law14_RingAcks_10 t_1_0 h_0_0 h_0_1 h_0_2n h_0_2f h_0_2 h_17_0 h_17_1 h_17_2) (ex_law14_RingAcks_10 t_1_0 h_0_0 h_0_1 h_0_2n h_0_2f h_0_2 h_17_0 h_17_1 h_17_2)) := by kernel_rfl
theorem bs_law14_RingAcks_10 : loopsOf b_law14_RingAcks_10 ++ loopsInl [] = [] := by kernel_rfl
theorem ci_law14_RingAcks_10 (t_1_0 : Int) (h_0_0 : Int) (h_0_1 : Int) (h_0_2n : Option Bool) (h_0_2f : Bool) (h_0_2 : List (Ty ET.mat)) (h_17_0 : Int) (h_17_1 : Int) (h_17_2 : List (Ty ET.mat)) : ∀ v j v2, Lp (S.law14_RingAcks_10_r h_0_2 h_17_2) v = some (j, v2) → Circles Try.prog cx_law14_RingAcks b_law14_RingAcks_10 (mk_law14_RingAcks_10 t_1_0 h_0_0 h_0_1 h_0_2n h_0_2f h_0_2 h_17_0 h_17_1 h_17_2 v) (ex_law14_RingAcks_10 t_1_0 h_0_0 h_0_1 h_0_2n h_0_2f h_0_2 h_17_0 h_17_1 h_17_2 j v2).1 (ex_law14_RingAcks_10 t_1_0 h_0_0 h_0_1 h_0_2n h_0_2f h_0_2 h_17_0 h_17_1 h_17_2 j v2).2 :=
  loop_ok2 (L := find []) (n := 0) (hints := [(6, 10, { keep := [1, 2, 6, 8], acc := [] })]) (cx_ok rfl) rdy_law14_RingAcks bs_law14_RingAcks_10 nilB (fun v => (rnd_law14_RingAcks_10 t_1_0 h_0_0 h_0_1 h_0_2n h_0_2f h_0_2 h_17_0 h_17_1 h_17_2 v).trans (DT.go_run _ _)) (by intro j v; unfold ex_law14_RingAcks_10; split <;> rfl)
theorem mke_law14_RingAcks_10 (t_1_0 : Int) (h_0_0 : Int) (h_0_1 : Int) (h_0_2n : Option Bool) (h_0_2f : Bool) (h_0_2 : List (Ty ET.mat)) (h_17_0 : Int) (h_17_1 : Int) (h_17_2 : List (Ty ET.mat)) (v : S.law14_RingAcks_10_V) : mk_law14_RingAcks_10 t_1_0 h_0_0 h_0_1 h_0_2n h_0_2f h_0_2 h_17_0 h_17_1 h_17_2 v = ⟨envOf 145 [(1, V.v false [C.d (D.sc (Sc.int IntKind.i64 t_1_0))]), (2, V.v false [C.ptr 0 0]), (6, V.v false [C.ptr 17 0]), (8, V.v false [C.d (D.sc (Sc.int IntKind.i64 v.t_8_0))])], heapOf 54 [(0, some (Blk.box 24 [C.d (D.sc (Sc.int IntKind.i64 h_0_0)), C.d (D.sc (Sc.int IntKind.i64 h_0_1)), C.d (D.sl h_0_2n h_0_2f ET.mat h_0_2)])), (17, some (Blk.box 24 [C.d (D.sc (Sc.int IntKind.i64 h_17_0)), C.d (D.sc (Sc.int IntKind.i64 h_17_1)), C.d (D.sl none false ET.mat h_17_2)]))], 0⟩ := by kernel_rfl
theorem lo1_law14_RingAcks_10 (e1 : V) (e2 : V) (e6 : V) (e8 : V) (h0 : Option Blk) (h17 : Option Blk) e st2 (h : (T1_law14_RingAcks_10 e1 e2 e6 e8 h0 h17).eval = some (e, st2)) : Circles Try.prog cx_law14_RingAcks b_law14_RingAcks_10 ⟨envOf 145 [(1, e1), (2, e2), (6, e6), (8, e8)], heapOf 54 [(0, h0), (17, h17)], 0⟩ e st2 := by
  unfold T1_law14_RingAcks_10 at h
  split at h
  · have := loop_tree (mk := mk_law14_RingAcks_10 _ _ _ _ _ _ _ _ _) (ci_law14_RingAcks_10 _ _ _ _ _ _ _ _ _) _ _ e st2 h
    rw [mke_law14_RingAcks_10] at this
    exact this
  · cases h
theorem lok_law14_RingAcks_10 : LoopOk Try.prog cx_law14_RingAcks b_law14_RingAcks_10 T_law14_RingAcks_10 := by
  intro st e st2 h
  unfold T_law14_RingAcks_10 at h
  cases hk : okSt 145 54 0 [0, 17] st with
  | false => rw [hk] at h; cases h
  | true =>
    rw [hk] at h
    exact circles_keep (ks := [1, 2, 6, 8]) hk (lo1_law14_RingAcks_10 _ _ _ _ _ _ e st2 h)
structure S.law14_RingAcks_T where
  x0 : Bool
  deriving Inhabited
noncomputable def S.law14_RingAcks_R (a0_0 : Int) (a0_1 : Int) (a0_2 : List (Ty .mat)) (a1 : Int) : DT S.law14_RingAcks_T :=
let y0 : S.ring_Ack_T := S.ring_Ack_o a0_0 a0_1 a0_2 a1
let y1 : Int := y0.x3
let y2 : List (Ty ET.mat) := y0.x2
let y3 : Int := (↑y2.length : Int)
let y4 : Bool := xeqI y3 0
let y5 : Int := y0.x0
let y6 : Int := y0.x1
let y7 : S.law14_RingAcks_10_V := { t_8_0 := 0 : S.law14_RingAcks_10_V }
let y8 : Int := xwrap IntKind.i64 (a1 - 1)
let y9 : Int := xwrap IntKind.i64 (y6 + 1)
let y10 : S.ring_Ack_T := S.ring_Ack_o y5 y6 y2 a1
let y11 : Int := y10.x0
let y12 : Int := y10.x1
let y13 : List (Ty ET.mat) := y10.x2
(.br (S.law14_awake_is)
(.br (xnot S.law14_awake_o.x0)
(.leaf ⟨S.law14_awake_o.x0⟩)
(.br (S.ring_May_is a0_0 a0_1 a0_2)
(.br (xnot (S.ring_May_o a0_0 a0_1 a0_2).x0)
(.leaf ⟨S.law14_awake_o.x0⟩)
(.br (S.ring_Ack_is a0_0 a0_1 a0_2 a1)
(.br (xneI y1 0)
(.br (xeqI y1 9)
(.br (xdec (a1 < a0_0))
(.leaf ⟨y4⟩)
(.br (xdec (a1 > a0_1))
(.leaf ⟨y4⟩)
(.leaf ⟨false⟩)))
.fail)
(.br (S.ring_May_is y5 y6 y2)
(.br (xnot (S.ring_May_o y5 y6 y2).x0)
(.leaf ⟨false⟩)
(.br (xneI y5 a1)
(.leaf ⟨false⟩)
(.br (xneI y6 a0_1)
(.leaf ⟨false⟩)
(.br (xneI (xwrap IntKind.i64 (y5 + y3)) (xwrap IntKind.i64 (a0_0 + (↑a0_2.length : Int))))
(.leaf ⟨false⟩)
(.br (S.law14_RingAcks_10_j a0_2 y2 y7 0)
(.leaf ⟨false⟩)
(.br (S.law14_RingAcks_10_j a0_2 y2 y7 1)
(.br (S.ring_Ack_is y5 y6 y2 a1)
(.br (S.ring_Ack_is y5 y6 y2 y8)
(.br (S.ring_Ack_is y5 y6 y2 y9)
(.br (xeqI y10.x3 0)
(.br (S.ring_Same_is y11 y12 y13 y5 y6 y2)
(.br ((S.ring_Same_o y11 y12 y13 y5 y6 y2).x0)
(.br (xeqI (S.ring_Ack_o y5 y6 y2 y8).x3 9)
(.leaf ⟨xeqI (S.ring_Ack_o y5 y6 y2 y9).x3 9⟩)
(.leaf ⟨false⟩))
(.leaf ⟨false⟩))
.fail)
(.leaf ⟨false⟩))
.fail)
.fail)
.fail)
.fail))))))
.fail))
.fail))
.fail))
.fail)
noncomputable def S.law14_RingAcks (a0_0 : Int) (a0_1 : Int) (a0_2 : List (Ty .mat)) (a1 : Int) : Option S.law14_RingAcks_T := (S.law14_RingAcks_R a0_0 a0_1 a0_2 a1).run
noncomputable def S.law14_RingAcks_is (a0_0 : Int) (a0_1 : Int) (a0_2 : List (Ty .mat)) (a1 : Int) : Bool := (S.law14_RingAcks a0_0 a0_1 a0_2 a1).isSome
noncomputable def S.law14_RingAcks_o (a0_0 : Int) (a0_1 : Int) (a0_2 : List (Ty .mat)) (a1 : Int) : S.law14_RingAcks_T := (S.law14_RingAcks a0_0 a0_1 a0_2 a1).getD default
noncomputable def ret_law14_RingAcks (b : Bool) (r : S.law14_RingAcks_T) : Ret := ⟨b, none, [(false, [C.d (D.sc (Sc.bool r.x0))])]⟩
noncomputable def g_law14_RingAcks : Con
  | [(true, [.sc (.int .i64 a0_0), .sc (.int .i64 a0_1), .sl a0_2n a0_2f .mat a0_2]), (false, [.sc (.int .i64 a1)])] => some (ret_law14_RingAcks (S.law14_RingAcks_is a0_0 a0_1 a0_2 a1) (S.law14_RingAcks_o a0_0 a0_1 a0_2 a1))
  | _ => none
theorem raw_law14_RingAcks (a0_0 : Int) (a0_1 : Int) (a0_2n : Option Bool) (a0_2f : Bool) (a0_2 : List (Ty .mat)) (a1 : Int) : evR2 cx_law14_RingAcks (hdI cx_law14_RingAcks (find [(10, T_law14_RingAcks_10)]) [] none 0) none Try.f6 6 none [(true, [.sc (.int .i64 a0_0), .sc (.int .i64 a0_1), .sl a0_2n a0_2f .mat a0_2]), (false, [.sc (.int .i64 a1)])] some = (S.law14_RingAcks_R a0_0 a0_1 a0_2 a1).go (ret_law14_RingAcks true) := by kernel_rfl
theorem bs_law14_RingAcks : loopsIn Try.f6 [] = [b_law14_RingAcks_10] := by kernel_rfl
theorem law14_RingAcks_ok : Stands Try.prog tyTab 6 g_law14_RingAcks := by
  refine stands3 (L := find [(10, T_law14_RingAcks_10)]) (n := 0) (hints := [(6, 10, { keep := [1, 2, 6, 8], acc := [] })]) (cx_ok rfl) rdy_law14_RingAcks ⟨by kernel_rfl, by kernel_rfl, by kernel_rfl⟩ bs_law14_RingAcks (consB (fun T h => by have e : T_law14_RingAcks_10 = T := Option.some.inj (show some T_law14_RingAcks_10 = some T from h); exact e ▸ lok_law14_RingAcks_10) nilB) (fun das r hG hr => ?_)
  unfold g_law14_RingAcks at hG
  split at hG
  · rename_i a0_0 a0_1 a0_2n a0_2f a0_2 a1
    injection hG with hG; subst hG
    exact ⟨none, true, win default ((raw_law14_RingAcks a0_0 a0_1 a0_2n a0_2f a0_2 a1).trans (DT.go_run _ _)) hr⟩
  · cases hG
noncomputable abbrev cx_law14_RingRoom : Cx := mkCx2 tyTab [(15, g_law14_awake), (16, g_ring_May), (19, g_ring_Add), (27, g_ring_Same)] [] [] []
theorem rdy_law14_RingRoom : Ready Try.prog tyTab [(15, g_law14_awake), (16, g_ring_May), (19, g_ring_Add), (27, g_ring_Same)] [] [] := ⟨consG2 law14_awake_ok (consG2 ring_May_ok (consG2 ring_Add_ok (consG2 ring_Same_ok (noneG2)))), noneI2, noneF2⟩
structure S.law14_RingRoom_T where
  x0 : Bool
  deriving Inhabited
noncomputable def S.law14_RingRoom_R (a0_0 : Int) (a0_1 : Int) (a0_2 : List (Ty .mat)) (a1_0 : Int) (a1_1 : Int) (a1_2 : Int) (a1_3 : Bool) : DT S.law14_RingRoom_T :=
let y0 : S.ring_Add_T := S.ring_Add_o a0_0 a0_1 a0_2 a1_0 a1_1 a1_2 a1_3
let y1 : Int := y0.x0
let y2 : Int := y0.x1
let y3 : List (Ty ET.mat) := y0.x2
let y4 : Int := (↑a0_2.length : Int)
let y5 : Int := (↑y3.length : Int)
let y6 : Ty ET.mat := y3.getD y4.toNat (dflt ET.mat)
(.br (S.law14_awake_is)
(.br (xnot S.law14_awake_o.x0)
(.leaf ⟨S.law14_awake_o.x0⟩)
(.br (S.ring_May_is a0_0 a0_1 a0_2)
(.br (xnot (S.ring_May_o a0_0 a0_1 a0_2).x0)
(.leaf ⟨S.law14_awake_o.x0⟩)
(.br (S.ring_Add_is a0_0 a0_1 a0_2 a1_0 a1_1 a1_2 a1_3)
(.br (xnot y0.x3)
(.br (S.ring_Same_is a0_0 a0_1 a0_2 y1 y2 y3)
(.br ((S.ring_Same_o a0_0 a0_1 a0_2 y1 y2 y3).x0)
(.br (xeqI y4 6)
(.leaf ⟨true⟩)
(.leaf ⟨xeqI (xwrap IntKind.i64 (a0_0 + y4)) 1099511627776⟩))
.fail)
.fail)
(.br (S.ring_May_is y1 y2 y3)
(.br ((S.ring_May_o y1 y2 y3).x0)
(.br (xeqI y5 (xwrap IntKind.i64 (y4 + 1)))
(.br (xdec (0 ≤ y4) && xdec (y4 < y5))
(.br (xeqI y6.start a1_0 && (xeqI y6.fin a1_1 && (xeqI y6.agg a1_2 && xeqB y6.bad a1_3)))
(.br (xeqI y1 a0_0)
(.br (xeqI y2 a0_1)
(.leaf ⟨xdec (y5 ≤ 6)⟩)
(.leaf ⟨false⟩))
(.leaf ⟨false⟩))
(.leaf ⟨false⟩))
.fail)
(.leaf ⟨false⟩))
(.leaf ⟨false⟩))
.fail))
.fail))
.fail))
.fail)
noncomputable def S.law14_RingRoom (a0_0 : Int) (a0_1 : Int) (a0_2 : List (Ty .mat)) (a1_0 : Int) (a1_1 : Int) (a1_2 : Int) (a1_3 : Bool) : Option S.law14_RingRoom_T := (S.law14_RingRoom_R a0_0 a0_1 a0_2 a1_0 a1_1 a1_2 a1_3).run
noncomputable def S.law14_RingRoom_is (a0_0 : Int) (a0_1 : Int) (a0_2 : List (Ty .mat)) (a1_0 : Int) (a1_1 : Int) (a1_2 : Int) (a1_3 : Bool) : Bool := (S.law14_RingRoom a0_0 a0_1 a0_2 a1_0 a1_1 a1_2 a1_3).isSome
noncomputable def S.law14_RingRoom_o (a0_0 : Int) (a0_1 : Int) (a0_2 : List (Ty .mat)) (a1_0 : Int) (a1_1 : Int) (a1_2 : Int) (a1_3 : Bool) : S.law14_RingRoom_T := (S.law14_RingRoom a0_0 a0_1 a0_2 a1_0 a1_1 a1_2 a1_3).getD default
noncomputable def ret_law14_RingRoom (b : Bool) (r : S.law14_RingRoom_T) : Ret := ⟨b, none, [(false, [C.d (D.sc (Sc.bool r.x0))])]⟩
noncomputable def g_law14_RingRoom : Con
  | [(true, [.sc (.int .i64 a0_0), .sc (.int .i64 a0_1), .sl a0_2n a0_2f .mat a0_2]), (true, [.sc (.int .i64 a1_0), .sc (.int .i64 a1_1), .sc (.int .i64 a1_2), .sc (.bool a1_3)])] => some (ret_law14_RingRoom (S.law14_RingRoom_is a0_0 a0_1 a0_2 a1_0 a1_1 a1_2 a1_3) (S.law14_RingRoom_o a0_0 a0_1 a0_2 a1_0 a1_1 a1_2 a1_3))
  | _ => none
theorem raw_law14_RingRoom (a0_0 : Int) (a0_1 : Int) (a0_2n : Option Bool) (a0_2f : Bool) (a0_2 : List (Ty .mat)) (a1_0 : Int) (a1_1 : Int) (a1_2 : Int) (a1_3 : Bool) : evR2 cx_law14_RingRoom (hdI cx_law14_RingRoom (find []) [] none 0) none Try.f7 7 none [(true, [.sc (.int .i64 a0_0), .sc (.int .i64 a0_1), .sl a0_2n a0_2f .mat a0_2]), (true, [.sc (.int .i64 a1_0), .sc (.int .i64 a1_1), .sc (.int .i64 a1_2), .sc (.bool a1_3)])] some = (S.law14_RingRoom_R a0_0 a0_1 a0_2 a1_0 a1_1 a1_2 a1_3).go (ret_law14_RingRoom true) := by kernel_rfl
theorem bs_law14_RingRoom : loopsIn Try.f7 [] = [] := by kernel_rfl
theorem law14_RingRoom_ok : Stands Try.prog tyTab 7 g_law14_RingRoom := by
  refine stands3 (L := find []) (n := 0) (hints := []) (cx_ok rfl) rdy_law14_RingRoom ⟨by kernel_rfl, by kernel_rfl, by kernel_rfl⟩ bs_law14_RingRoom nilB (fun das r hG hr => ?_)
  unfold g_law14_RingRoom at hG
  split at hG
  · rename_i a0_0 a0_1 a0_2n a0_2f a0_2 a1_0 a1_1 a1_2 a1_3
    injection hG with hG; subst hG
    exact ⟨none, true, win default ((raw_law14_RingRoom a0_0 a0_1 a0_2n a0_2f a0_2 a1_0 a1_1 a1_2 a1_3).trans (DT.go_run _ _)) hr⟩
  · cases hG
noncomputable abbrev cx_law14_RingBack : Cx := mkCx2 tyTab [(15, g_law14_awake), (16, g_ring_May), (17, g_ring_Back), (20, g_ring_Ack), (27, g_ring_Same)] [] [] []
theorem rdy_law14_RingBack : Ready Try.prog tyTab [(15, g_law14_awake), (16, g_ring_May), (17, g_ring_Back), (20, g_ring_Ack), (27, g_ring_Same)] [] [] := ⟨consG2 law14_awake_ok (consG2 ring_May_ok (consG2 ring_Back_ok (consG2 ring_Ack_ok (consG2 ring_Same_ok (noneG2))))), noneI2, noneF2⟩
structure S.law14_RingBack_T where
  x0 : Bool
  deriving Inhabited
noncomputable def S.law14_RingBack_R (a0_0 : Int) (a0_1 : Int) (a0_2 : List (Ty .mat)) (a1 : Int) : DT S.law14_RingBack_T :=
let y0 : S.ring_Back_T := S.ring_Back_o a0_0 a0_1 a0_2 a1
let y1 : Int := y0.x0
let y2 : Int := y0.x1
let y3 : List (Ty ET.mat) := y0.x2
let y4 : S.ring_Ack_T := S.ring_Ack_o a0_0 a0_1 a0_2 a1
let y5 : Int := y4.x0
let y6 : Int := y4.x1
let y7 : List (Ty ET.mat) := y4.x2
let y8 : S.ring_Ack_T := S.ring_Ack_o y1 y2 y3 a1
let y9 : S.ring_Back_T := S.ring_Back_o y5 y6 y7 a1
let y10 : Int := y8.x0
let y11 : Int := y8.x1
let y12 : List (Ty ET.mat) := y8.x2
let y13 : Int := y9.x0
let y14 : Int := y9.x1
let y15 : List (Ty ET.mat) := y9.x2
(.br (S.law14_awake_is)
(.br (xnot S.law14_awake_o.x0)
(.leaf ⟨S.law14_awake_o.x0⟩)
(.br (S.ring_May_is a0_0 a0_1 a0_2)
(.br (xnot (S.ring_May_o a0_0 a0_1 a0_2).x0)
(.leaf ⟨S.law14_awake_o.x0⟩)
(.br (xdec (a1 < a0_0))
(.leaf ⟨S.law14_awake_o.x0⟩)
(.br (xdec (a1 > a0_1))
(.leaf ⟨S.law14_awake_o.x0⟩)
(.br (S.ring_Back_is a0_0 a0_1 a0_2 a1)
(.br (S.ring_Ack_is y1 y2 y3 a1)
(.br (S.ring_Ack_is a0_0 a0_1 a0_2 a1)
(.br (S.ring_Back_is y5 y6 y7 a1)
(.br (xeqI y0.x3 0)
(.br (xeqI y8.x3 0)
(.br (xeqI y4.x3 0)
(.br (xeqI y9.x3 0)
(.br (S.ring_Same_is y10 y11 y12 y13 y14 y15)
(.br ((S.ring_Same_o y10 y11 y12 y13 y14 y15).x0)
(.br (xeqI y11 a1)
(.br (xeqI y10 a1)
(.leaf ⟨xeqI (↑y12.length : Int) (xwrap IntKind.i64 (xwrap IntKind.i64 (a0_0 + (↑a0_2.length : Int)) - a1))⟩)
(.leaf ⟨false⟩))
(.leaf ⟨false⟩))
(.leaf ⟨false⟩))
.fail)
(.leaf ⟨false⟩))
(.leaf ⟨false⟩))
(.leaf ⟨false⟩))
(.leaf ⟨false⟩))
.fail)
.fail)
.fail)
.fail))))
.fail))
.fail)
noncomputable def S.law14_RingBack (a0_0 : Int) (a0_1 : Int) (a0_2 : List (Ty .mat)) (a1 : Int) : Option S.law14_RingBack_T := (S.law14_RingBack_R a0_0 a0_1 a0_2 a1).run
noncomputable def S.law14_RingBack_is (a0_0 : Int) (a0_1 : Int) (a0_2 : List (Ty .mat)) (a1 : Int) : Bool := (S.law14_RingBack a0_0 a0_1 a0_2 a1).isSome
noncomputable def S.law14_RingBack_o (a0_0 : Int) (a0_1 : Int) (a0_2 : List (Ty .mat)) (a1 : Int) : S.law14_RingBack_T := (S.law14_RingBack a0_0 a0_1 a0_2 a1).getD default
noncomputable def ret_law14_RingBack (b : Bool) (r : S.law14_RingBack_T) : Ret := ⟨b, none, [(false, [C.d (D.sc (Sc.bool r.x0))])]⟩
noncomputable def g_law14_RingBack : Con
  | [(true, [.sc (.int .i64 a0_0), .sc (.int .i64 a0_1), .sl a0_2n a0_2f .mat a0_2]), (false, [.sc (.int .i64 a1)])] => some (ret_law14_RingBack (S.law14_RingBack_is a0_0 a0_1 a0_2 a1) (S.law14_RingBack_o a0_0 a0_1 a0_2 a1))
  | _ => none
theorem raw_law14_RingBack (a0_0 : Int) (a0_1 : Int) (a0_2n : Option Bool) (a0_2f : Bool) (a0_2 : List (Ty .mat)) (a1 : Int) : evR2 cx_law14_RingBack (hdI cx_law14_RingBack (find []) [] none 0) none Try.f8 8 none [(true, [.sc (.int .i64 a0_0), .sc (.int .i64 a0_1), .sl a0_2n a0_2f .mat a0_2]), (false, [.sc (.int .i64 a1)])] some = (S.law14_RingBack_R a0_0 a0_1 a0_2 a1).go (ret_law14_RingBack true) := by kernel_rfl
theorem bs_law14_RingBack : loopsIn Try.f8 [] = [] := by kernel_rfl
theorem law14_RingBack_ok : Stands Try.prog tyTab 8 g_law14_RingBack := by
  refine stands3 (L := find []) (n := 0) (hints := []) (cx_ok rfl) rdy_law14_RingBack ⟨by kernel_rfl, by kernel_rfl, by kernel_rfl⟩ bs_law14_RingBack nilB (fun das r hG hr => ?_)
  unfold g_law14_RingBack at hG
  split at hG
  · rename_i a0_0 a0_1 a0_2n a0_2f a0_2 a1
    injection hG with hG; subst hG
    exact ⟨none, true, win default ((raw_law14_RingBack a0_0 a0_1 a0_2n a0_2f a0_2 a1).trans (DT.go_run _ _)) hr⟩
  · cases hG
noncomputable abbrev cx_law14_RingNone : Cx := mkCx2 tyTab [(15, g_law14_awake), (16, g_ring_May), (17, g_ring_Back), (18, g_ring_Next), (19, g_ring_Add), (20, g_ring_Ack), (27, g_ring_Same)] [] [] []
theorem rdy_law14_RingNone : Ready Try.prog tyTab [(15, g_law14_awake), (16, g_ring_May), (17, g_ring_Back), (18, g_ring_Next), (19, g_ring_Add), (20, g_ring_Ack), (27, g_ring_Same)] [] [] := ⟨consG2 law14_awake_ok (consG2 ring_May_ok (consG2 ring_Back_ok (consG2 ring_Next_ok (consG2 ring_Add_ok (consG2 ring_Ack_ok (consG2 ring_Same_ok (noneG2))))))), noneI2, noneF2⟩
structure S.law14_RingNone_T where
  x0 : Bool
  deriving Inhabited
noncomputable def S.law14_RingNone_R (a0_0 : Int) (a0_1 : Int) (a0_2 : List (Ty .mat)) (a1_0 : Int) (a1_1 : Int) (a1_2 : Int) (a1_3 : Bool) (a2 : Int) : DT S.law14_RingNone_T :=
let y0 : S.ring_Add_T := S.ring_Add_o a0_0 a0_1 a0_2 a1_0 a1_1 a1_2 a1_3
let y1 : S.ring_Next_T := S.ring_Next_o a0_0 a0_1 a0_2
let y2 : Int := y0.x0
let y3 : Int := y0.x1
let y4 : List (Ty ET.mat) := y0.x2
let y5 : Int := y1.x0
let y6 : Int := y1.x1
let y7 : List (Ty ET.mat) := y1.x2
(.br (S.law14_awake_is)
(.br (xnot S.law14_awake_o.x0)
(.leaf ⟨S.law14_awake_o.x0⟩)
(.br (xdec ((↑a0_2.length : Int) > 20))
(.leaf ⟨S.law14_awake_o.x0⟩)
(.br (S.ring_May_is a0_0 a0_1 a0_2)
(.br ((S.ring_May_o a0_0 a0_1 a0_2).x0)
(.leaf ⟨S.law14_awake_o.x0⟩)
(.br (S.ring_Add_is a0_0 a0_1 a0_2 a1_0 a1_1 a1_2 a1_3)
(.br (S.ring_Next_is a0_0 a0_1 a0_2)
(.br (S.ring_Ack_is a0_0 a0_1 a0_2 a2)
(.br (S.ring_Back_is a0_0 a0_1 a0_2 a2)
(.br (xnot y0.x3)
(.br (xnot y1.x8)
(.br (xeqI y1.x3 0)
(.br (xeqI (S.ring_Ack_o a0_0 a0_1 a0_2 a2).x3 1)
(.br (xeqI (S.ring_Back_o a0_0 a0_1 a0_2 a2).x3 1)
(.br (S.ring_Same_is y2 y3 y4 a0_0 a0_1 a0_2)
(.br ((S.ring_Same_o y2 y3 y4 a0_0 a0_1 a0_2).x0)
(.br (S.ring_Same_is y5 y6 y7 a0_0 a0_1 a0_2)
(.leaf ⟨(S.ring_Same_o y5 y6 y7 a0_0 a0_1 a0_2).x0⟩)
.fail)
(.leaf ⟨false⟩))
.fail)
(.leaf ⟨false⟩))
(.leaf ⟨false⟩))
(.leaf ⟨false⟩))
(.leaf ⟨false⟩))
(.leaf ⟨false⟩))
.fail)
.fail)
.fail)
.fail))
.fail)))
.fail)
noncomputable def S.law14_RingNone (a0_0 : Int) (a0_1 : Int) (a0_2 : List (Ty .mat)) (a1_0 : Int) (a1_1 : Int) (a1_2 : Int) (a1_3 : Bool) (a2 : Int) : Option S.law14_RingNone_T := (S.law14_RingNone_R a0_0 a0_1 a0_2 a1_0 a1_1 a1_2 a1_3 a2).run
noncomputable def S.law14_RingNone_is (a0_0 : Int) (a0_1 : Int) (a0_2 : List (Ty .mat)) (a1_0 : Int) (a1_1 : Int) (a1_2 : Int) (a1_3 : Bool) (a2 : Int) : Bool := (S.law14_RingNone a0_0 a0_1 a0_2 a1_0 a1_1 a1_2 a1_3 a2).isSome
noncomputable def S.law14_RingNone_o (a0_0 : Int) (a0_1 : Int) (a0_2 : List (Ty .mat)) (a1_0 : Int) (a1_1 : Int) (a1_2 : Int) (a1_3 : Bool) (a2 : Int) : S.law14_RingNone_T := (S.law14_RingNone a0_0 a0_1 a0_2 a1_0 a1_1 a1_2 a1_3 a2).getD default
noncomputable def ret_law14_RingNone (b : Bool) (r : S.law14_RingNone_T) : Ret := ⟨b, none, [(false, [C.d (D.sc (Sc.bool r.x0))])]⟩
noncomputable def g_law14_RingNone : Con
  | [(true, [.sc (.int .i64 a0_0), .sc (.int .i64 a0_1), .sl a0_2n a0_2f .mat a0_2]), (true, [.sc (.int .i64 a1_0), .sc (.int .i64 a1_1), .sc (.int .i64 a1_2), .sc (.bool a1_3)]), (false, [.sc (.int .i64 a2)])] => some (ret_law14_RingNone (S.law14_RingNone_is a0_0 a0_1 a0_2 a1_0 a1_1 a1_2 a1_3 a2) (S.law14_RingNone_o a0_0 a0_1 a0_2 a1_0 a1_1 a1_2 a1_3 a2))
  | _ => none
theorem raw_law14_RingNone (a0_0 : Int) (a0_1 : Int) (a0_2n : Option Bool) (a0_2f : Bool) (a0_2 : List (Ty .mat)) (a1_0 : Int) (a1_1 : Int) (a1_2 : Int) (a1_3 : Bool) (a2 : Int) : evR2 cx_law14_RingNone (hdI cx_law14_RingNone (find []) [] none 0) none Try.f9 9 none [(true, [.sc (.int .i64 a0_0), .sc (.int .i64 a0_1), .sl a0_2n a0_2f .mat a0_2]), (true, [.sc (.int .i64 a1_0), .sc (.int .i64 a1_1), .sc (.int .i64 a1_2), .sc (.bool a1_3)]), (false, [.sc (.int .i64 a2)])] some = (S.law14_RingNone_R a0_0 a0_1 a0_2 a1_0 a1_1 a1_2 a1_3 a2).go (ret_law14_RingNone true) := by kernel_rfl
theorem bs_law14_RingNone : loopsIn Try.f9 [] = [] := by kernel_rfl
theorem law14_RingNone_ok : Stands Try.prog tyTab 9 g_law14_RingNone := by
  refine stands3 (L := find []) (n := 0) (hints := []) (cx_ok rfl) rdy_law14_RingNone ⟨by kernel_rfl, by kernel_rfl, by kernel_rfl⟩ bs_law14_RingNone nilB (fun das r hG hr => ?_)
  unfold g_law14_RingNone at hG
  split at hG
  · rename_i a0_0 a0_1 a0_2n a0_2f a0_2 a1_0 a1_1 a1_2 a1_3 a2
    injection hG with hG; subst hG
    exact ⟨none, true, win default ((raw_law14_RingNone a0_0 a0_1 a0_2n a0_2f a0_2 a1_0 a1_1 a1_2 a1_3 a2).trans (DT.go_run _ _)) hr⟩
  · cases hG
end Go.Eng
