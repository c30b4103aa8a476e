/- Contracts, laid by program. -/
import Derived.Test.YtbjeikmkngcjlaaZG10
set_option maxHeartbeats 2000000
set_option maxRecDepth 10000
set_option linter.unusedVariables false
set_option linter.unusedSimpArgs false
namespace Go.Eng
noncomputable section
open Go Go.Eng Go.Proofs Go.Eng.Tab
abbrev cx_zqck : Cx := mkCx2 tyTab [(115, g_zqas)] [] [] []
theorem rdy_zqck : Ready Try.prog tyTab [(115, g_zqas)] [] [] := ⟨consG2 zqas_ok (noneG2), noneI2, noneF2⟩
structure S.zqck_T where
  x0 : Int
  deriving Inhabited
def S.zqck_R (a0_1 : Int) (a1_1 : Int) : DT S.zqck_T :=
(.br (S.zqas_is a0_1 a1_1)
(.leaf ⟨(S.zqas_o a0_1 a1_1).x0⟩)
.fail)
def S.zqck (a0_1 : Int) (a1_1 : Int) : Option S.zqck_T := (S.zqck_R a0_1 a1_1).run
def S.zqck_is (a0_1 : Int) (a1_1 : Int) : Bool := (S.zqck a0_1 a1_1).isSome
def S.zqck_o (a0_1 : Int) (a1_1 : Int) : S.zqck_T := (S.zqck a0_1 a1_1).getD default
def ret_zqck (b : Bool) (r : S.zqck_T) : Ret := ⟨b, none, [(false, [C.d (.sc (.int .i64 r.x0))])]⟩
def g_zqck : Con
  | [(true, [.sc (.int .i64 a0_0), .sc (.int .i64 a0_1), .sc (.int .i64 a0_2), .sc (.bool a0_3)]), (true, [.sc (.int .i64 a1_0), .sc (.int .i64 a1_1), .sc (.int .i64 a1_2), .sc (.bool a1_3)])] => some (ret_zqck (S.zqck_is a0_1 a1_1) (S.zqck_o a0_1 a1_1))
  | _ => none
theorem raw_zqck (a0_0 : Int) (a0_1 : Int) (a0_2 : Int) (a0_3 : Bool) (a1_0 : Int) (a1_1 : Int) (a1_2 : Int) (a1_3 : Bool) : evR2 cx_zqck (hdI cx_zqck (find []) [] none 0) none Try.f114 114 none [(true, [.sc (.int .i64 a0_0), .sc (.int .i64 a0_1), .sc (.int .i64 a0_2), .sc (.bool a0_3)]), (true, [.sc (.int .i64 a1_0), .sc (.int .i64 a1_1), .sc (.int .i64 a1_2), .sc (.bool a1_3)])] some = (S.zqck_R a0_1 a1_1).go (ret_zqck true) := by kernel_rfl
theorem bs_zqck : loopsIn Try.f114 [] = [] := by kernel_rfl
theorem zqck_ok : Stands Try.prog tyTab 114 g_zqck := by
  refine stands3 (L := find []) (n := 0) (hints := []) (cx_ok rfl) rdy_zqck ⟨by kernel_rfl, by kernel_rfl, by kernel_rfl⟩ bs_zqck nilB (fun das r hG hr => ?_)
  unfold g_zqck at hG
  split at hG
  · rename_i a0_0 a0_1 a0_2 a0_3 a1_0 a1_1 a1_2 a1_3
    injection hG with hG; subst hG
    exact ⟨none, true, win default ((raw_zqck a0_0 a0_1 a0_2 a0_3 a1_0 a1_1 a1_2 a1_3).trans (DT.go_run _ _)) hr⟩
  · cases hG
abbrev cx_zqaa : Cx := mkCx3 tyTab [(114, g_zqck)] [] [(159, 4, { keep := [0, 1, 2, 3, 8, 9], acc := [] }), (159, 1, { keep := [0, 1, 2, 3, 8], acc := [] })] [] [] []
theorem rdy_zqaa : Ready Try.prog tyTab [(114, g_zqck)] [] [] := ⟨consG2 zqck_ok (noneG2), noneI2, noneF2⟩
theorem prs_zqaa : PrsOk Try.prog tyTab [] := noneP
structure S.zqaa_4_V where
  t_9_0 : Int
  h_0 : List (Ty .mat)
def S.zqaa_4_R (t_0_0l : Nat) (qA : Int) (v : S.zqaa_4_V) : DT (Option Nat × S.zqaa_4_V) :=
let y0 : Int := (↑t_0_0l : Int)
let y1 : Bool := xdec (0 ≤ v.t_9_0) && xdec (v.t_9_0 < y0)
let y2 : Nat := 0 + v.t_9_0.toNat
let y3 : Nat := v.h_0.length
let y4 : Bool := xdec (y2 < y3)
let y5 : Int := xwrap IntKind.i64 (v.t_9_0 - 1)
let y6 : Bool := xdec (0 ≤ y5) && xdec (y5 < y0)
let y7 : Nat := 0 + y5.toNat
let y8 : Bool := xdec (y7 < y3)
let y9 : Ty ET.mat := v.h_0.getD y2 (dflt ET.mat)
let y10 : Int := y9.fin
let y11 : Ty ET.mat := v.h_0.getD y7 (dflt ET.mat)
let y12 : Int := y11.fin
let y13 : List (Ty .mat) := v.h_0.set y2 { start := y11.start, fin := y12, agg := y11.agg, bad := y11.bad : Mat }
(.br (xdec (v.t_9_0 > qA))
(.br (y1)
(.br (y4)
(.br (y6)
(.br (y8)
(.br (S.zqck_is y10 y12)
(.br (xdec ((S.zqck_o y10 y12).x0 < 0))
(.br (y6)
(.br (y8)
(.br (y1)
(.br (y4)
(.br (y1)
(.br (y4)
(.br (y6)
(.br (xdec (y7 < y13.length))
(.leaf (none, ⟨y5, y13.set y7 { start := y9.start, fin := y10, agg := y9.agg, bad := y9.bad : Mat }⟩))
.fail)
.fail)
.fail)
.fail)
.fail)
.fail)
.fail)
.fail)
(.leaf (some 0, v)))
.fail)
.fail)
.fail)
.fail)
.fail)
(.leaf (some 0, v)))
def S.zqaa_4_r (t_0_0l : Nat) (qA : Int) (v : S.zqaa_4_V) : Option (Option Nat × S.zqaa_4_V) := (S.zqaa_4_R t_0_0l qA v).run
def S.zqaa_4_j (t_0_0l : Nat) (qA : Int) (v : S.zqaa_4_V) (j : Nat) : Bool := Lp_j (S.zqaa_4_r t_0_0l qA) v j
def S.zqaa_4_v (t_0_0l : Nat) (qA : Int) (v : S.zqaa_4_V) : S.zqaa_4_V := Lp_v (S.zqaa_4_r t_0_0l qA) v
def mk_zqaa_4 (qB : Bool) (t_0_0l : Nat) (qA : Int) (qC : Int) (t_8_0 : Int) (v : S.zqaa_4_V) : St := ⟨[V.v false [C.own 0 ET.mat qB 0 t_0_0l], V.v false [C.d (.sc (.int .i64 qA))], V.v false [C.d (.sc (.int .i64 qC))], V.v false [C.d (D.fn 114 [] [])],
  V.any, V.any, V.any, V.any, V.v false [C.d (.sc (.int .i64 t_8_0))], V.v false [C.d (.sc (.int .i64 v.t_9_0))], V.any, V.any, V.any, V.any, V.any, V.any,
  V.any, V.any, V.any, V.any, V.any, V.any, V.any, V.any, V.any, V.any, V.any, V.any, V.any, V.any, V.any, V.any, V.any, V.any, V.any, V.any, V.any, V.any, V.any, V.any, V.any,
  V.any, V.any, V.any, V.any, V.any, V.any, V.any, V.any, V.any, V.any, V.any, V.any], [some (Blk.arr 81 ET.mat v.h_0), none, none, none, none, none, none, none, none], 1⟩
def ex_zqaa_4 (qB : Bool) (t_0_0l : Nat) (qA : Int) (qC : Int) (t_8_0 : Int) (j : Nat) (v : S.zqaa_4_V) : Ex × St := match j with
  | 0 => (Ex.exit 2, ⟨[V.v false [C.own 0 ET.mat qB 0 t_0_0l], V.v false [C.d (.sc (.int .i64 qA))], V.v false [C.d (.sc (.int .i64 qC))], V.v false [C.d (D.fn 114 [] [])],
  V.any, V.any, V.any, V.any, V.v false [C.d (.sc (.int .i64 t_8_0))], V.any, V.any, V.any, V.any, V.any, V.any, V.any, V.any, V.any, V.any, V.any, V.any, V.any, V.any,
  V.any, V.any, V.any, V.any, V.any, V.any, V.any, V.any, V.any, V.any, V.any, V.any, V.any, V.any, V.any, V.any, V.any, V.any, V.any, V.any, V.any, V.any, V.any, V.any, V.any,
  V.any, V.any, V.any, V.any, V.any], [some (Blk.arr 81 ET.mat v.h_0), none, none, none, none, none, none, none, none, none, none, none, none, none, none, none, none, none, none, none, none, none, none, none, none,
  none], 1⟩)
  | _ => (.ret, ⟨[], [], 0⟩)
def T1_zqaa_4 : V → V → V → V → V → V → Option Blk → Tree
  | V.v false [C.own 0 ET.mat qB 0 t_0_0l], V.v false [C.d (.sc (.int .i64 qA))], V.v false [C.d (.sc (.int .i64 qC))], V.v false [C.d (D.fn 114 [] [])], V.v false [C.d (.sc (.int .i64 t_8_0))], V.v false [C.d (.sc (.int .i64 t_9_0))], some (Blk.arr 81 ET.mat h_0) => exT (fun j => ex_zqaa_4 qB t_0_0l qA qC t_8_0 j (S.zqaa_4_v t_0_0l qA ⟨t_9_0, h_0⟩)) (S.zqaa_4_j t_0_0l qA ⟨t_9_0, h_0⟩) [0]
  | _, _, _, _, _, _, _ => .bad
def T_zqaa_4 (st : St) : Tree := bif okSt 53 9 1 [0] st then T1_zqaa_4 (st.env.getD 0 .any) (st.env.getD 1 .any) (st.env.getD 2 .any) (st.env.getD 3 .any) (st.env.getD 8 .any) (st.env.getD 9 .any) (lk st.heap 0) else .bad
def b_zqaa_4 : Code := loopBy Try.f159 4
theorem rnd_zqaa_4 (qB : Bool) (t_0_0l : Nat) (qA : Int) (qC : Int) (t_8_0 : Int) (v : S.zqaa_4_V) : round2 cx_zqaa (hdI cx_zqaa (find []) [] none 0) 159 b_zqaa_4 [] 9 [0, 1, 2, 3, 8] (mk_zqaa_4 qB t_0_0l qA qC t_8_0 v) = (S.zqaa_4_R t_0_0l qA v).go (roundOut (mk_zqaa_4 qB t_0_0l qA qC t_8_0) (ex_zqaa_4 qB t_0_0l qA qC t_8_0)) := by kernel_rfl
theorem bs_zqaa_4 : loopsOf b_zqaa_4 ++ loopsInl [] ++ loopsRf [] = [] := by kernel_rfl
theorem ci_zqaa_4 (qB : Bool) (t_0_0l : Nat) (qA : Int) (qC : Int) (t_8_0 : Int) : ∀ v j v2, Lp (S.zqaa_4_r t_0_0l qA) v = some (j, v2) → Circles Try.prog cx_zqaa b_zqaa_4 (mk_zqaa_4 qB t_0_0l qA qC t_8_0 v) (ex_zqaa_4 qB t_0_0l qA qC t_8_0 j v2).1 (ex_zqaa_4 qB t_0_0l qA qC t_8_0 j v2).2 :=
  loop_ok3 (L := find []) (n := 0) (hints := [(159, 4, { keep := [0, 1, 2, 3, 8, 9], acc := [] }), (159, 1, { keep := [0, 1, 2, 3, 8], acc := [] })]) (cx_ok rfl) rdy_zqaa prs_zqaa bs_zqaa_4 nilB (fun v => (rnd_zqaa_4 qB t_0_0l qA qC t_8_0 v).trans (DT.go_run _ _)) (by intro j v; unfold ex_zqaa_4; split <;> rfl)
theorem mke_zqaa_4 (qB : Bool) (t_0_0l : Nat) (qA : Int) (qC : Int) (t_8_0 : Int) (v : S.zqaa_4_V) : mk_zqaa_4 qB t_0_0l qA qC t_8_0 v = ⟨envOf 53 [(0, V.v false [C.own 0 ET.mat qB 0 t_0_0l]), (1, V.v false [C.d (.sc (.int .i64 qA))]), (2, V.v false [C.d (.sc (.int .i64 qC))]), (3, V.v false [C.d (D.fn 114 [] [])]), (8, V.v false [C.d (.sc (.int .i64 t_8_0))]), (9, V.v false [C.d (.sc (.int .i64 v.t_9_0))])], heapOf 9 [(0, some (Blk.arr 81 ET.mat v.h_0))], 1⟩ := by kernel_rfl
theorem lo1_zqaa_4 (e0 : V) (e1 : V) (e2 : V) (e3 : V) (e8 : V) (e9 : V) (h0 : Option Blk) e st2 (h : (T1_zqaa_4 e0 e1 e2 e3 e8 e9 h0).eval = some (e, st2)) : Circles Try.prog cx_zqaa b_zqaa_4 ⟨envOf 53 [(0, e0), (1, e1), (2, e2), (3, e3), (8, e8), (9, e9)], heapOf 9 [(0, h0)], 1⟩ e st2 := by
  unfold T1_zqaa_4 at h
  split at h
  · have := loop_tree (mk := mk_zqaa_4 _ _ _ _ _) (ci_zqaa_4 _ _ _ _ _) _ _ e st2 h
    rw [mke_zqaa_4] at this
    exact this
  · cases h
theorem lok_zqaa_4 : LoopOk Try.prog cx_zqaa b_zqaa_4 T_zqaa_4 := by
  intro st e st2 h
  unfold T_zqaa_4 at h
  cases hk : okSt 53 9 1 [0] st with
  | false => rw [hk] at h; cases h
  | true =>
    rw [hk] at h
    exact circles_keep (ks := [0, 1, 2, 3, 8, 9]) hk (lo1_zqaa_4 _ _ _ _ _ _ _ e st2 h)
structure S.zqaa_1_V where
  t_8_0 : Int
  h_0 : List (Ty .mat)
def S.zqaa_1_R (t_0_0l : Nat) (qA : Int) (qC : Int) (v : S.zqaa_1_V) : DT (Option Nat × S.zqaa_1_V) :=
(.br (xdec (v.t_8_0 < qC))
(.br (S.zqaa_4_j t_0_0l qA { t_9_0 := v.t_8_0, h_0 := v.h_0 : S.zqaa_4_V } 0)
(.leaf (none, ⟨xwrap IntKind.i64 (v.t_8_0 + 1), (S.zqaa_4_v t_0_0l qA { t_9_0 := v.t_8_0, h_0 := v.h_0 : S.zqaa_4_V }).h_0⟩))
.fail)
(.leaf (some 0, v)))
def S.zqaa_1_r (t_0_0l : Nat) (qA : Int) (qC : Int) (v : S.zqaa_1_V) : Option (Option Nat × S.zqaa_1_V) := (S.zqaa_1_R t_0_0l qA qC v).run
def S.zqaa_1_j (t_0_0l : Nat) (qA : Int) (qC : Int) (v : S.zqaa_1_V) (j : Nat) : Bool := Lp_j (S.zqaa_1_r t_0_0l qA qC) v j
def S.zqaa_1_v (t_0_0l : Nat) (qA : Int) (qC : Int) (v : S.zqaa_1_V) : S.zqaa_1_V := Lp_v (S.zqaa_1_r t_0_0l qA qC) v
def mk_zqaa_1 (qB : Bool) (t_0_0l : Nat) (qA : Int) (qC : Int) (v : S.zqaa_1_V) : St := ⟨[V.v false [C.own 0 ET.mat qB 0 t_0_0l], V.v false [C.d (.sc (.int .i64 qA))], V.v false [C.d (.sc (.int .i64 qC))], V.v false [C.d (D.fn 114 [] [])],
  V.any, V.any, V.any, V.any, V.v false [C.d (.sc (.int .i64 v.t_8_0))], V.any, V.any, V.any, V.any, V.any, V.any, V.any, V.any, V.any, V.any, V.any, V.any, V.any, V.any,
  V.any, V.any, V.any, V.any, V.any, V.any, V.any, V.any, V.any, V.any, V.any, V.any, V.any, V.any, V.any, V.any, V.any, V.any, V.any, V.any, V.any, V.any, V.any, V.any, V.any,
  V.any, V.any, V.any, V.any, V.any], [some (Blk.arr 81 ET.mat v.h_0), none, none, none], 1⟩
def ex_zqaa_1 (qB : Bool) (t_0_0l : Nat) (qA : Int) (qC : Int) (j : Nat) (v : S.zqaa_1_V) : Ex × St := match j with
  | 0 => (Ex.exit 0, ⟨[V.any, V.any, V.any, V.any, V.any, V.any, V.any, V.any, V.any, V.any, V.any, V.any, V.any, V.any, V.any, V.any, V.any, V.any, V.any, V.any, V.any, V.any, V.any, V.any, V.any,
  V.any, V.any, V.any, V.any, V.any, V.any, V.any, V.any, V.any, V.any, V.any, V.any, V.any, V.any, V.any, V.any, V.any, V.any, V.any, V.any, V.any, V.any, V.any, V.any, V.any,
  V.any, V.any, V.any], [some (Blk.arr 81 ET.mat v.h_0), none, none, none, none, none, none], 1⟩)
  | _ => (.ret, ⟨[], [], 0⟩)
def T1_zqaa_1 : V → V → V → V → V → Option Blk → Tree
  | V.v false [C.own 0 ET.mat qB 0 t_0_0l], V.v false [C.d (.sc (.int .i64 qA))], V.v false [C.d (.sc (.int .i64 qC))], V.v false [C.d (D.fn 114 [] [])], V.v false [C.d (.sc (.int .i64 t_8_0))], some (Blk.arr 81 ET.mat h_0) => exT (fun j => ex_zqaa_1 qB t_0_0l qA qC j (S.zqaa_1_v t_0_0l qA qC ⟨t_8_0, h_0⟩)) (S.zqaa_1_j t_0_0l qA qC ⟨t_8_0, h_0⟩) [0]
  | _, _, _, _, _, _ => .bad
def T_zqaa_1 (st : St) : Tree := bif okSt 53 4 1 [0] st then T1_zqaa_1 (st.env.getD 0 .any) (st.env.getD 1 .any) (st.env.getD 2 .any) (st.env.getD 3 .any) (st.env.getD 8 .any) (lk st.heap 0) else .bad
def b_zqaa_1 : Code := loopBy Try.f159 1
theorem rnd_zqaa_1 (qB : Bool) (t_0_0l : Nat) (qA : Int) (qC : Int) (v : S.zqaa_1_V) : round2 cx_zqaa (hdI cx_zqaa (find [(4, T_zqaa_4)]) [] none 0) 159 b_zqaa_1 [] 4 [] (mk_zqaa_1 qB t_0_0l qA qC v) = (S.zqaa_1_R t_0_0l qA qC v).go (roundOut (mk_zqaa_1 qB t_0_0l qA qC) (ex_zqaa_1 qB t_0_0l qA qC)) := by kernel_rfl
theorem bs_zqaa_1 : loopsOf b_zqaa_1 ++ loopsInl [] ++ loopsRf [] = [b_zqaa_4] := by kernel_rfl
theorem ci_zqaa_1 (qB : Bool) (t_0_0l : Nat) (qA : Int) (qC : Int) : ∀ v j v2, Lp (S.zqaa_1_r t_0_0l qA qC) v = some (j, v2) → Circles Try.prog cx_zqaa b_zqaa_1 (mk_zqaa_1 qB t_0_0l qA qC v) (ex_zqaa_1 qB t_0_0l qA qC j v2).1 (ex_zqaa_1 qB t_0_0l qA qC j v2).2 :=
  loop_ok3 (L := find [(4, T_zqaa_4)]) (n := 0) (hints := [(159, 4, { keep := [0, 1, 2, 3, 8, 9], acc := [] }), (159, 1, { keep := [0, 1, 2, 3, 8], acc := [] })]) (cx_ok rfl) rdy_zqaa prs_zqaa bs_zqaa_1 (consB (fun T h => by have e : T_zqaa_4 = T := Option.some.inj (show some T_zqaa_4 = some T from h); exact e ▸ lok_zqaa_4) nilB) (fun v => (rnd_zqaa_1 qB t_0_0l qA qC v).trans (DT.go_run _ _)) (by intro j v; unfold ex_zqaa_1; split <;> rfl)
theorem mke_zqaa_1 (qB : Bool) (t_0_0l : Nat) (qA : Int) (qC : Int) (v : S.zqaa_1_V) : mk_zqaa_1 qB t_0_0l qA qC v = ⟨envOf 53 [(0, V.v false [C.own 0 ET.mat qB 0 t_0_0l]), (1, V.v false [C.d (.sc (.int .i64 qA))]), (2, V.v false [C.d (.sc (.int .i64 qC))]), (3, V.v false [C.d (D.fn 114 [] [])]), (8, V.v false [C.d (.sc (.int .i64 v.t_8_0))])], heapOf 4 [(0, some (Blk.arr 81 ET.mat v.h_0))], 1⟩ := by kernel_rfl
theorem lo1_zqaa_1 (e0 : V) (e1 : V) (e2 : V) (e3 : V) (e8 : V) (h0 : Option Blk) e st2 (h : (T1_zqaa_1 e0 e1 e2 e3 e8 h0).eval = some (e, st2)) : Circles Try.prog cx_zqaa b_zqaa_1 ⟨envOf 53 [(0, e0), (1, e1), (2, e2), (3, e3), (8, e8)], heapOf 4 [(0, h0)], 1⟩ e st2 := by
  unfold T1_zqaa_1 at h
  split at h
  · have := loop_tree (mk := mk_zqaa_1 _ _ _ _) (ci_zqaa_1 _ _ _ _) _ _ e st2 h
    rw [mke_zqaa_1] at this
    exact this
  · cases h
theorem lok_zqaa_1 : LoopOk Try.prog cx_zqaa b_zqaa_1 T_zqaa_1 := by
  intro st e st2 h
  unfold T_zqaa_1 at h
  cases hk : okSt 53 4 1 [0] st with
  | false => rw [hk] at h; cases h
  | true =>
    rw [hk] at h
    exact circles_keep (ks := [0, 1, 2, 3, 8]) hk (lo1_zqaa_1 _ _ _ _ _ _ e st2 h)
structure S.zqaa_T where
  x0 : List (Ty .mat)
  deriving Inhabited
def S.zqaa_R (a0 : List (Ty .mat)) (a1 : Int) (a2 : Int) : DT S.zqaa_T :=
let y0 : Nat := a0.length
let y1 : S.zqaa_1_V := { t_8_0 := xwrap IntKind.i64 (a1 + 1), h_0 := a0 : S.zqaa_1_V }
(.br (S.zqaa_1_j y0 a1 a2 y1 0)
(.leaf ⟨(S.zqaa_1_v y0 a1 a2 y1).h_0⟩)
.fail)
def S.zqaa (a0 : List (Ty .mat)) (a1 : Int) (a2 : Int) : Option S.zqaa_T := (S.zqaa_R a0 a1 a2).run
def S.zqaa_is (a0 : List (Ty .mat)) (a1 : Int) (a2 : Int) : Bool := (S.zqaa a0 a1 a2).isSome
def S.zqaa_o (a0 : List (Ty .mat)) (a1 : Int) (a2 : Int) : S.zqaa_T := (S.zqaa a0 a1 a2).getD default
def ret_zqaa (b : Bool) (r : S.zqaa_T) : Ret := ⟨b, some (81, (⟨ET.mat, r.x0⟩ : (t : ET) × List (Ty t))), []⟩
def si_zqaa (a0f : Bool) (a0 : List (Ty .mat)) : List DArg → Bool
  | [(false, [.sc (.int .i64 a1)]), (false, [.sc (.int .i64 a2)]), (false, [.fn 114 [] []])] => S.zqaa_is a0 a1 a2
  | _ => false
def so_zqaa (a0f : Bool) (a0 : List (Ty .mat)) : List DArg → List (Ty .mat)
  | [(false, [.sc (.int .i64 a1)]), (false, [.sc (.int .i64 a2)]), (false, [.fn 114 [] []])] => (S.zqaa_o a0 a1 a2).x0
  | _ => a0
def p_zqaa : Proc := rowProc 81 .mat si_zqaa so_zqaa
theorem raw_zqaa (a0f : Bool) (a0 : List (Ty .mat)) (a1 : Int) (a2 : Int) : evP cx_zqaa (hdI cx_zqaa (find [(4, T_zqaa_4), (1, T_zqaa_1)]) [] none 0) none Try.f159 159 (some 81) [(false, [.sl none a0f .mat a0]), (false, [.sc (.int .i64 a1)]), (false, [.sc (.int .i64 a2)]), (false, [.fn 114 [] []])] some = (S.zqaa_R a0 a1 a2).go (ret_zqaa true) := by kernel_rfl
theorem bs_zqaa : loopsIn Try.f159 [] = [b_zqaa_1] := by kernel_rfl
theorem zqaa_ok : StandsP Try.prog tyTab 159 p_zqaa := by
  refine standsP (L := find [(4, T_zqaa_4), (1, T_zqaa_1)]) (n := 0) (hints := [(159, 4, { keep := [0, 1, 2, 3, 8, 9], acc := [] }), (159, 1, { keep := [0, 1, 2, 3, 8], acc := [] })]) (cx_ok rfl) rdy_zqaa prs_zqaa ⟨by kernel_rfl, by kernel_rfl, by kernel_rfl⟩ bs_zqaa (consB (fun T h => by have e : T_zqaa_1 = T := Option.some.inj (show some T_zqaa_1 = some T from h); exact e ▸ lok_zqaa_1) nilB) (by kernel_rfl) rfl (fun a0f a0 ds h => ?_)
  unfold si_zqaa at h
  split at h
  · rename_i a1 a2
    exact ⟨true, win default ((raw_zqaa a0f a0 a1 a2).trans (DT.go_run _ _)) h⟩
  · cases h
abbrev cx_zqaf : Cx := mkCx3 tyTab [(114, g_zqck)] [] [(141, 9, { keep := [0, 1, 2, 6, 7, 8], acc := [] }), (141, 7, { keep := [0, 1, 2, 6], acc := [] }), (141, 2, { keep := [0, 1, 2, 6, 7, 8], acc := [] })] [] [] [(159, (Try.f159, p_zqaa))]
theorem rdy_zqaf : Ready Try.prog tyTab [(114, g_zqck)] [] [] := ⟨consG2 zqck_ok (noneG2), noneI2, noneF2⟩
theorem prs_zqaf : PrsOk Try.prog tyTab [(159, (Try.f159, p_zqaa))] := consP ⟨by kernel_rfl, by kernel_rfl, by kernel_rfl⟩ zqaa_ok (noneP)
structure S.zqaf_2_V where
  t_7_0 : Int
  t_8_0 : Int
  h_0 : List (Ty .mat)
def S.zqaf_2_R (t_0_0l : Nat) (qA : Int) (t_6_0 : Int) (v : S.zqaf_2_V) : DT (Option Nat × S.zqaf_2_V) :=
(.br (xdec (v.t_8_0 ≤ qA))
(.br (xdec (t_0_0l = v.h_0.length) && S.zqaa_is v.h_0 v.t_7_0 v.t_8_0)
(.leaf (none, ⟨v.t_8_0, xwrap IntKind.i64 (v.t_8_0 + t_6_0), (S.zqaa_o v.h_0 v.t_7_0 v.t_8_0).x0⟩))
.fail)
(.leaf (some 0, v)))
def S.zqaf_2_r (t_0_0l : Nat) (qA : Int) (t_6_0 : Int) (v : S.zqaf_2_V) : Option (Option Nat × S.zqaf_2_V) := (S.zqaf_2_R t_0_0l qA t_6_0 v).run
def S.zqaf_2_j (t_0_0l : Nat) (qA : Int) (t_6_0 : Int) (v : S.zqaf_2_V) (j : Nat) : Bool := Lp_j (S.zqaf_2_r t_0_0l qA t_6_0) v j
def S.zqaf_2_v (t_0_0l : Nat) (qA : Int) (t_6_0 : Int) (v : S.zqaf_2_V) : S.zqaf_2_V := Lp_v (S.zqaf_2_r t_0_0l qA t_6_0) v
def mk_zqaf_2 (qB : Bool) (t_0_0l : Nat) (qA : Int) (t_6_0 : Int) (v : S.zqaf_2_V) : St := ⟨[V.v false [C.own 0 ET.mat qB 0 t_0_0l], V.v false [C.d (.sc (.int .i64 qA))], V.v false [C.d (D.fn 114 [] [])], V.any, V.any, V.any,
  V.v false [C.d (.sc (.int .i64 t_6_0))], V.v false [C.d (.sc (.int .i64 v.t_7_0))], V.v false [C.d (.sc (.int .i64 v.t_8_0))], V.any, V.any, V.any,
  V.any, V.any, V.any, V.any, V.any, V.any, V.any, V.any, V.any, V.any, V.any, V.any, V.any, V.any, V.any, V.any, V.any, V.any, V.any, V.any, V.any, V.any, V.any, V.any, V.any,
  V.any, V.any, V.any, V.any, V.any, V.any, V.any, V.any, V.any, V.any, V.any, V.any, V.any, V.any, V.any, V.any, V.any, V.any, V.any, V.any, V.any, V.any, V.any, V.any, V.any,
  V.any], [some (Blk.arr 81 ET.mat v.h_0), none, none, none, none], 1⟩
def ex_zqaf_2 (qB : Bool) (t_0_0l : Nat) (qA : Int) (t_6_0 : Int) (j : Nat) (v : S.zqaf_2_V) : Ex × St := match j with
  | 0 => (Ex.exit 0, ⟨[V.v false [C.own 0 ET.mat qB 0 t_0_0l], V.v false [C.d (.sc (.int .i64 qA))], V.v false [C.d (D.fn 114 [] [])], V.any, V.any, V.any,
  V.v false [C.d (.sc (.int .i64 t_6_0))], V.v false [C.d (.sc (.int .i64 v.t_7_0))], V.any, V.any, V.any, V.any, V.any, V.any, V.any, V.any, V.any, V.any,
  V.any, V.any, V.any, V.any, V.any, V.any, V.any, V.any, V.any, V.any, V.any, V.any, V.any, V.any, V.any, V.any, V.any, V.any, V.any, V.any, V.any, V.any, V.any, V.any, V.any,
  V.any, V.any, V.any, V.any, V.any, V.any, V.any, V.any, V.any, V.any, V.any, V.any, V.any, V.any, V.any, V.any, V.any, V.any, V.any, V.any], [some (Blk.arr 81 ET.mat v.h_0), none, none, none, none, none, none, none], 1⟩)
  | _ => (.ret, ⟨[], [], 0⟩)
def T1_zqaf_2 : V → V → V → V → V → V → Option Blk → Tree
  | V.v false [C.own 0 ET.mat qB 0 t_0_0l], V.v false [C.d (.sc (.int .i64 qA))], V.v false [C.d (D.fn 114 [] [])], V.v false [C.d (.sc (.int .i64 t_6_0))], V.v false [C.d (.sc (.int .i64 t_7_0))], V.v false [C.d (.sc (.int .i64 t_8_0))], some (Blk.arr 81 ET.mat h_0) => exT (fun j => ex_zqaf_2 qB t_0_0l qA t_6_0 j (S.zqaf_2_v t_0_0l qA t_6_0 ⟨t_7_0, t_8_0, h_0⟩)) (S.zqaf_2_j t_0_0l qA t_6_0 ⟨t_7_0, t_8_0, h_0⟩) [0]
  | _, _, _, _, _, _, _ => .bad
def T_zqaf_2 (st : St) : Tree := bif okSt 63 5 1 [0] st then T1_zqaf_2 (st.env.getD 0 .any) (st.env.getD 1 .any) (st.env.getD 2 .any) (st.env.getD 6 .any) (st.env.getD 7 .any) (st.env.getD 8 .any) (lk st.heap 0) else .bad
def b_zqaf_2 : Code := loopBy Try.f141 2
theorem rnd_zqaf_2 (qB : Bool) (t_0_0l : Nat) (qA : Int) (t_6_0 : Int) (v : S.zqaf_2_V) : round2 cx_zqaf (hdI cx_zqaf (find []) [] none 3) 141 b_zqaf_2 [] 5 [0, 1, 2, 6, 7] (mk_zqaf_2 qB t_0_0l qA t_6_0 v) = (S.zqaf_2_R t_0_0l qA t_6_0 v).go (roundOut (mk_zqaf_2 qB t_0_0l qA t_6_0) (ex_zqaf_2 qB t_0_0l qA t_6_0)) := by kernel_rfl
theorem bs_zqaf_2 : loopsOf b_zqaf_2 ++ loopsInl [] ++ loopsRf [] = [] := by kernel_rfl
theorem ci_zqaf_2 (qB : Bool) (t_0_0l : Nat) (qA : Int) (t_6_0 : Int) : ∀ v j v2, Lp (S.zqaf_2_r t_0_0l qA t_6_0) v = some (j, v2) → Circles Try.prog cx_zqaf b_zqaf_2 (mk_zqaf_2 qB t_0_0l qA t_6_0 v) (ex_zqaf_2 qB t_0_0l qA t_6_0 j v2).1 (ex_zqaf_2 qB t_0_0l qA t_6_0 j v2).2 :=
  loop_ok3 (L := find []) (n := 3) (hints := [(141, 9, { keep := [0, 1, 2, 6, 7, 8], acc := [] }), (141, 7, { keep := [0, 1, 2, 6], acc := [] }), (141, 2, { keep := [0, 1, 2, 6, 7, 8], acc := [] })]) (cx_ok rfl) rdy_zqaf prs_zqaf bs_zqaf_2 nilB (fun v => (rnd_zqaf_2 qB t_0_0l qA t_6_0 v).trans (DT.go_run _ _)) (by intro j v; unfold ex_zqaf_2; split <;> rfl)
theorem mke_zqaf_2 (qB : Bool) (t_0_0l : Nat) (qA : Int) (t_6_0 : Int) (v : S.zqaf_2_V) : mk_zqaf_2 qB t_0_0l qA t_6_0 v = ⟨envOf 63 [(0, V.v false [C.own 0 ET.mat qB 0 t_0_0l]), (1, V.v false [C.d (.sc (.int .i64 qA))]), (2, V.v false [C.d (D.fn 114 [] [])]), (6, V.v false [C.d (.sc (.int .i64 t_6_0))]), (7, V.v false [C.d (.sc (.int .i64 v.t_7_0))]), (8, V.v false [C.d (.sc (.int .i64 v.t_8_0))])], heapOf 5 [(0, some (Blk.arr 81 ET.mat v.h_0))], 1⟩ := by kernel_rfl
theorem lo1_zqaf_2 (e0 : V) (e1 : V) (e2 : V) (e6 : V) (e7 : V) (e8 : V) (h0 : Option Blk) e st2 (h : (T1_zqaf_2 e0 e1 e2 e6 e7 e8 h0).eval = some (e, st2)) : Circles Try.prog cx_zqaf b_zqaf_2 ⟨envOf 63 [(0, e0), (1, e1), (2, e2), (6, e6), (7, e7), (8, e8)], heapOf 5 [(0, h0)], 1⟩ e st2 := by
  unfold T1_zqaf_2 at h
  split at h
  · have := loop_tree (mk := mk_zqaf_2 _ _ _ _) (ci_zqaf_2 _ _ _ _) _ _ e st2 h
    rw [mke_zqaf_2] at this
    exact this
  · cases h
theorem lok_zqaf_2 : LoopOk Try.prog cx_zqaf b_zqaf_2 T_zqaf_2 := by
  intro st e st2 h
  unfold T_zqaf_2 at h
  cases hk : okSt 63 5 1 [0] st with
  | false => rw [hk] at h; cases h
  | true =>
    rw [hk] at h
    exact circles_keep (ks := [0, 1, 2, 6, 7, 8]) hk (lo1_zqaf_2 _ _ _ _ _ _ _ e st2 h)
structure S.zqaf_9_V where
def S.zqaf_9_R (qA : Int) (t_8_0 : Int) (v : S.zqaf_9_V) : DT (Option Nat × S.zqaf_9_V) :=
(.br (xdec (t_8_0 ≤ qA))
.fail
(.leaf (some 0, v)))
def S.zqaf_9_r (qA : Int) (t_8_0 : Int) (v : S.zqaf_9_V) : Option (Option Nat × S.zqaf_9_V) := (S.zqaf_9_R qA t_8_0 v).run
def S.zqaf_9_j (qA : Int) (t_8_0 : Int) (v : S.zqaf_9_V) (j : Nat) : Bool := Lp_j (S.zqaf_9_r qA t_8_0) v j
def S.zqaf_9_v (qA : Int) (t_8_0 : Int) (v : S.zqaf_9_V) : S.zqaf_9_V := Lp_v (S.zqaf_9_r qA t_8_0) v
def mk_zqaf_9 (qB : Bool) (t_0_0l : Nat) (qA : Int) (t_6_0 : Int) (t_7_0 : Int) (t_8_0 : Int) (h_0 : List (Ty .mat)) (v : S.zqaf_9_V) : St := ⟨[V.v false [C.own 0 ET.mat qB 0 t_0_0l], V.v false [C.d (.sc (.int .i64 qA))], V.v false [C.d (D.fn 114 [] [])], V.any, V.any, V.any,
  V.v false [C.d (.sc (.int .i64 t_6_0))], V.v false [C.d (.sc (.int .i64 t_7_0))], V.v false [C.d (.sc (.int .i64 t_8_0))], V.any, V.any, V.any,
  V.any, V.any, V.any, V.any, V.any, V.any, V.any, V.any, V.any, V.any, V.any, V.any, V.any, V.any, V.any, V.any, V.any, V.any, V.any, V.any, V.any, V.any, V.any, V.any, V.any,
  V.any, V.any, V.any, V.any, V.any, V.any, V.any, V.any, V.any, V.any, V.any, V.any, V.any, V.any, V.any, V.any, V.any, V.any, V.any, V.any, V.any, V.any, V.any, V.any, V.any,
  V.any], [some (Blk.arr 81 ET.mat h_0), none, none, none, none, none, none, none, none, none, none, none, none, none, none, none, none, none, none, none], 1⟩
def ex_zqaf_9 (qB : Bool) (t_0_0l : Nat) (qA : Int) (t_6_0 : Int) (t_7_0 : Int) (t_8_0 : Int) (h_0 : List (Ty .mat)) (j : Nat) (v : S.zqaf_9_V) : Ex × St := match j with
  | 0 => (Ex.exit 4, ⟨[V.v false [C.own 0 ET.mat qB 0 t_0_0l], V.v false [C.d (.sc (.int .i64 qA))], V.v false [C.d (D.fn 114 [] [])], V.any, V.any, V.any,
  V.v false [C.d (.sc (.int .i64 t_6_0))], V.v false [C.d (.sc (.int .i64 t_7_0))], V.any, V.any, V.any, V.any, V.any, V.any, V.any, V.any, V.any, V.any, V.any,
  V.any, V.any, V.any, V.any, V.any, V.any, V.any, V.any, V.any, V.any, V.any, V.any, V.any, V.any, V.any, V.any, V.any, V.any, V.any, V.any, V.any, V.any, V.any, V.any, V.any,
  V.any, V.any, V.any, V.any, V.any, V.any, V.any, V.any, V.any, V.any, V.any, V.any, V.any, V.any, V.any, V.any, V.any, V.any, V.any], [some (Blk.arr 81 ET.mat h_0), none, none, none, none, none, none, none, none, none, none, none, none, none, none, none, none, none, none, none, none, none, none], 1⟩)
  | _ => (.ret, ⟨[], [], 0⟩)
def T1_zqaf_9 : V → V → V → V → V → V → Option Blk → Tree
  | V.v false [C.own 0 ET.mat qB 0 t_0_0l], V.v false [C.d (.sc (.int .i64 qA))], V.v false [C.d (D.fn 114 [] [])], V.v false [C.d (.sc (.int .i64 t_6_0))], V.v false [C.d (.sc (.int .i64 t_7_0))], V.v false [C.d (.sc (.int .i64 t_8_0))], some (Blk.arr 81 ET.mat h_0) => exT (fun j => ex_zqaf_9 qB t_0_0l qA t_6_0 t_7_0 t_8_0 h_0 j (S.zqaf_9_v qA t_8_0 ⟨⟩)) (S.zqaf_9_j qA t_8_0 ⟨⟩) [0]
  | _, _, _, _, _, _, _ => .bad
def T_zqaf_9 (st : St) : Tree := bif okSt 63 20 1 [0] st then T1_zqaf_9 (st.env.getD 0 .any) (st.env.getD 1 .any) (st.env.getD 2 .any) (st.env.getD 6 .any) (st.env.getD 7 .any) (st.env.getD 8 .any) (lk st.heap 0) else .bad
def b_zqaf_9 : Code := loopBy Try.f141 9
theorem rnd_zqaf_9 (qB : Bool) (t_0_0l : Nat) (qA : Int) (t_6_0 : Int) (t_7_0 : Int) (t_8_0 : Int) (h_0 : List (Ty .mat)) (v : S.zqaf_9_V) : round2 cx_zqaf (hdI cx_zqaf (find [(2, T_zqaf_2)]) [] none 3) 141 b_zqaf_9 [] 20 [0, 1, 2, 6, 7] (mk_zqaf_9 qB t_0_0l qA t_6_0 t_7_0 t_8_0 h_0 v) = (S.zqaf_9_R qA t_8_0 v).go (roundOut (mk_zqaf_9 qB t_0_0l qA t_6_0 t_7_0 t_8_0 h_0) (ex_zqaf_9 qB t_0_0l qA t_6_0 t_7_0 t_8_0 h_0)) := by kernel_rfl
theorem bs_zqaf_9 : loopsOf b_zqaf_9 ++ loopsInl [] ++ loopsRf [] = [] := by kernel_rfl
theorem ci_zqaf_9 (qB : Bool) (t_0_0l : Nat) (qA : Int) (t_6_0 : Int) (t_7_0 : Int) (t_8_0 : Int) (h_0 : List (Ty .mat)) : ∀ v j v2, Lp (S.zqaf_9_r qA t_8_0) v = some (j, v2) → Circles Try.prog cx_zqaf b_zqaf_9 (mk_zqaf_9 qB t_0_0l qA t_6_0 t_7_0 t_8_0 h_0 v) (ex_zqaf_9 qB t_0_0l qA t_6_0 t_7_0 t_8_0 h_0 j v2).1 (ex_zqaf_9 qB t_0_0l qA t_6_0 t_7_0 t_8_0 h_0 j v2).2 :=
  loop_ok3 (L := find [(2, T_zqaf_2)]) (n := 3) (hints := [(141, 9, { keep := [0, 1, 2, 6, 7, 8], acc := [] }), (141, 7, { keep := [0, 1, 2, 6], acc := [] }), (141, 2, { keep := [0, 1, 2, 6, 7, 8], acc := [] })]) (cx_ok rfl) rdy_zqaf prs_zqaf bs_zqaf_9 nilB (fun v => (rnd_zqaf_9 qB t_0_0l qA t_6_0 t_7_0 t_8_0 h_0 v).trans (DT.go_run _ _)) (by intro j v; unfold ex_zqaf_9; split <;> rfl)
theorem mke_zqaf_9 (qB : Bool) (t_0_0l : Nat) (qA : Int) (t_6_0 : Int) (t_7_0 : Int) (t_8_0 : Int) (h_0 : List (Ty .mat)) (v : S.zqaf_9_V) : mk_zqaf_9 qB t_0_0l qA t_6_0 t_7_0 t_8_0 h_0 v = ⟨envOf 63 [(0, V.v false [C.own 0 ET.mat qB 0 t_0_0l]), (1, V.v false [C.d (.sc (.int .i64 qA))]), (2, V.v false [C.d (D.fn 114 [] [])]), (6, V.v false [C.d (.sc (.int .i64 t_6_0))]), (7, V.v false [C.d (.sc (.int .i64 t_7_0))]), (8, V.v false [C.d (.sc (.int .i64 t_8_0))])], heapOf 20 [(0, some (Blk.arr 81 ET.mat h_0))], 1⟩ := by kernel_rfl
theorem lo1_zqaf_9 (e0 : V) (e1 : V) (e2 : V) (e6 : V) (e7 : V) (e8 : V) (h0 : Option Blk) e st2 (h : (T1_zqaf_9 e0 e1 e2 e6 e7 e8 h0).eval = some (e, st2)) : Circles Try.prog cx_zqaf b_zqaf_9 ⟨envOf 63 [(0, e0), (1, e1), (2, e2), (6, e6), (7, e7), (8, e8)], heapOf 20 [(0, h0)], 1⟩ e st2 := by
  unfold T1_zqaf_9 at h
  split at h
  · have := loop_tree (mk := mk_zqaf_9 _ _ _ _ _ _ _) (ci_zqaf_9 _ _ _ _ _ _ _) _ _ e st2 h
    rw [mke_zqaf_9] at this
    exact this
  · cases h
theorem lok_zqaf_9 : LoopOk Try.prog cx_zqaf b_zqaf_9 T_zqaf_9 := by
  intro st e st2 h
  unfold T_zqaf_9 at h
  cases hk : okSt 63 20 1 [0] st with
  | false => rw [hk] at h; cases h
  | true =>
    rw [hk] at h
    exact circles_keep (ks := [0, 1, 2, 6, 7, 8]) hk (lo1_zqaf_9 _ _ _ _ _ _ _ e st2 h)
structure S.zqaf_7_V where
  t_6_0 : Int
def S.zqaf_7_R (qA : Int) (v : S.zqaf_7_V) : DT (Option Nat × S.zqaf_7_V) :=
(.br (xdec (v.t_6_0 < qA))
(.br (S.zqaf_9_j qA (xwrap IntKind.i64 (2 * v.t_6_0)) { : S.zqaf_9_V } 0)
(.br (xdec (xwrap IntKind.i64 (0 + v.t_6_0) < qA))
.fail
(.leaf (none, ⟨xwrap IntKind.i64 (v.t_6_0 * 2)⟩)))
.fail)
(.leaf (some 0, v)))
def S.zqaf_7_r (qA : Int) (v : S.zqaf_7_V) : Option (Option Nat × S.zqaf_7_V) := (S.zqaf_7_R qA v).run
def S.zqaf_7_j (qA : Int) (v : S.zqaf_7_V) (j : Nat) : Bool := Lp_j (S.zqaf_7_r qA) v j
def S.zqaf_7_v (qA : Int) (v : S.zqaf_7_V) : S.zqaf_7_V := Lp_v (S.zqaf_7_r qA) v
def mk_zqaf_7 (qB : Bool) (t_0_0l : Nat) (qA : Int) (h_0 : List (Ty .mat)) (v : S.zqaf_7_V) : St := ⟨[V.v false [C.own 0 ET.mat qB 0 t_0_0l], V.v false [C.d (.sc (.int .i64 qA))], V.v false [C.d (D.fn 114 [] [])], V.any, V.any, V.any,
  V.v false [C.d (.sc (.int .i64 v.t_6_0))], V.any, V.any, V.any, V.any, V.any, V.any, V.any, V.any, V.any, V.any, V.any, V.any, V.any, V.any, V.any, V.any, V.any, V.any,
  V.any, V.any, V.any, V.any, V.any, V.any, V.any, V.any, V.any, V.any, V.any, V.any, V.any, V.any, V.any, V.any, V.any, V.any, V.any, V.any, V.any, V.any, V.any, V.any, V.any,
  V.any, V.any, V.any, V.any, V.any, V.any, V.any, V.any, V.any, V.any, V.any, V.any, V.any], [some (Blk.arr 81 ET.mat h_0), none, none, none, none, none, none, none, none, none, none, none, none], 1⟩
def ex_zqaf_7 (qB : Bool) (t_0_0l : Nat) (qA : Int) (h_0 : List (Ty .mat)) (j : Nat) (v : S.zqaf_7_V) : Ex × St := match j with
  | 0 => (Ex.exit 2, ⟨[V.any, V.any, V.any, V.any, V.any, V.any, V.any, V.any, V.any, V.any, V.any, V.any, V.any, V.any, V.any, V.any, V.any, V.any, V.any, V.any, V.any, V.any, V.any, V.any, V.any,
  V.any, V.any, V.any, V.any, V.any, V.any, V.any, V.any, V.any, V.any, V.any, V.any, V.any, V.any, V.any, V.any, V.any, V.any, V.any, V.any, V.any, V.any, V.any, V.any, V.any,
  V.any, V.any, V.any, V.any, V.any, V.any, V.any, V.any, V.any, V.any, V.any, V.any, V.any], [some (Blk.arr 81 ET.mat h_0), none, none, none, none, none, none, none, none, none, none, none, none, none, none, none], 1⟩)
  | _ => (.ret, ⟨[], [], 0⟩)
def T1_zqaf_7 : V → V → V → V → Option Blk → Tree
  | V.v false [C.own 0 ET.mat qB 0 t_0_0l], V.v false [C.d (.sc (.int .i64 qA))], V.v false [C.d (D.fn 114 [] [])], V.v false [C.d (.sc (.int .i64 t_6_0))], some (Blk.arr 81 ET.mat h_0) => exT (fun j => ex_zqaf_7 qB t_0_0l qA h_0 j (S.zqaf_7_v qA ⟨t_6_0⟩)) (S.zqaf_7_j qA ⟨t_6_0⟩) [0]
  | _, _, _, _, _ => .bad
def T_zqaf_7 (st : St) : Tree := bif okSt 63 13 1 [0] st then T1_zqaf_7 (st.env.getD 0 .any) (st.env.getD 1 .any) (st.env.getD 2 .any) (st.env.getD 6 .any) (lk st.heap 0) else .bad
def b_zqaf_7 : Code := loopBy Try.f141 7
theorem rnd_zqaf_7 (qB : Bool) (t_0_0l : Nat) (qA : Int) (h_0 : List (Ty .mat)) (v : S.zqaf_7_V) : round2 cx_zqaf (hdI cx_zqaf (find [(2, T_zqaf_2), (9, T_zqaf_9)]) [] none 3) 141 b_zqaf_7 [] 13 [] (mk_zqaf_7 qB t_0_0l qA h_0 v) = (S.zqaf_7_R qA v).go (roundOut (mk_zqaf_7 qB t_0_0l qA h_0) (ex_zqaf_7 qB t_0_0l qA h_0)) := by kernel_rfl
theorem bs_zqaf_7 : loopsOf b_zqaf_7 ++ loopsInl [] ++ loopsRf [] = [b_zqaf_9] := by kernel_rfl
theorem ci_zqaf_7 (qB : Bool) (t_0_0l : Nat) (qA : Int) (h_0 : List (Ty .mat)) : ∀ v j v2, Lp (S.zqaf_7_r qA) v = some (j, v2) → Circles Try.prog cx_zqaf b_zqaf_7 (mk_zqaf_7 qB t_0_0l qA h_0 v) (ex_zqaf_7 qB t_0_0l qA h_0 j v2).1 (ex_zqaf_7 qB t_0_0l qA h_0 j v2).2 :=
  loop_ok3 (L := find [(2, T_zqaf_2), (9, T_zqaf_9)]) (n := 3) (hints := [(141, 9, { keep := [0, 1, 2, 6, 7, 8], acc := [] }), (141, 7, { keep := [0, 1, 2, 6], acc := [] }), (141, 2, { keep := [0, 1, 2, 6, 7, 8], acc := [] })]) (cx_ok rfl) rdy_zqaf prs_zqaf bs_zqaf_7 (consB (fun T h => by have e : T_zqaf_9 = T := Option.some.inj (show some T_zqaf_9 = some T from h); exact e ▸ lok_zqaf_9) nilB) (fun v => (rnd_zqaf_7 qB t_0_0l qA h_0 v).trans (DT.go_run _ _)) (by intro j v; unfold ex_zqaf_7; split <;> rfl)
theorem mke_zqaf_7 (qB : Bool) (t_0_0l : Nat) (qA : Int) (h_0 : List (Ty .mat)) (v : S.zqaf_7_V) : mk_zqaf_7 qB t_0_0l qA h_0 v = ⟨envOf 63 [(0, V.v false [C.own 0 ET.mat qB 0 t_0_0l]), (1, V.v false [C.d (.sc (.int .i64 qA))]), (2, V.v false [C.d (D.fn 114 [] [])]), (6, V.v false [C.d (.sc (.int .i64 v.t_6_0))])], heapOf 13 [(0, some (Blk.arr 81 ET.mat h_0))], 1⟩ := by kernel_rfl
theorem lo1_zqaf_7 (e0 : V) (e1 : V) (e2 : V) (e6 : V) (h0 : Option Blk) e st2 (h : (T1_zqaf_7 e0 e1 e2 e6 h0).eval = some (e, st2)) : Circles Try.prog cx_zqaf b_zqaf_7 ⟨envOf 63 [(0, e0), (1, e1), (2, e2), (6, e6)], heapOf 13 [(0, h0)], 1⟩ e st2 := by
  unfold T1_zqaf_7 at h
  split at h
  · have := loop_tree (mk := mk_zqaf_7 _ _ _ _) (ci_zqaf_7 _ _ _ _) _ _ e st2 h
    rw [mke_zqaf_7] at this
    exact this
  · cases h
theorem lok_zqaf_7 : LoopOk Try.prog cx_zqaf b_zqaf_7 T_zqaf_7 := by
  intro st e st2 h
  unfold T_zqaf_7 at h
  cases hk : okSt 63 13 1 [0] st with
  | false => rw [hk] at h; cases h
  | true =>
    rw [hk] at h
    exact circles_keep (ks := [0, 1, 2, 6]) hk (lo1_zqaf_7 _ _ _ _ _ e st2 h)
structure S.zqaf_T where
  x0 : List (Ty .mat)
  deriving Inhabited
def S.zqaf_R (a0 : List (Ty .mat)) (a1 : Int) : DT S.zqaf_T :=
let y0 : Nat := a0.length
let y1 : S.zqaf_2_V := { t_7_0 := 0, t_8_0 := 20, h_0 := a0 : S.zqaf_2_V }
let y2 : S.zqaf_2_V := S.zqaf_2_v y0 a1 20 y1
let y3 : List (Ty .mat) := y2.h_0
let y4 : Int := y2.t_7_0
(.br (S.zqaf_2_j y0 a1 20 y1 0)
(.br (xdec (y0 = y3.length) && S.zqaa_is y3 y4 a1)
(.br (S.zqaf_7_j a1 { t_6_0 := 20 : S.zqaf_7_V } 0)
(.leaf ⟨(S.zqaa_o y3 y4 a1).x0⟩)
.fail)
.fail)
.fail)
def S.zqaf (a0 : List (Ty .mat)) (a1 : Int) : Option S.zqaf_T := (S.zqaf_R a0 a1).run
def S.zqaf_is (a0 : List (Ty .mat)) (a1 : Int) : Bool := (S.zqaf a0 a1).isSome
def S.zqaf_o (a0 : List (Ty .mat)) (a1 : Int) : S.zqaf_T := (S.zqaf a0 a1).getD default
def ret_zqaf (b : Bool) (r : S.zqaf_T) : Ret := ⟨b, some (81, (⟨ET.mat, r.x0⟩ : (t : ET) × List (Ty t))), []⟩
def si_zqaf (a0f : Bool) (a0 : List (Ty .mat)) : List DArg → Bool
  | [(false, [.sc (.int .i64 a1)]), (false, [.fn 114 [] []])] => S.zqaf_is a0 a1
  | _ => false
def so_zqaf (a0f : Bool) (a0 : List (Ty .mat)) : List DArg → List (Ty .mat)
  | [(false, [.sc (.int .i64 a1)]), (false, [.fn 114 [] []])] => (S.zqaf_o a0 a1).x0
  | _ => a0
def p_zqaf : Proc := rowProc 81 .mat si_zqaf so_zqaf
theorem raw_zqaf (a0f : Bool) (a0 : List (Ty .mat)) (a1 : Int) : evP cx_zqaf (hdI cx_zqaf (find [(2, T_zqaf_2), (9, T_zqaf_9), (7, T_zqaf_7)]) [] none 3) none Try.f141 141 (some 81) [(false, [.sl none a0f .mat a0]), (false, [.sc (.int .i64 a1)]), (false, [.fn 114 [] []])] some = (S.zqaf_R a0 a1).go (ret_zqaf true) := by kernel_rfl
theorem bs_zqaf : loopsIn Try.f141 [] = [b_zqaf_2, b_zqaf_7] := by kernel_rfl
theorem zqaf_ok : StandsP Try.prog tyTab 141 p_zqaf := by
  refine standsP (L := find [(2, T_zqaf_2), (9, T_zqaf_9), (7, T_zqaf_7)]) (n := 3) (hints := [(141, 9, { keep := [0, 1, 2, 6, 7, 8], acc := [] }), (141, 7, { keep := [0, 1, 2, 6], acc := [] }), (141, 2, { keep := [0, 1, 2, 6, 7, 8], acc := [] })]) (cx_ok rfl) rdy_zqaf prs_zqaf ⟨by kernel_rfl, by kernel_rfl, by kernel_rfl⟩ bs_zqaf (consB (fun T h => by have e : T_zqaf_2 = T := Option.some.inj (show some T_zqaf_2 = some T from h); exact e ▸ lok_zqaf_2) (consB (fun T h => by have e : T_zqaf_7 = T := Option.some.inj (show some T_zqaf_7 = some T from h); exact e ▸ lok_zqaf_7) nilB)) (by kernel_rfl) rfl (fun a0f a0 ds h => ?_)
  unfold si_zqaf at h
  split at h
  · rename_i a1
    exact ⟨true, win default ((raw_zqaf a0f a0 a1).trans (DT.go_run _ _)) h⟩
  · cases h
abbrev cx_zqad : Cx := mkCx3 tyTab [(114, g_zqck)] [] [] [] [] [(141, (Try.f141, p_zqaf))]
theorem rdy_zqad : Ready Try.prog tyTab [(114, g_zqck)] [] [] := ⟨consG2 zqck_ok (noneG2), noneI2, noneF2⟩
theorem prs_zqad : PrsOk Try.prog tyTab [(141, (Try.f141, p_zqaf))] := consP ⟨by kernel_rfl, by kernel_rfl, by kernel_rfl⟩ zqaf_ok (noneP)
structure S.zqad_T where
  x0 : List (Ty .mat)
  deriving Inhabited
def S.zqad_R (a0 : List (Ty .mat)) : DT S.zqad_T :=
let y0 : Nat := a0.length
let y1 : Int := (↑y0 : Int)
(.br (xdec (y0 = y0) && S.zqaf_is a0 y1)
(.leaf ⟨(S.zqaf_o a0 y1).x0⟩)
.fail)
def S.zqad (a0 : List (Ty .mat)) : Option S.zqad_T := (S.zqad_R a0).run
def S.zqad_is (a0 : List (Ty .mat)) : Bool := (S.zqad a0).isSome
def S.zqad_o (a0 : List (Ty .mat)) : S.zqad_T := (S.zqad a0).getD default
def ret_zqad (b : Bool) (r : S.zqad_T) : Ret := ⟨b, some (81, (⟨ET.mat, r.x0⟩ : (t : ET) × List (Ty t))), []⟩
def si_zqad (a0f : Bool) (a0 : List (Ty .mat)) : List DArg → Bool
  | [(false, [.fn 114 [] []])] => S.zqad_is a0
  | _ => false
def so_zqad (a0f : Bool) (a0 : List (Ty .mat)) : List DArg → List (Ty .mat)
  | [(false, [.fn 114 [] []])] => (S.zqad_o a0).x0
  | _ => a0
def p_zqad : Proc := rowProc 81 .mat si_zqad so_zqad
theorem raw_zqad (a0f : Bool) (a0 : List (Ty .mat)) : evP cx_zqad (hdI cx_zqad (find []) [] none 3) none Try.f113 113 (some 81) [(false, [.sl none a0f .mat a0]), (false, [.fn 114 [] []])] some = (S.zqad_R a0).go (ret_zqad true) := by kernel_rfl
theorem bs_zqad : loopsIn Try.f113 [] = [] := by kernel_rfl
theorem zqad_ok : StandsP Try.prog tyTab 113 p_zqad := by
  refine standsP (L := find []) (n := 3) (hints := []) (cx_ok rfl) rdy_zqad prs_zqad ⟨by kernel_rfl, by kernel_rfl, by kernel_rfl⟩ bs_zqad nilB (by kernel_rfl) rfl (fun a0f a0 ds h => ?_)
  unfold si_zqad at h
  split at h
  · exact ⟨true, win default ((raw_zqad a0f a0).trans (DT.go_run _ _)) h⟩
  · cases h
abbrev cx_zqbt : Cx := mkCx3 tyTab [(75, g_zqbg), (76, g_zqbu), (112, g_zqav), (114, g_zqck)] [] [(73, 5, { keep := [7, 8], acc := [] }), (140, 1, { keep := [0, 1, 2, 8, 9], acc := [(1002, some 0, .mat, 81)] })] [(140, Try.f140)] [(5, rfAt 73 Try.f73)] [(113, (Try.f113, p_zqad))]
theorem rdy_zqbt : Ready Try.prog tyTab [(75, g_zqbg), (76, g_zqbu), (112, g_zqav), (114, g_zqck)] [] [(140, Try.f140)] := ⟨consG2 zqbg_ok (consG2 zqbu_ok (consG2 zqav_ok (consG2 zqck_ok (noneG2)))), noneI2, consF2 ⟨by kernel_rfl, by kernel_rfl, by kernel_rfl⟩ (noneF2)⟩
theorem prs_zqbt : PrsOk Try.prog tyTab [(113, (Try.f113, p_zqad))] := consP ⟨by kernel_rfl, by kernel_rfl, by kernel_rfl⟩ zqad_ok (noneP)
structure S.zqbt_1_V where
  t_9_0 : Int
  h_2_0f : Bool
  h_2_0l : Nat
  h_16 : List (Ty .mat)
def S.zqbt_1_R (t_1_0_0 : List (Ty .evt)) (t_2_0_0 : List (Ty .step)) (t_2_0_1 : Int) (t_2_0_2 : Int) (t_2_0_3 : Int) (t_2_0_4 : Int) (t_8_0 : Int) (qD : Int) (v : S.zqbt_1_V) : DT (Option Nat × S.zqbt_1_V) :=
let y0 : S.zqbu_T := S.zqbu_o t_2_0_0 t_2_0_1 t_2_0_2 t_2_0_3 t_2_0_4 t_1_0_0 v.t_9_0
let y1 : Int := y0.x1
let y2 : Mat := { start := y0.x0, fin := y1, agg := y0.x2, bad := y0.x3 : Mat }
let y3 : Nat := v.h_2_0l + 1
let y4 : Bool := xdec (0 + 1 ≤ ((List.replicate 1 (dflt ET.mat)).set 0 y2).length) && xdec (v.h_2_0l ≤ v.h_16.length) && xdec (y3 ≤ 1048576)
let y5 : Int := xwrap IntKind.i64 (v.t_9_0 + 1)
let y6 : List (Ty .mat) := List.take v.h_2_0l v.h_16 ++ [y2]
(.br (xdec (v.t_9_0 < t_8_0))
(.br (S.zqbu_is t_2_0_0 t_2_0_1 t_2_0_2 t_2_0_3 t_2_0_4 t_1_0_0 v.t_9_0)
(.br (y0.x4)
(.br (xdec (qD < 0))
(.br (y4)
(.br (xnot true)
(.leaf (some 0, v))
(.leaf (none, ⟨y5, false, y3, y6⟩)))
.fail)
(.br (xdec (y1 ≤ qD))
(.br (y4)
(.br (xnot true)
(.leaf (some 0, v))
(.leaf (none, ⟨y5, false, y3, y6⟩)))
.fail)
(.br (xnot true)
(.leaf (some 1, v))
(.leaf (none, ⟨y5, v.h_2_0f, v.h_2_0l, v.h_16⟩)))))
(.leaf (none, ⟨y5, v.h_2_0f, v.h_2_0l, v.h_16⟩)))
.fail)
(.leaf (some 2, v)))
def S.zqbt_1_r (t_1_0_0 : List (Ty .evt)) (t_2_0_0 : List (Ty .step)) (t_2_0_1 : Int) (t_2_0_2 : Int) (t_2_0_3 : Int) (t_2_0_4 : Int) (t_8_0 : Int) (qD : Int) (v : S.zqbt_1_V) : Option (Option Nat × S.zqbt_1_V) := (S.zqbt_1_R t_1_0_0 t_2_0_0 t_2_0_1 t_2_0_2 t_2_0_3 t_2_0_4 t_8_0 qD v).run
def S.zqbt_1_j (t_1_0_0 : List (Ty .evt)) (t_2_0_0 : List (Ty .step)) (t_2_0_1 : Int) (t_2_0_2 : Int) (t_2_0_3 : Int) (t_2_0_4 : Int) (t_8_0 : Int) (qD : Int) (v : S.zqbt_1_V) (j : Nat) : Bool := Lp_j (S.zqbt_1_r t_1_0_0 t_2_0_0 t_2_0_1 t_2_0_2 t_2_0_3 t_2_0_4 t_8_0 qD) v j
def S.zqbt_1_v (t_1_0_0 : List (Ty .evt)) (t_2_0_0 : List (Ty .step)) (t_2_0_1 : Int) (t_2_0_2 : Int) (t_2_0_3 : Int) (t_2_0_4 : Int) (t_8_0 : Int) (qD : Int) (v : S.zqbt_1_V) : S.zqbt_1_V := Lp_v (S.zqbt_1_r t_1_0_0 t_2_0_0 t_2_0_1 t_2_0_2 t_2_0_3 t_2_0_4 t_8_0 qD) v
def mk_zqbt_1 (t_1_0_0n : Option Bool) (t_1_0_0f : Bool) (t_1_0_0 : List (Ty .evt)) (t_2_0_0n : Option Bool) (t_2_0_0f : Bool) (t_2_0_0 : List (Ty .step)) (t_2_0_1 : Int) (t_2_0_2 : Int) (t_2_0_3 : Int) (t_2_0_4 : Int) (t_8_0 : Int) (qE : Option Bool) (qF : Bool) (qG : List (Ty .step)) (qH : Int) (qI : Int) (qJ : Int) (qK : Int) (qD : Int) (v : S.zqbt_1_V) : St := ⟨[V.v false [C.yld 12], V.v false [C.d (D.ref [D.sl t_1_0_0n t_1_0_0f ET.evt t_1_0_0])],
  V.v false
    [C.d
        (D.ref
          [D.sl t_2_0_0n t_2_0_0f ET.step t_2_0_0, D.sc (Sc.int IntKind.i64 t_2_0_1), D.sc (Sc.int IntKind.i64 t_2_0_2), D.sc (Sc.int IntKind.i64 t_2_0_3),
            D.sc (Sc.int IntKind.i64 t_2_0_4)])],
  V.any, V.any, V.any, V.any, V.any, V.v false [C.d (.sc (.int .i64 t_8_0))], V.v false [C.d (.sc (.int .i64 v.t_9_0))], V.any, V.any, V.any, V.any, V.any,
  V.any, V.any, V.any, V.any, V.any, V.any, V.any, V.any, V.any, V.any, V.any, V.any], [some
    (Blk.box 45
      [C.d (.sl qE qF ET.step qG), C.d (.sc (.int .i64 qH)), C.d (.sc (.int .i64 qI)), C.d (.sc (.int .i64 qJ)),
        C.d (.sc (.int .i64 qK))]),
  none, some (Blk.box 73 [C.own 16 ET.mat v.h_2_0f 0 v.h_2_0l]), none, none, none, none, some (Blk.box 3 [C.d (.sc (.int .i64 qD))]), none, none, none, none,
  some
    (Blk.lp 5
      [V.any, V.any, V.any, V.any, V.any, V.any, V.any, V.v false [C.ptr 2 0], V.v false [C.ptr 7 0], V.any, V.any, V.any, V.any, V.any, V.any, V.any, V.any, V.any, V.any, V.any,
        V.any, V.any, V.any, V.any, V.any, V.any, V.any, V.any, V.any, V.any, V.any, V.any, V.any]
      0 none),
  none, none, none, some (Blk.arr 81 ET.mat v.h_16)], 13⟩
def ex_zqbt_1 (t_1_0_0n : Option Bool) (t_1_0_0f : Bool) (t_1_0_0 : List (Ty .evt)) (t_2_0_0n : Option Bool) (t_2_0_0f : Bool) (t_2_0_0 : List (Ty .step)) (t_2_0_1 : Int) (t_2_0_2 : Int) (t_2_0_3 : Int) (t_2_0_4 : Int) (t_8_0 : Int) (qE : Option Bool) (qF : Bool) (qG : List (Ty .step)) (qH : Int) (qI : Int) (qJ : Int) (qK : Int) (qD : Int) (j : Nat) (v : S.zqbt_1_V) : Ex × St := match j with
  | 0 => (Ex.ret, ⟨[V.any, V.any, V.any, V.any, V.any, V.any, V.any, V.any, V.any, V.any, V.any, V.any, V.any, V.any, V.any, V.any, V.any, V.any, V.any, V.any, V.any, V.any, V.any, V.any, V.any,
  V.any, V.any], [some
    (Blk.box 45
      [C.d (.sl qE qF ET.step qG), C.d (.sc (.int .i64 qH)), C.d (.sc (.int .i64 qI)), C.d (.sc (.int .i64 qJ)),
        C.d (.sc (.int .i64 qK))]),
  none, some (Blk.box 73 [C.own (47 + 3) ET.mat false 0 (v.h_2_0l + 1)]), none, none, none, none, some (Blk.box 3 [C.d (.sc (.int .i64 qD))]), none, none, none, none,
  some
    (Blk.lp 5
      [V.any, V.any, V.any, V.any, V.any, V.any, V.any, V.v false [C.ptr 2 0], V.v false [C.ptr 7 0], V.any, V.any, V.any, V.any, V.any, V.any, V.any, V.any, V.any, V.any, V.any,
        V.any, V.any, V.any, V.any, V.any, V.any, V.any, V.any, V.any, V.any, V.any, V.any, V.any]
      0 none),
  none, none, none, none, none, none, none, none, none, none, none, none, none, none,
  some
    (Blk.box 81
      [C.d (.sc (.int .i64 (S.zqbu_o t_2_0_0 t_2_0_1 t_2_0_2 t_2_0_3 t_2_0_4 t_1_0_0 v.t_9_0).x0)),
        C.d (.sc (.int .i64 (S.zqbu_o t_2_0_0 t_2_0_1 t_2_0_2 t_2_0_3 t_2_0_4 t_1_0_0 v.t_9_0).x1)),
        C.d (.sc (.int .i64 (S.zqbu_o t_2_0_0 t_2_0_1 t_2_0_2 t_2_0_3 t_2_0_4 t_1_0_0 v.t_9_0).x2)),
        C.d (.sc (.bool (S.zqbu_o t_2_0_0 t_2_0_1 t_2_0_2 t_2_0_3 t_2_0_4 t_1_0_0 v.t_9_0).x3))]),
  none, none, none, none, none, none, none, none, none,
  some
    (Blk.box 81
      [C.d (.sc (.int .i64 (S.zqbu_o t_2_0_0 t_2_0_1 t_2_0_2 t_2_0_3 t_2_0_4 t_1_0_0 v.t_9_0).x0)),
        C.d (.sc (.int .i64 (S.zqbu_o t_2_0_0 t_2_0_1 t_2_0_2 t_2_0_3 t_2_0_4 t_1_0_0 v.t_9_0).x1)),
        C.d (.sc (.int .i64 (S.zqbu_o t_2_0_0 t_2_0_1 t_2_0_2 t_2_0_3 t_2_0_4 t_1_0_0 v.t_9_0).x2)),
        C.d (.sc (.bool (S.zqbu_o t_2_0_0 t_2_0_1 t_2_0_2 t_2_0_3 t_2_0_4 t_1_0_0 v.t_9_0).x3))]),
  none, none, none, none, none, none, none, none, none, none, none,
  some
    (Blk.arr 81 ET.mat
      ((List.replicate 1 (dflt ET.mat)).set 0
        { start := (S.zqbu_o t_2_0_0 t_2_0_1 t_2_0_2 t_2_0_3 t_2_0_4 t_1_0_0 v.t_9_0).x0, fin := (S.zqbu_o t_2_0_0 t_2_0_1 t_2_0_2 t_2_0_3 t_2_0_4 t_1_0_0 v.t_9_0).x1,
          agg := (S.zqbu_o t_2_0_0 t_2_0_1 t_2_0_2 t_2_0_3 t_2_0_4 t_1_0_0 v.t_9_0).x2, bad := (S.zqbu_o t_2_0_0 t_2_0_1 t_2_0_2 t_2_0_3 t_2_0_4 t_1_0_0 v.t_9_0).x3 :
          Mat })),
  some
    (Blk.arr 81 ET.mat
      (List.take v.h_2_0l v.h_16 ++
        [{ start := (S.zqbu_o t_2_0_0 t_2_0_1 t_2_0_2 t_2_0_3 t_2_0_4 t_1_0_0 v.t_9_0).x0, fin := (S.zqbu_o t_2_0_0 t_2_0_1 t_2_0_2 t_2_0_3 t_2_0_4 t_1_0_0 v.t_9_0).x1,
            agg := (S.zqbu_o t_2_0_0 t_2_0_1 t_2_0_2 t_2_0_3 t_2_0_4 t_1_0_0 v.t_9_0).x2, bad := (S.zqbu_o t_2_0_0 t_2_0_1 t_2_0_2 t_2_0_3 t_2_0_4 t_1_0_0 v.t_9_0).x3 :
            Mat }])),
  none], 13⟩)
  | 1 => (Ex.ret, ⟨[V.any, V.any, V.any, V.any, V.any, V.any, V.any, V.any, V.any, V.any, V.any, V.any, V.any, V.any, V.any, V.any, V.any, V.any, V.any, V.any, V.any, V.any, V.any, V.any, V.any,
  V.any, V.any], [some
    (Blk.box 45
      [C.d (.sl qE qF ET.step qG), C.d (.sc (.int .i64 qH)), C.d (.sc (.int .i64 qI)), C.d (.sc (.int .i64 qJ)),
        C.d (.sc (.int .i64 qK))]),
  none, some (Blk.box 73 [C.own 16 ET.mat v.h_2_0f 0 v.h_2_0l]), none, none, none, none, some (Blk.box 3 [C.d (.sc (.int .i64 qD))]), none, none, none, none,
  some
    (Blk.lp 5
      [V.any, V.any, V.any, V.any, V.any, V.any, V.any, V.v false [C.ptr 2 0], V.v false [C.ptr 7 0], V.any, V.any, V.any, V.any, V.any, V.any, V.any, V.any, V.any, V.any, V.any,
        V.any, V.any, V.any, V.any, V.any, V.any, V.any, V.any, V.any, V.any, V.any, V.any, V.any]
      0 none),
  none, none, none, some (Blk.arr 81 ET.mat v.h_16), none, none, none, none, none, none, none, none, none, none,
  some
    (Blk.box 81
      [C.d (.sc (.int .i64 (S.zqbu_o t_2_0_0 t_2_0_1 t_2_0_2 t_2_0_3 t_2_0_4 t_1_0_0 v.t_9_0).x0)),
        C.d (.sc (.int .i64 (S.zqbu_o t_2_0_0 t_2_0_1 t_2_0_2 t_2_0_3 t_2_0_4 t_1_0_0 v.t_9_0).x1)),
        C.d (.sc (.int .i64 (S.zqbu_o t_2_0_0 t_2_0_1 t_2_0_2 t_2_0_3 t_2_0_4 t_1_0_0 v.t_9_0).x2)),
        C.d (.sc (.bool (S.zqbu_o t_2_0_0 t_2_0_1 t_2_0_2 t_2_0_3 t_2_0_4 t_1_0_0 v.t_9_0).x3))]),
  none, none, none, none, none, none, none, none, none,
  some
    (Blk.box 81
      [C.d (.sc (.int .i64 (S.zqbu_o t_2_0_0 t_2_0_1 t_2_0_2 t_2_0_3 t_2_0_4 t_1_0_0 v.t_9_0).x0)),
        C.d (.sc (.int .i64 (S.zqbu_o t_2_0_0 t_2_0_1 t_2_0_2 t_2_0_3 t_2_0_4 t_1_0_0 v.t_9_0).x1)),
        C.d (.sc (.int .i64 (S.zqbu_o t_2_0_0 t_2_0_1 t_2_0_2 t_2_0_3 t_2_0_4 t_1_0_0 v.t_9_0).x2)),
        C.d (.sc (.bool (S.zqbu_o t_2_0_0 t_2_0_1 t_2_0_2 t_2_0_3 t_2_0_4 t_1_0_0 v.t_9_0).x3))]),
  none, none, none, none, none, none, none, none, none], 13⟩)
  | 2 => (Ex.exit 0, ⟨[V.any, V.any, V.any, V.any, V.any, V.any, V.any, V.any, V.any, V.any, V.any, V.any, V.any, V.any, V.any, V.any, V.any, V.any, V.any, V.any, V.any, V.any, V.any, V.any, V.any,
  V.any, V.any], [some
    (Blk.box 45
      [C.d (.sl qE qF ET.step qG), C.d (.sc (.int .i64 qH)), C.d (.sc (.int .i64 qI)), C.d (.sc (.int .i64 qJ)),
        C.d (.sc (.int .i64 qK))]),
  none, some (Blk.box 73 [C.own 16 ET.mat v.h_2_0f 0 v.h_2_0l]), none, none, none, none, some (Blk.box 3 [C.d (.sc (.int .i64 qD))]), none, none, none, none,
  some
    (Blk.lp 5
      [V.any, V.any, V.any, V.any, V.any, V.any, V.any, V.v false [C.ptr 2 0], V.v false [C.ptr 7 0], V.any, V.any, V.any, V.any, V.any, V.any, V.any, V.any, V.any, V.any, V.any,
        V.any, V.any, V.any, V.any, V.any, V.any, V.any, V.any, V.any, V.any, V.any, V.any, V.any]
      0 none),
  none, none, none, some (Blk.arr 81 ET.mat v.h_16), none], 13⟩)
  | _ => (.ret, ⟨[], [], 0⟩)
def U_zqbt_1_e0 (x : V) (K : Tree) : Tree := match x with
  | V.v false [C.yld 12] => K
  | _ => .bad
def U_zqbt_1_e1 (x : V) (K : (Option Bool) → Bool → (List (Ty .evt)) → Tree) : Tree := match x with
  | V.v false [C.d (D.ref [D.sl t_1_0_0n t_1_0_0f ET.evt t_1_0_0])] => K t_1_0_0n t_1_0_0f t_1_0_0
  | _ => .bad
def U_zqbt_1_e2 (x : V) (K : (Option Bool) → Bool → (List (Ty .step)) → Int → Int → Int → Int → Tree) : Tree := match x with
  | V.v false [C.d (D.ref [D.sl t_2_0_0n t_2_0_0f ET.step t_2_0_0, D.sc (Sc.int IntKind.i64 t_2_0_1), D.sc (Sc.int IntKind.i64 t_2_0_2), D.sc (Sc.int IntKind.i64 t_2_0_3), D.sc (Sc.int IntKind.i64 t_2_0_4)])] => K t_2_0_0n t_2_0_0f t_2_0_0 t_2_0_1 t_2_0_2 t_2_0_3 t_2_0_4
  | _ => .bad
def U_zqbt_1_e8 (x : V) (K : Int → Tree) : Tree := match x with
  | V.v false [C.d (.sc (.int .i64 t_8_0))] => K t_8_0
  | _ => .bad
def U_zqbt_1_e9 (x : V) (K : Int → Tree) : Tree := match x with
  | V.v false [C.d (.sc (.int .i64 t_9_0))] => K t_9_0
  | _ => .bad
def U_zqbt_1_h0 (x : Option Blk) (K : (Option Bool) → Bool → (List (Ty .step)) → Int → Int → Int → Int → Tree) : Tree := match x with
  | some (Blk.box 45 [C.d (.sl qE qF ET.step qG), C.d (.sc (.int .i64 qH)), C.d (.sc (.int .i64 qI)), C.d (.sc (.int .i64 qJ)), C.d (.sc (.int .i64 qK))]) => K qE qF qG qH qI qJ qK
  | _ => .bad
def U_zqbt_1_h2 (x : Option Blk) (K : Bool → Nat → Tree) : Tree := match x with
  | some (Blk.box 73 [C.own 16 ET.mat h_2_0f 0 h_2_0l]) => K h_2_0f h_2_0l
  | _ => .bad
def U_zqbt_1_h7 (x : Option Blk) (K : Int → Tree) : Tree := match x with
  | some (Blk.box 3 [C.d (.sc (.int .i64 qD))]) => K qD
  | _ => .bad
def U_zqbt_1_h12 (x : Option Blk) (K : Tree) : Tree := match x with
  | some (Blk.lp 5 (V.any :: V.any :: V.any :: V.any :: V.any :: V.any :: V.any :: V.v false [C.ptr 2 0] :: V.v false [C.ptr 7 0] :: V.any :: V.any :: V.any :: V.any :: V.any :: V.any :: V.any :: V.any :: V.any :: V.any :: V.any :: V.any :: V.any :: V.any :: V.any :: V.any :: V.any :: V.any :: V.any :: V.any :: V.any :: V.any :: V.any :: V.any :: []) 0 none) => K
  | _ => .bad
def U_zqbt_1_h16 (x : Option Blk) (K : (List (Ty .mat)) → Tree) : Tree := match x with
  | some (Blk.arr 81 ET.mat h_16) => K h_16
  | _ => .bad
def T1_zqbt_1 (e0 : V) (e1 : V) (e2 : V) (e8 : V) (e9 : V) (h0 : Option Blk) (h2 : Option Blk) (h7 : Option Blk) (h12 : Option Blk) (h16 : Option Blk) : Tree := U_zqbt_1_e0 e0 (U_zqbt_1_e1 e1 (fun t_1_0_0n t_1_0_0f t_1_0_0 => U_zqbt_1_e2 e2 (fun t_2_0_0n t_2_0_0f t_2_0_0 t_2_0_1 t_2_0_2 t_2_0_3 t_2_0_4 => U_zqbt_1_e8 e8 (fun t_8_0 => U_zqbt_1_e9 e9 (fun t_9_0 => U_zqbt_1_h0 h0 (fun qE qF qG qH qI qJ qK => U_zqbt_1_h2 h2 (fun h_2_0f h_2_0l => U_zqbt_1_h7 h7 (fun qD => U_zqbt_1_h12 h12 (U_zqbt_1_h16 h16 (fun h_16 => exT (fun j => ex_zqbt_1 t_1_0_0n t_1_0_0f t_1_0_0 t_2_0_0n t_2_0_0f t_2_0_0 t_2_0_1 t_2_0_2 t_2_0_3 t_2_0_4 t_8_0 qE qF qG qH qI qJ qK qD j (S.zqbt_1_v t_1_0_0 t_2_0_0 t_2_0_1 t_2_0_2 t_2_0_3 t_2_0_4 t_8_0 qD ⟨t_9_0, h_2_0f, h_2_0l, h_16⟩)) (S.zqbt_1_j t_1_0_0 t_2_0_0 t_2_0_1 t_2_0_2 t_2_0_3 t_2_0_4 t_8_0 qD ⟨t_9_0, h_2_0f, h_2_0l, h_16⟩) [0, 1, 2]))))))))))
def T_zqbt_1 (st : St) : Tree := bif okSt 27 17 13 [0, 2, 7, 12, 16] st then T1_zqbt_1 (st.env.getD 0 .any) (st.env.getD 1 .any) (st.env.getD 2 .any) (st.env.getD 8 .any) (st.env.getD 9 .any) (lk st.heap 0) (lk st.heap 2) (lk st.heap 7) (lk st.heap 12) (lk st.heap 16) else .bad
def b_zqbt_1 : Code := loopBy Try.f140 1
theorem rnd_zqbt_1 (t_1_0_0n : Option Bool) (t_1_0_0f : Bool) (t_1_0_0 : List (Ty .evt)) (t_2_0_0n : Option Bool) (t_2_0_0f : Bool) (t_2_0_0 : List (Ty .step)) (t_2_0_1 : Int) (t_2_0_2 : Int) (t_2_0_3 : Int) (t_2_0_4 : Int) (t_8_0 : Int) (qE : Option Bool) (qF : Bool) (qG : List (Ty .step)) (qH : Int) (qI : Int) (qJ : Int) (qK : Int) (qD : Int) (v : S.zqbt_1_V) : round2 cx_zqbt (hdI cx_zqbt (find []) [(140, Try.f140)] none 3) 140 b_zqbt_1 [16] 17 [] (mk_zqbt_1 t_1_0_0n t_1_0_0f t_1_0_0 t_2_0_0n t_2_0_0f t_2_0_0 t_2_0_1 t_2_0_2 t_2_0_3 t_2_0_4 t_8_0 qE qF qG qH qI qJ qK qD v) = (S.zqbt_1_R t_1_0_0 t_2_0_0 t_2_0_1 t_2_0_2 t_2_0_3 t_2_0_4 t_8_0 qD v).go (roundOut (mk_zqbt_1 t_1_0_0n t_1_0_0f t_1_0_0 t_2_0_0n t_2_0_0f t_2_0_0 t_2_0_1 t_2_0_2 t_2_0_3 t_2_0_4 t_8_0 qE qF qG qH qI qJ qK qD) (ex_zqbt_1 t_1_0_0n t_1_0_0f t_1_0_0 t_2_0_0n t_2_0_0f t_2_0_0 t_2_0_1 t_2_0_2 t_2_0_3 t_2_0_4 t_8_0 qE qF qG qH qI qJ qK qD)) := by kernel_rfl
theorem bs_zqbt_1 : loopsOf b_zqbt_1 ++ loopsInl [(140, Try.f140)] ++ loopsRf [(5, rfAt 73 Try.f73)] = [b_zqbt_1] := by kernel_rfl
theorem ci_zqbt_1 (t_1_0_0n : Option Bool) (t_1_0_0f : Bool) (t_1_0_0 : List (Ty .evt)) (t_2_0_0n : Option Bool) (t_2_0_0f : Bool) (t_2_0_0 : List (Ty .step)) (t_2_0_1 : Int) (t_2_0_2 : Int) (t_2_0_3 : Int) (t_2_0_4 : Int) (t_8_0 : Int) (qE : Option Bool) (qF : Bool) (qG : List (Ty .step)) (qH : Int) (qI : Int) (qJ : Int) (qK : Int) (qD : Int) : ∀ v j v2, Lp (S.zqbt_1_r t_1_0_0 t_2_0_0 t_2_0_1 t_2_0_2 t_2_0_3 t_2_0_4 t_8_0 qD) v = some (j, v2) → Circles Try.prog cx_zqbt b_zqbt_1 (mk_zqbt_1 t_1_0_0n t_1_0_0f t_1_0_0 t_2_0_0n t_2_0_0f t_2_0_0 t_2_0_1 t_2_0_2 t_2_0_3 t_2_0_4 t_8_0 qE qF qG qH qI qJ qK qD v) (ex_zqbt_1 t_1_0_0n t_1_0_0f t_1_0_0 t_2_0_0n t_2_0_0f t_2_0_0 t_2_0_1 t_2_0_2 t_2_0_3 t_2_0_4 t_8_0 qE qF qG qH qI qJ qK qD j v2).1 (ex_zqbt_1 t_1_0_0n t_1_0_0f t_1_0_0 t_2_0_0n t_2_0_0f t_2_0_0 t_2_0_1 t_2_0_2 t_2_0_3 t_2_0_4 t_8_0 qE qF qG qH qI qJ qK qD j v2).2 :=
  loop_ok3 (L := find []) (n := 3) (hints := [(73, 5, { keep := [7, 8], acc := [] }), (140, 1, { keep := [0, 1, 2, 8, 9], acc := [(1002, some 0, .mat, 81)] })]) (cx_ok rfl) rdy_zqbt prs_zqbt bs_zqbt_1 (consB (fun T h => by have e : (none : Option (St → Tree)) = some T := h; cases e) nilB) (fun v => (rnd_zqbt_1 t_1_0_0n t_1_0_0f t_1_0_0 t_2_0_0n t_2_0_0f t_2_0_0 t_2_0_1 t_2_0_2 t_2_0_3 t_2_0_4 t_8_0 qE qF qG qH qI qJ qK qD v).trans (DT.go_run _ _)) (by intro j v; unfold ex_zqbt_1; split <;> rfl)
theorem mke_zqbt_1 (t_1_0_0n : Option Bool) (t_1_0_0f : Bool) (t_1_0_0 : List (Ty .evt)) (t_2_0_0n : Option Bool) (t_2_0_0f : Bool) (t_2_0_0 : List (Ty .step)) (t_2_0_1 : Int) (t_2_0_2 : Int) (t_2_0_3 : Int) (t_2_0_4 : Int) (t_8_0 : Int) (qE : Option Bool) (qF : Bool) (qG : List (Ty .step)) (qH : Int) (qI : Int) (qJ : Int) (qK : Int) (qD : Int) (v : S.zqbt_1_V) : mk_zqbt_1 t_1_0_0n t_1_0_0f t_1_0_0 t_2_0_0n t_2_0_0f t_2_0_0 t_2_0_1 t_2_0_2 t_2_0_3 t_2_0_4 t_8_0 qE qF qG qH qI qJ qK qD v = ⟨envOf 27 [(0, V.v false [C.yld 12]), (1, V.v false [C.d (D.ref [D.sl t_1_0_0n t_1_0_0f ET.evt t_1_0_0])]), (2, V.v false
  [C.d
      (D.ref
        [D.sl t_2_0_0n t_2_0_0f ET.step t_2_0_0, D.sc (Sc.int IntKind.i64 t_2_0_1), D.sc (Sc.int IntKind.i64 t_2_0_2), D.sc (Sc.int IntKind.i64 t_2_0_3),
          D.sc (Sc.int IntKind.i64 t_2_0_4)])]), (8, V.v false [C.d (.sc (.int .i64 t_8_0))]), (9, V.v false [C.d (.sc (.int .i64 v.t_9_0))])], heapOf 17 [(0, some
  (Blk.box 45
    [C.d (.sl qE qF ET.step qG), C.d (.sc (.int .i64 qH)), C.d (.sc (.int .i64 qI)), C.d (.sc (.int .i64 qJ)),
      C.d (.sc (.int .i64 qK))])), (2, some (Blk.box 73 [C.own 16 ET.mat v.h_2_0f 0 v.h_2_0l])), (7, some (Blk.box 3 [C.d (.sc (.int .i64 qD))])), (12, some
  (Blk.lp 5
    [V.any, V.any, V.any, V.any, V.any, V.any, V.any, V.v false [C.ptr 2 0], V.v false [C.ptr 7 0], V.any, V.any, V.any, V.any, V.any, V.any, V.any, V.any, V.any, V.any, V.any,
      V.any, V.any, V.any, V.any, V.any, V.any, V.any, V.any, V.any, V.any, V.any, V.any, V.any]
    0 none)), (16, some (Blk.arr 81 ET.mat v.h_16))], 13⟩ := by kernel_rfl
theorem Ui_zqbt_1_e0 {x : V} {K : Tree} {z : Ex × St} (h : (U_zqbt_1_e0 x K).eval = some z) : x = V.v false [C.yld 12] ∧ (K).eval = some z := by
  unfold U_zqbt_1_e0 at h
  split at h
  · exact ⟨rfl, h⟩
  · cases h
theorem Ui_zqbt_1_e1 {x : V} {K : (Option Bool) → Bool → (List (Ty .evt)) → Tree} {z : Ex × St} (h : (U_zqbt_1_e1 x K).eval = some z) : ∃ (t_1_0_0n : Option Bool) (t_1_0_0f : Bool) (t_1_0_0 : List (Ty .evt)), x = V.v false [C.d (D.ref [D.sl t_1_0_0n t_1_0_0f ET.evt t_1_0_0])] ∧ (K t_1_0_0n t_1_0_0f t_1_0_0).eval = some z := by
  unfold U_zqbt_1_e1 at h
  split at h
  · exact ⟨_, _, _, rfl, h⟩
  · cases h
theorem Ui_zqbt_1_e2 {x : V} {K : (Option Bool) → Bool → (List (Ty .step)) → Int → Int → Int → Int → Tree} {z : Ex × St} (h : (U_zqbt_1_e2 x K).eval = some z) : ∃ (t_2_0_0n : Option Bool) (t_2_0_0f : Bool) (t_2_0_0 : List (Ty .step)) (t_2_0_1 : Int) (t_2_0_2 : Int) (t_2_0_3 : Int) (t_2_0_4 : Int), x = V.v false [C.d (D.ref [D.sl t_2_0_0n t_2_0_0f ET.step t_2_0_0, D.sc (Sc.int IntKind.i64 t_2_0_1), D.sc (Sc.int IntKind.i64 t_2_0_2), D.sc (Sc.int IntKind.i64 t_2_0_3), D.sc (Sc.int IntKind.i64 t_2_0_4)])] ∧ (K t_2_0_0n t_2_0_0f t_2_0_0 t_2_0_1 t_2_0_2 t_2_0_3 t_2_0_4).eval = some z := by
  unfold U_zqbt_1_e2 at h
  split at h
  · exact ⟨_, _, _, _, _, _, _, rfl, h⟩
  · cases h
theorem Ui_zqbt_1_e8 {x : V} {K : Int → Tree} {z : Ex × St} (h : (U_zqbt_1_e8 x K).eval = some z) : ∃ (t_8_0 : Int), x = V.v false [C.d (.sc (.int .i64 t_8_0))] ∧ (K t_8_0).eval = some z := by
  unfold U_zqbt_1_e8 at h
  split at h
  · exact ⟨_, rfl, h⟩
  · cases h
theorem Ui_zqbt_1_e9 {x : V} {K : Int → Tree} {z : Ex × St} (h : (U_zqbt_1_e9 x K).eval = some z) : ∃ (t_9_0 : Int), x = V.v false [C.d (.sc (.int .i64 t_9_0))] ∧ (K t_9_0).eval = some z := by
  unfold U_zqbt_1_e9 at h
  split at h
  · exact ⟨_, rfl, h⟩
  · cases h
theorem Ui_zqbt_1_h0 {x : Option Blk} {K : (Option Bool) → Bool → (List (Ty .step)) → Int → Int → Int → Int → Tree} {z : Ex × St} (h : (U_zqbt_1_h0 x K).eval = some z) : ∃ (qE : Option Bool) (qF : Bool) (qG : List (Ty .step)) (qH : Int) (qI : Int) (qJ : Int) (qK : Int), x = some (Blk.box 45 [C.d (.sl qE qF ET.step qG), C.d (.sc (.int .i64 qH)), C.d (.sc (.int .i64 qI)), C.d (.sc (.int .i64 qJ)), C.d (.sc (.int .i64 qK))]) ∧ (K qE qF qG qH qI qJ qK).eval = some z := by
  unfold U_zqbt_1_h0 at h
  split at h
  · exact ⟨_, _, _, _, _, _, _, rfl, h⟩
  · cases h
theorem Ui_zqbt_1_h2 {x : Option Blk} {K : Bool → Nat → Tree} {z : Ex × St} (h : (U_zqbt_1_h2 x K).eval = some z) : ∃ (h_2_0f : Bool) (h_2_0l : Nat), x = some (Blk.box 73 [C.own 16 ET.mat h_2_0f 0 h_2_0l]) ∧ (K h_2_0f h_2_0l).eval = some z := by
  unfold U_zqbt_1_h2 at h
  split at h
  · exact ⟨_, _, rfl, h⟩
  · cases h
theorem Ui_zqbt_1_h7 {x : Option Blk} {K : Int → Tree} {z : Ex × St} (h : (U_zqbt_1_h7 x K).eval = some z) : ∃ (qD : Int), x = some (Blk.box 3 [C.d (.sc (.int .i64 qD))]) ∧ (K qD).eval = some z := by
  unfold U_zqbt_1_h7 at h
  split at h
  · exact ⟨_, rfl, h⟩
  · cases h
theorem Ui_zqbt_1_h12 {x : Option Blk} {K : Tree} {z : Ex × St} (h : (U_zqbt_1_h12 x K).eval = some z) : x = some (Blk.lp 5 (V.any :: V.any :: V.any :: V.any :: V.any :: V.any :: V.any :: V.v false [C.ptr 2 0] :: V.v false [C.ptr 7 0] :: V.any :: V.any :: V.any :: V.any :: V.any :: V.any :: V.any :: V.any :: V.any :: V.any :: V.any :: V.any :: V.any :: V.any :: V.any :: V.any :: V.any :: V.any :: V.any :: V.any :: V.any :: V.any :: V.any :: V.any :: []) 0 none) ∧ (K).eval = some z := by
  unfold U_zqbt_1_h12 at h
  split at h
  · exact ⟨rfl, h⟩
  · cases h
theorem Ui_zqbt_1_h16 {x : Option Blk} {K : (List (Ty .mat)) → Tree} {z : Ex × St} (h : (U_zqbt_1_h16 x K).eval = some z) : ∃ (h_16 : List (Ty .mat)), x = some (Blk.arr 81 ET.mat h_16) ∧ (K h_16).eval = some z := by
  unfold U_zqbt_1_h16 at h
  split at h
  · exact ⟨_, rfl, h⟩
  · cases h
theorem lo1_zqbt_1 (e0 : V) (e1 : V) (e2 : V) (e8 : V) (e9 : V) (h0 : Option Blk) (h2 : Option Blk) (h7 : Option Blk) (h12 : Option Blk) (h16 : Option Blk) e st2 (h : (T1_zqbt_1 e0 e1 e2 e8 e9 h0 h2 h7 h12 h16).eval = some (e, st2)) : Circles Try.prog cx_zqbt b_zqbt_1 ⟨envOf 27 [(0, e0), (1, e1), (2, e2), (8, e8), (9, e9)], heapOf 17 [(0, h0), (2, h2), (7, h7), (12, h12), (16, h16)], 13⟩ e st2 := by
  unfold T1_zqbt_1 at h
  obtain ⟨rfl, h⟩ := Ui_zqbt_1_e0 h
  obtain ⟨t_1_0_0n, t_1_0_0f, t_1_0_0, rfl, h⟩ := Ui_zqbt_1_e1 h
  obtain ⟨t_2_0_0n, t_2_0_0f, t_2_0_0, t_2_0_1, t_2_0_2, t_2_0_3, t_2_0_4, rfl, h⟩ := Ui_zqbt_1_e2 h
  obtain ⟨t_8_0, rfl, h⟩ := Ui_zqbt_1_e8 h
  obtain ⟨t_9_0, rfl, h⟩ := Ui_zqbt_1_e9 h
  obtain ⟨qE, qF, qG, qH, qI, qJ, qK, rfl, h⟩ := Ui_zqbt_1_h0 h
  obtain ⟨h_2_0f, h_2_0l, rfl, h⟩ := Ui_zqbt_1_h2 h
  obtain ⟨qD, rfl, h⟩ := Ui_zqbt_1_h7 h
  obtain ⟨rfl, h⟩ := Ui_zqbt_1_h12 h
  obtain ⟨h_16, rfl, h⟩ := Ui_zqbt_1_h16 h
  have := loop_tree (mk := mk_zqbt_1 t_1_0_0n t_1_0_0f t_1_0_0 t_2_0_0n t_2_0_0f t_2_0_0 t_2_0_1 t_2_0_2 t_2_0_3 t_2_0_4 t_8_0 qE qF qG qH qI qJ qK qD) (ci_zqbt_1 t_1_0_0n t_1_0_0f t_1_0_0 t_2_0_0n t_2_0_0f t_2_0_0 t_2_0_1 t_2_0_2 t_2_0_3 t_2_0_4 t_8_0 qE qF qG qH qI qJ qK qD) _ _ e st2 h
  rw [mke_zqbt_1] at this
  exact this
theorem lok_zqbt_1 : LoopOk Try.prog cx_zqbt b_zqbt_1 T_zqbt_1 := by
  intro st e st2 h
  unfold T_zqbt_1 at h
  cases hk : okSt 27 17 13 [0, 2, 7, 12, 16] st with
  | false => rw [hk] at h; cases h
  | true =>
    rw [hk] at h
    exact circles_keep (ks := [0, 1, 2, 8, 9]) hk (lo1_zqbt_1 _ _ _ _ _ _ _ _ _ _ e st2 h)
structure S.zqbt_T where
  x0 : List (Ty .mat)
  x1 : Bool
  x2 : Nat
  deriving Inhabited
def S.zqbt_R (a0_0n : Option Bool) (a0_0f : Bool) (a0_0 : List (Ty .step)) (a0_1 : Int) (a0_2 : Int) (a0_3 : Int) (a0_4 : Int) (a1n : Option Bool) (a1f : Bool) (a1 : List (Ty .evt)) (a2 : Int) : DT S.zqbt_T :=
let y0 : S.zqav_T := S.zqav_o a0_0n a0_0f a0_0 a0_1 a0_2 a0_3 a0_4 a1n a1f a1
let y1 : List (Ty .evt) := y0.x2
let y2 : List (Ty .step) := y0.x5
let y3 : Int := y0.x6
let y4 : Int := y0.x7
let y5 : Int := y0.x8
let y6 : Int := y0.x9
let y7 : Int := (↑y1.length : Int)
let y8 : Int := (S.zqbg_o a0_0 a0_1 a0_2 a0_3 a0_4 a1 a2).x0
let y9 : S.zqbt_1_V := { t_9_0 := 0, h_2_0f := true, h_2_0l := 0, h_16 := [] : S.zqbt_1_V }
let y10 : S.zqbt_1_V := S.zqbt_1_v y1 y2 y3 y4 y5 y6 y7 y8 y9
let y11 : Nat := y10.h_2_0l
let y12 : Nat := y11 + 1
let y13 : List (Ty .mat) := y10.h_16
let y14 : S.zqbu_T := S.zqbu_o y2 y3 y4 y5 y6 y1 y10.t_9_0
let y15 : List (Ty .mat) := List.take y11 y13 ++ [{ start := y14.x0, fin := y14.x1, agg := y14.x2, bad := y14.x3 : Mat }]
let y16 : Bool := xdec (y11 = y13.length) && S.zqad_is y13
let y17 : List (Ty .mat) := (S.zqad_o y13).x0
let y18 : Bool := y10.h_2_0f
(.br (S.zqbg_is a0_0 a0_1 a0_2 a0_3 a0_4 a1 a2)
(.br (S.zqbt_1_j y1 y2 y3 y4 y5 y6 y7 y8 y9 0)
(.br (xdec (y12 = y15.length) && S.zqad_is y15)
(.leaf ⟨(S.zqad_o y15).x0, false, y12⟩)
.fail)
(.br (S.zqbt_1_j y1 y2 y3 y4 y5 y6 y7 y8 y9 1)
(.br (y16)
(.leaf ⟨y17, y18, y11⟩)
.fail)
(.br (S.zqbt_1_j y1 y2 y3 y4 y5 y6 y7 y8 y9 2)
(.br (y16)
(.leaf ⟨y17, y18, y11⟩)
.fail)
.fail)))
.fail)
def S.zqbt (a0_0n : Option Bool) (a0_0f : Bool) (a0_0 : List (Ty .step)) (a0_1 : Int) (a0_2 : Int) (a0_3 : Int) (a0_4 : Int) (a1n : Option Bool) (a1f : Bool) (a1 : List (Ty .evt)) (a2 : Int) : Option S.zqbt_T := (S.zqbt_R a0_0n a0_0f a0_0 a0_1 a0_2 a0_3 a0_4 a1n a1f a1 a2).run
def S.zqbt_is (a0_0n : Option Bool) (a0_0f : Bool) (a0_0 : List (Ty .step)) (a0_1 : Int) (a0_2 : Int) (a0_3 : Int) (a0_4 : Int) (a1n : Option Bool) (a1f : Bool) (a1 : List (Ty .evt)) (a2 : Int) : Bool := (S.zqbt a0_0n a0_0f a0_0 a0_1 a0_2 a0_3 a0_4 a1n a1f a1 a2).isSome
def S.zqbt_o (a0_0n : Option Bool) (a0_0f : Bool) (a0_0 : List (Ty .step)) (a0_1 : Int) (a0_2 : Int) (a0_3 : Int) (a0_4 : Int) (a1n : Option Bool) (a1f : Bool) (a1 : List (Ty .evt)) (a2 : Int) : S.zqbt_T := (S.zqbt a0_0n a0_0f a0_0 a0_1 a0_2 a0_3 a0_4 a1n a1f a1 a2).getD default
def ret_zqbt (b : Bool) (r : S.zqbt_T) : Ret := ⟨b, some (81, (⟨ET.mat, r.x0⟩ : (t : ET) × List (Ty t))), [(false, [C.own 0 ET.mat r.x1 0 r.x2])]⟩
def g_zqbt : Con
  | [(true, [.sl a0_0n a0_0f .step a0_0, .sc (.int .i64 a0_1), .sc (.int .i64 a0_2), .sc (.int .i64 a0_3), .sc (.int .i64 a0_4)]), (false, [.sl a1n a1f .evt a1]), (false, [.sc (.int .i64 a2)])] => some (ret_zqbt (S.zqbt_is a0_0n a0_0f a0_0 a0_1 a0_2 a0_3 a0_4 a1n a1f a1 a2) (S.zqbt_o a0_0n a0_0f a0_0 a0_1 a0_2 a0_3 a0_4 a1n a1f a1 a2))
  | _ => none
theorem raw_zqbt (a0_0n : Option Bool) (a0_0f : Bool) (a0_0 : List (Ty .step)) (a0_1 : Int) (a0_2 : Int) (a0_3 : Int) (a0_4 : Int) (a1n : Option Bool) (a1f : Bool) (a1 : List (Ty .evt)) (a2 : Int) : evR4 cx_zqbt (hdT cx_zqbt (find [(1, T_zqbt_1)]) [(140, Try.f140)] none 3) none Try.f73 73 (some 81) [(true, [.sl a0_0n a0_0f .step a0_0, .sc (.int .i64 a0_1), .sc (.int .i64 a0_2), .sc (.int .i64 a0_3), .sc (.int .i64 a0_4)]), (false, [.sl a1n a1f .evt a1]), (false, [.sc (.int .i64 a2)])] some = (S.zqbt_R a0_0n a0_0f a0_0 a0_1 a0_2 a0_3 a0_4 a1n a1f a1 a2).go (ret_zqbt true) := by kernel_rfl
theorem bs_zqbt : loopsIn Try.f73 [(140, Try.f140)] ++ loopsRf [(5, rfAt 73 Try.f73)] = [b_zqbt_1] := by kernel_rfl
theorem zqbt_ok : Stands Try.prog tyTab 73 g_zqbt := by
  refine stands4 (L := find [(1, T_zqbt_1)]) (n := 3) (hints := [(73, 5, { keep := [7, 8], acc := [] }), (140, 1, { keep := [0, 1, 2, 8, 9], acc := [(1002, some 0, .mat, 81)] })]) (cx_ok rfl) rdy_zqbt prs_zqbt ⟨by kernel_rfl, by kernel_rfl, by kernel_rfl⟩ (rfsOk_one (by kernel_rfl) (by kernel_rfl)) bs_zqbt (consB (fun T h => by have e : T_zqbt_1 = T := Option.some.inj (show some T_zqbt_1 = some T from h); exact e ▸ lok_zqbt_1) nilB) (fun das r hG hr => ?_)
  unfold g_zqbt at hG
  split at hG
  · rename_i a0_0n a0_0f a0_0 a0_1 a0_2 a0_3 a0_4 a1n a1f a1 a2
    injection hG with hG; subst hG
    exact ⟨(some 81), true, win default ((raw_zqbt a0_0n a0_0f a0_0 a0_1 a0_2 a0_3 a0_4 a1n a1f a1 a2).trans (DT.go_run _ _)) hr⟩
  · cases hG
end
end Go.Eng
