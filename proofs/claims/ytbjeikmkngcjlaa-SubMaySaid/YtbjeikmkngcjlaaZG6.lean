/- Contracts, laid by program. -/
import Derived.Test.YtbjeikmkngcjlaaZG5
set_option maxHeartbeats 2000000
set_option linter.unusedVariables false
set_option linter.unusedSimpArgs false
namespace Go.Eng
noncomputable section
open Go Go.Eng Go.Proofs Go.Eng.Tab
abbrev cx_match_May_1 : Cx := mkCx2 tyTab [(53, g_run_May)] [] [] []
theorem rdy_match_May_1 : Ready Try.prog tyTab [(53, g_run_May)] [] [] := ⟨consG2 run_May_ok (noneG2), noneI2, noneF2⟩
structure S.match_May_1_T where
  x0 : Bool
  deriving Inhabited
def S.match_May_1_R (a0_2 : Int) (a0_3 : Int) (a0_4 : Int) (c0 : List (Ty .step)) : DT S.match_May_1_T :=
(.br (S.run_May_is c0 a0_2 a0_3 a0_4)
(.leaf ⟨xnot (S.run_May_o c0 a0_2 a0_3 a0_4).x0⟩)
.fail)
def S.match_May_1 (a0_2 : Int) (a0_3 : Int) (a0_4 : Int) (c0 : List (Ty .step)) : Option S.match_May_1_T := (S.match_May_1_R a0_2 a0_3 a0_4 c0).run
def S.match_May_1_is (a0_2 : Int) (a0_3 : Int) (a0_4 : Int) (c0 : List (Ty .step)) : Bool := (S.match_May_1 a0_2 a0_3 a0_4 c0).isSome
def S.match_May_1_o (a0_2 : Int) (a0_3 : Int) (a0_4 : Int) (c0 : List (Ty .step)) : S.match_May_1_T := (S.match_May_1 a0_2 a0_3 a0_4 c0).getD default
def ret_match_May_1 (b : Bool) (r : S.match_May_1_T) : Ret := ⟨b, none, [(false, [C.d (.sc (.bool r.x0))])]⟩
def g_match_May_1 : Con
  | [(true, [.sc (.int .i64 a0_0), .sc (.int .i64 a0_1), .sc (.int .i64 a0_2), .sc (.int .i64 a0_3), .sc (.int .i64 a0_4), .sc (.int .i64 a0_5), .sc (.bool a0_6)]), (false, [.ref [.sl c0n c0f .step c0, .sc (.int .i64 c1), .sc (.int .i64 c2), .sc (.int .i64 c3), .sc (.int .i64 c4), .sl c5n c5f .run c5, .sc (.int .i64 c6)]])] => some (ret_match_May_1 (S.match_May_1_is a0_2 a0_3 a0_4 c0) (S.match_May_1_o a0_2 a0_3 a0_4 c0))
  | _ => none
theorem raw_match_May_1 (a0_0 : Int) (a0_1 : Int) (a0_2 : Int) (a0_3 : Int) (a0_4 : Int) (a0_5 : Int) (a0_6 : Bool) (c0n : Option Bool) (c0f : Bool) (c0 : List (Ty .step)) (c1 : Int) (c2 : Int) (c3 : Int) (c4 : Int) (c5n : Option Bool) (c5f : Bool) (c5 : List (Ty .run)) (c6 : Int) : evR2 cx_match_May_1 (hdI cx_match_May_1 (find []) [] none 0) none Try.f99 99 none [(true, [.sc (.int .i64 a0_0), .sc (.int .i64 a0_1), .sc (.int .i64 a0_2), .sc (.int .i64 a0_3), .sc (.int .i64 a0_4), .sc (.int .i64 a0_5), .sc (.bool a0_6)]), (false, [.ref [.sl c0n c0f .step c0, .sc (.int .i64 c1), .sc (.int .i64 c2), .sc (.int .i64 c3), .sc (.int .i64 c4), .sl c5n c5f .run c5, .sc (.int .i64 c6)]])] some = (S.match_May_1_R a0_2 a0_3 a0_4 c0).go (ret_match_May_1 true) := by kernel_rfl
theorem bs_match_May_1 : loopsIn Try.f99 [] = [] := by kernel_rfl
theorem match_May_1_ok : Stands Try.prog tyTab 99 g_match_May_1 := by
  refine stands3 (L := find []) (n := 0) (hints := []) (cx_ok rfl) rdy_match_May_1 ⟨by kernel_rfl, by kernel_rfl, by kernel_rfl⟩ bs_match_May_1 nilB (fun das r hG hr => ?_)
  unfold g_match_May_1 at hG
  split at hG
  · rename_i a0_0 a0_1 a0_2 a0_3 a0_4 a0_5 a0_6 c0n c0f c0 c1 c2 c3 c4 c5n c5f c5 c6
    injection hG with hG; subst hG
    exact ⟨none, true, win default ((raw_match_May_1 a0_0 a0_1 a0_2 a0_3 a0_4 a0_5 a0_6 c0n c0f c0 c1 c2 c3 c4 c5n c5f c5 c6).trans (DT.go_run _ _)) hr⟩
  · cases hG
abbrev cx_IndexFunc_Run_may : Cx := mkCx2 tyTab [(99, g_match_May_1)] [] [(133, 2, { keep := [0, 1, 7, 8], acc := [] })] []
theorem rdy_IndexFunc_Run_may : Ready Try.prog tyTab [(99, g_match_May_1)] [] [] := ⟨consG2 match_May_1_ok (noneG2), noneI2, noneF2⟩
structure S.IndexFunc_Run_may_2_V where
  t_8_0 : Int
def S.IndexFunc_Run_may_2_R (qA : List (Ty .run)) (t_1_0b_0_0 : List (Ty .step)) (qB : Int) (v : S.IndexFunc_Run_may_2_V) : DT (Option Nat × S.IndexFunc_Run_may_2_V) :=
let y0 : Ty ET.run := qA.getD v.t_8_0.toNat (dflt ET.run)
let y1 : Int := y0.step
let y2 : Int := y0.n
let y3 : Int := y0.many
(.br (xdec (v.t_8_0 < qB))
(.br (xdec (0 ≤ v.t_8_0) && xdec (v.t_8_0 < (↑qA.length : Int)))
(.br (S.match_May_1_is y1 y2 y3 t_1_0b_0_0)
(.br ((S.match_May_1_o y1 y2 y3 t_1_0b_0_0).x0)
(.leaf (some 0, v))
(.leaf (none, ⟨xwrap IntKind.i64 (v.t_8_0 + 1)⟩)))
.fail)
.fail)
(.leaf (some 1, v)))
def S.IndexFunc_Run_may_2_r (qA : List (Ty .run)) (t_1_0b_0_0 : List (Ty .step)) (qB : Int) (v : S.IndexFunc_Run_may_2_V) : Option (Option Nat × S.IndexFunc_Run_may_2_V) := (S.IndexFunc_Run_may_2_R qA t_1_0b_0_0 qB v).run
def S.IndexFunc_Run_may_2_j (qA : List (Ty .run)) (t_1_0b_0_0 : List (Ty .step)) (qB : Int) (v : S.IndexFunc_Run_may_2_V) (j : Nat) : Bool := Lp_j (S.IndexFunc_Run_may_2_r qA t_1_0b_0_0 qB) v j
def S.IndexFunc_Run_may_2_v (qA : List (Ty .run)) (t_1_0b_0_0 : List (Ty .step)) (qB : Int) (v : S.IndexFunc_Run_may_2_V) : S.IndexFunc_Run_may_2_V := Lp_v (S.IndexFunc_Run_may_2_r qA t_1_0b_0_0 qB) v
def mk_IndexFunc_Run_may_2 (qC : Option Bool) (qD : Bool) (qA : List (Ty .run)) (t_1_0b_0_0n : Option Bool) (t_1_0b_0_0f : Bool) (t_1_0b_0_0 : List (Ty .step)) (t_1_0b_0_1 : Int) (t_1_0b_0_2 : Int) (t_1_0b_0_3 : Int) (t_1_0b_0_4 : Int) (t_1_0b_0_5n : Option Bool) (t_1_0b_0_5f : Bool) (t_1_0b_0_5 : List (Ty .run)) (t_1_0b_0_6 : Int) (qB : Int) (v : S.IndexFunc_Run_may_2_V) : St := ⟨[V.v false [C.d (.sl qC qD ET.run qA)],
  V.v false
    [C.d
        (D.fn 99 []
          [[D.sl t_1_0b_0_0n t_1_0b_0_0f ET.step t_1_0b_0_0, D.sc (Sc.int IntKind.i64 t_1_0b_0_1), D.sc (Sc.int IntKind.i64 t_1_0b_0_2), D.sc (Sc.int IntKind.i64 t_1_0b_0_3),
              D.sc (Sc.int IntKind.i64 t_1_0b_0_4), D.sl t_1_0b_0_5n t_1_0b_0_5f ET.run t_1_0b_0_5, D.sc (Sc.int IntKind.i64 t_1_0b_0_6)]])],
  V.any, V.any, V.any, V.any, V.any, V.v false [C.d (.sc (.int .i64 qB))], V.v false [C.d (.sc (.int .i64 v.t_8_0))], V.any, V.any, V.any, V.any, V.any,
  V.any, V.any, V.any, V.any, V.any], [none, none, none, none], 0⟩
def ex_IndexFunc_Run_may_2 (qC : Option Bool) (qD : Bool) (qA : List (Ty .run)) (t_1_0b_0_0n : Option Bool) (t_1_0b_0_0f : Bool) (t_1_0b_0_0 : List (Ty .step)) (t_1_0b_0_1 : Int) (t_1_0b_0_2 : Int) (t_1_0b_0_3 : Int) (t_1_0b_0_4 : Int) (t_1_0b_0_5n : Option Bool) (t_1_0b_0_5f : Bool) (t_1_0b_0_5 : List (Ty .run)) (t_1_0b_0_6 : Int) (qB : Int) (j : Nat) (v : S.IndexFunc_Run_may_2_V) : Ex × St := match j with
  | 0 => (Ex.ret, ⟨[V.any, V.any, V.any, V.any, V.v false [C.d (.sc (.int .i64 v.t_8_0))], V.any, V.any, V.any, V.any, V.any, V.any, V.any, V.any, V.any, V.any, V.any, V.any, V.any, V.any], [none, none, none, none, none, none, none, none, none, none, none, none, none, none, none], 0⟩)
  | 1 => (Ex.exit 0, ⟨[V.any, V.any, V.any, V.any, V.any, V.any, V.any, V.any, V.any, V.any, V.any, V.any, V.any, V.any, V.any, V.any, V.any, V.any, V.any], [none, none, none, none, none], 0⟩)
  | _ => (.ret, ⟨[], [], 0⟩)
def T1_IndexFunc_Run_may_2 : V → V → V → V → Tree
  | V.v false [C.d (.sl qC qD ET.run qA)], V.v false [C.d (D.fn 99 [] [[D.sl t_1_0b_0_0n t_1_0b_0_0f ET.step t_1_0b_0_0, D.sc (Sc.int IntKind.i64 t_1_0b_0_1), D.sc (Sc.int IntKind.i64 t_1_0b_0_2), D.sc (Sc.int IntKind.i64 t_1_0b_0_3), D.sc (Sc.int IntKind.i64 t_1_0b_0_4), D.sl t_1_0b_0_5n t_1_0b_0_5f ET.run t_1_0b_0_5, D.sc (Sc.int IntKind.i64 t_1_0b_0_6)]])], V.v false [C.d (.sc (.int .i64 qB))], V.v false [C.d (.sc (.int .i64 t_8_0))] => exT (fun j => ex_IndexFunc_Run_may_2 qC qD qA t_1_0b_0_0n t_1_0b_0_0f t_1_0b_0_0 t_1_0b_0_1 t_1_0b_0_2 t_1_0b_0_3 t_1_0b_0_4 t_1_0b_0_5n t_1_0b_0_5f t_1_0b_0_5 t_1_0b_0_6 qB j (S.IndexFunc_Run_may_2_v qA t_1_0b_0_0 qB ⟨t_8_0⟩)) (S.IndexFunc_Run_may_2_j qA t_1_0b_0_0 qB ⟨t_8_0⟩) [0, 1]
  | _, _, _, _ => .bad
def T_IndexFunc_Run_may_2 (st : St) : Tree := bif okSt 19 4 0 [] st then T1_IndexFunc_Run_may_2 (st.env.getD 0 .any) (st.env.getD 1 .any) (st.env.getD 7 .any) (st.env.getD 8 .any) else .bad
def b_IndexFunc_Run_may_2 : Code := loopBy Try.f133 2
theorem rnd_IndexFunc_Run_may_2 (qC : Option Bool) (qD : Bool) (qA : List (Ty .run)) (t_1_0b_0_0n : Option Bool) (t_1_0b_0_0f : Bool) (t_1_0b_0_0 : List (Ty .step)) (t_1_0b_0_1 : Int) (t_1_0b_0_2 : Int) (t_1_0b_0_3 : Int) (t_1_0b_0_4 : Int) (t_1_0b_0_5n : Option Bool) (t_1_0b_0_5f : Bool) (t_1_0b_0_5 : List (Ty .run)) (t_1_0b_0_6 : Int) (qB : Int) (v : S.IndexFunc_Run_may_2_V) : round2 cx_IndexFunc_Run_may (hdI cx_IndexFunc_Run_may (find []) [] none 0) 133 b_IndexFunc_Run_may_2 [] 4 [4] (mk_IndexFunc_Run_may_2 qC qD qA t_1_0b_0_0n t_1_0b_0_0f t_1_0b_0_0 t_1_0b_0_1 t_1_0b_0_2 t_1_0b_0_3 t_1_0b_0_4 t_1_0b_0_5n t_1_0b_0_5f t_1_0b_0_5 t_1_0b_0_6 qB v) = (S.IndexFunc_Run_may_2_R qA t_1_0b_0_0 qB v).go (roundOut (mk_IndexFunc_Run_may_2 qC qD qA t_1_0b_0_0n t_1_0b_0_0f t_1_0b_0_0 t_1_0b_0_1 t_1_0b_0_2 t_1_0b_0_3 t_1_0b_0_4 t_1_0b_0_5n t_1_0b_0_5f t_1_0b_0_5 t_1_0b_0_6 qB) (ex_IndexFunc_Run_may_2 qC qD qA t_1_0b_0_0n t_1_0b_0_0f t_1_0b_0_0 t_1_0b_0_1 t_1_0b_0_2 t_1_0b_0_3 t_1_0b_0_4 t_1_0b_0_5n t_1_0b_0_5f t_1_0b_0_5 t_1_0b_0_6 qB)) := by kernel_rfl
theorem bs_IndexFunc_Run_may_2 : loopsOf b_IndexFunc_Run_may_2 ++ loopsInl [] = [] := by kernel_rfl
theorem ci_IndexFunc_Run_may_2 (qC : Option Bool) (qD : Bool) (qA : List (Ty .run)) (t_1_0b_0_0n : Option Bool) (t_1_0b_0_0f : Bool) (t_1_0b_0_0 : List (Ty .step)) (t_1_0b_0_1 : Int) (t_1_0b_0_2 : Int) (t_1_0b_0_3 : Int) (t_1_0b_0_4 : Int) (t_1_0b_0_5n : Option Bool) (t_1_0b_0_5f : Bool) (t_1_0b_0_5 : List (Ty .run)) (t_1_0b_0_6 : Int) (qB : Int) : ∀ v j v2, Lp (S.IndexFunc_Run_may_2_r qA t_1_0b_0_0 qB) v = some (j, v2) → Circles Try.prog cx_IndexFunc_Run_may b_IndexFunc_Run_may_2 (mk_IndexFunc_Run_may_2 qC qD qA t_1_0b_0_0n t_1_0b_0_0f t_1_0b_0_0 t_1_0b_0_1 t_1_0b_0_2 t_1_0b_0_3 t_1_0b_0_4 t_1_0b_0_5n t_1_0b_0_5f t_1_0b_0_5 t_1_0b_0_6 qB v) (ex_IndexFunc_Run_may_2 qC qD qA t_1_0b_0_0n t_1_0b_0_0f t_1_0b_0_0 t_1_0b_0_1 t_1_0b_0_2 t_1_0b_0_3 t_1_0b_0_4 t_1_0b_0_5n t_1_0b_0_5f t_1_0b_0_5 t_1_0b_0_6 qB j v2).1 (ex_IndexFunc_Run_may_2 qC qD qA t_1_0b_0_0n t_1_0b_0_0f t_1_0b_0_0 t_1_0b_0_1 t_1_0b_0_2 t_1_0b_0_3 t_1_0b_0_4 t_1_0b_0_5n t_1_0b_0_5f t_1_0b_0_5 t_1_0b_0_6 qB j v2).2 :=
  loop_ok2 (L := find []) (n := 0) (hints := [(133, 2, { keep := [0, 1, 7, 8], acc := [] })]) (cx_ok rfl) rdy_IndexFunc_Run_may bs_IndexFunc_Run_may_2 nilB (fun v => (rnd_IndexFunc_Run_may_2 qC qD qA t_1_0b_0_0n t_1_0b_0_0f t_1_0b_0_0 t_1_0b_0_1 t_1_0b_0_2 t_1_0b_0_3 t_1_0b_0_4 t_1_0b_0_5n t_1_0b_0_5f t_1_0b_0_5 t_1_0b_0_6 qB v).trans (DT.go_run _ _)) (by intro j v; unfold ex_IndexFunc_Run_may_2; split <;> rfl)
theorem mke_IndexFunc_Run_may_2 (qC : Option Bool) (qD : Bool) (qA : List (Ty .run)) (t_1_0b_0_0n : Option Bool) (t_1_0b_0_0f : Bool) (t_1_0b_0_0 : List (Ty .step)) (t_1_0b_0_1 : Int) (t_1_0b_0_2 : Int) (t_1_0b_0_3 : Int) (t_1_0b_0_4 : Int) (t_1_0b_0_5n : Option Bool) (t_1_0b_0_5f : Bool) (t_1_0b_0_5 : List (Ty .run)) (t_1_0b_0_6 : Int) (qB : Int) (v : S.IndexFunc_Run_may_2_V) : mk_IndexFunc_Run_may_2 qC qD qA t_1_0b_0_0n t_1_0b_0_0f t_1_0b_0_0 t_1_0b_0_1 t_1_0b_0_2 t_1_0b_0_3 t_1_0b_0_4 t_1_0b_0_5n t_1_0b_0_5f t_1_0b_0_5 t_1_0b_0_6 qB v = ⟨envOf 19 [(0, V.v false [C.d (.sl qC qD ET.run qA)]), (1, V.v false
  [C.d
      (D.fn 99 []
        [[D.sl t_1_0b_0_0n t_1_0b_0_0f ET.step t_1_0b_0_0, D.sc (Sc.int IntKind.i64 t_1_0b_0_1), D.sc (Sc.int IntKind.i64 t_1_0b_0_2), D.sc (Sc.int IntKind.i64 t_1_0b_0_3),
            D.sc (Sc.int IntKind.i64 t_1_0b_0_4), D.sl t_1_0b_0_5n t_1_0b_0_5f ET.run t_1_0b_0_5, D.sc (Sc.int IntKind.i64 t_1_0b_0_6)]])]), (7, V.v false [C.d (.sc (.int .i64 qB))]), (8, V.v false [C.d (.sc (.int .i64 v.t_8_0))])], heapOf 4 [], 0⟩ := by kernel_rfl
theorem lo1_IndexFunc_Run_may_2 (e0 : V) (e1 : V) (e7 : V) (e8 : V)  e st2 (h : (T1_IndexFunc_Run_may_2 e0 e1 e7 e8).eval = some (e, st2)) : Circles Try.prog cx_IndexFunc_Run_may b_IndexFunc_Run_may_2 ⟨envOf 19 [(0, e0), (1, e1), (7, e7), (8, e8)], heapOf 4 [], 0⟩ e st2 := by
  unfold T1_IndexFunc_Run_may_2 at h
  split at h
  · have := loop_tree (mk := mk_IndexFunc_Run_may_2 _ _ _ _ _ _ _ _ _ _ _ _ _ _ _) (ci_IndexFunc_Run_may_2 _ _ _ _ _ _ _ _ _ _ _ _ _ _ _) _ _ e st2 h
    rw [mke_IndexFunc_Run_may_2] at this
    exact this
  · cases h
theorem lok_IndexFunc_Run_may_2 : LoopOk Try.prog cx_IndexFunc_Run_may b_IndexFunc_Run_may_2 T_IndexFunc_Run_may_2 := by
  intro st e st2 h
  unfold T_IndexFunc_Run_may_2 at h
  cases hk : okSt 19 4 0 [] st with
  | false => rw [hk] at h; cases h
  | true =>
    rw [hk] at h
    exact circles_keep (ks := [0, 1, 7, 8]) hk (lo1_IndexFunc_Run_may_2 _ _ _ _ e st2 h)
structure S.IndexFunc_Run_may_T where
  x0 : Int
  deriving Inhabited
def S.IndexFunc_Run_may_R (a0 : List (Ty .run)) (c0 : List (Ty .step)) : DT S.IndexFunc_Run_may_T :=
let y0 : Int := (↑a0.length : Int)
let y1 : S.IndexFunc_Run_may_2_V := { t_8_0 := 0 : S.IndexFunc_Run_may_2_V }
(.br (S.IndexFunc_Run_may_2_j a0 c0 y0 y1 0)
(.leaf ⟨(S.IndexFunc_Run_may_2_v a0 c0 y0 y1).t_8_0⟩)
(.br (S.IndexFunc_Run_may_2_j a0 c0 y0 y1 1)
(.leaf ⟨-1⟩)
.fail))
def S.IndexFunc_Run_may (a0 : List (Ty .run)) (c0 : List (Ty .step)) : Option S.IndexFunc_Run_may_T := (S.IndexFunc_Run_may_R a0 c0).run
def S.IndexFunc_Run_may_is (a0 : List (Ty .run)) (c0 : List (Ty .step)) : Bool := (S.IndexFunc_Run_may a0 c0).isSome
def S.IndexFunc_Run_may_o (a0 : List (Ty .run)) (c0 : List (Ty .step)) : S.IndexFunc_Run_may_T := (S.IndexFunc_Run_may a0 c0).getD default
def ret_IndexFunc_Run_may (b : Bool) (r : S.IndexFunc_Run_may_T) : Ret := ⟨b, none, [(false, [C.d (.sc (.int .i64 r.x0))])]⟩
def g_IndexFunc_Run_may : Con
  | [(false, [.sl a0n a0f .run a0]), (false, [.fn 99 [] [[.sl c0n c0f .step c0, .sc (.int .i64 c1), .sc (.int .i64 c2), .sc (.int .i64 c3), .sc (.int .i64 c4), .sl c5n c5f .run c5, .sc (.int .i64 c6)]]])] => some (ret_IndexFunc_Run_may (S.IndexFunc_Run_may_is a0 c0) (S.IndexFunc_Run_may_o a0 c0))
  | _ => none
theorem raw_IndexFunc_Run_may (a0n : Option Bool) (a0f : Bool) (a0 : List (Ty .run)) (c0n : Option Bool) (c0f : Bool) (c0 : List (Ty .step)) (c1 : Int) (c2 : Int) (c3 : Int) (c4 : Int) (c5n : Option Bool) (c5f : Bool) (c5 : List (Ty .run)) (c6 : Int) : evR2 cx_IndexFunc_Run_may (hdI cx_IndexFunc_Run_may (find [(2, T_IndexFunc_Run_may_2)]) [] none 0) none Try.f133 133 none [(false, [.sl a0n a0f .run a0]), (false, [.fn 99 [] [[.sl c0n c0f .step c0, .sc (.int .i64 c1), .sc (.int .i64 c2), .sc (.int .i64 c3), .sc (.int .i64 c4), .sl c5n c5f .run c5, .sc (.int .i64 c6)]]])] some = (S.IndexFunc_Run_may_R a0 c0).go (ret_IndexFunc_Run_may true) := by kernel_rfl
theorem bs_IndexFunc_Run_may : loopsIn Try.f133 [] = [b_IndexFunc_Run_may_2] := by kernel_rfl
theorem IndexFunc_Run_may_ok : Stands Try.prog tyTab 133 g_IndexFunc_Run_may := by
  refine stands3 (L := find [(2, T_IndexFunc_Run_may_2)]) (n := 0) (hints := [(133, 2, { keep := [0, 1, 7, 8], acc := [] })]) (cx_ok rfl) rdy_IndexFunc_Run_may ⟨by kernel_rfl, by kernel_rfl, by kernel_rfl⟩ bs_IndexFunc_Run_may (consB (fun T h => by have e : T_IndexFunc_Run_may_2 = T := Option.some.inj (show some T_IndexFunc_Run_may_2 = some T from h); exact e ▸ lok_IndexFunc_Run_may_2) nilB) (fun das r hG hr => ?_)
  unfold g_IndexFunc_Run_may at hG
  split at hG
  · rename_i a0n a0f a0 c0n c0f c0 c1 c2 c3 c4 c5n c5f c5 c6
    injection hG with hG; subst hG
    exact ⟨none, true, win default ((raw_IndexFunc_Run_may a0n a0f a0 c0n c0f c0 c1 c2 c3 c4 c5n c5f c5 c6).trans (DT.go_run _ _)) hr⟩
  · cases hG
abbrev cx_ContainsFunc_Run_may : Cx := mkCx2 tyTab [(133, g_IndexFunc_Run_may)] [] [] []
theorem rdy_ContainsFunc_Run_may : Ready Try.prog tyTab [(133, g_IndexFunc_Run_may)] [] [] := ⟨consG2 IndexFunc_Run_may_ok (noneG2), noneI2, noneF2⟩
structure S.ContainsFunc_Run_may_T where
  x0 : Bool
  deriving Inhabited
def S.ContainsFunc_Run_may_R (a0 : List (Ty .run)) (c0 : List (Ty .step)) : DT S.ContainsFunc_Run_may_T :=
(.br (S.IndexFunc_Run_may_is a0 c0)
(.leaf ⟨xdec ((S.IndexFunc_Run_may_o a0 c0).x0 ≥ 0)⟩)
.fail)
def S.ContainsFunc_Run_may (a0 : List (Ty .run)) (c0 : List (Ty .step)) : Option S.ContainsFunc_Run_may_T := (S.ContainsFunc_Run_may_R a0 c0).run
def S.ContainsFunc_Run_may_is (a0 : List (Ty .run)) (c0 : List (Ty .step)) : Bool := (S.ContainsFunc_Run_may a0 c0).isSome
def S.ContainsFunc_Run_may_o (a0 : List (Ty .run)) (c0 : List (Ty .step)) : S.ContainsFunc_Run_may_T := (S.ContainsFunc_Run_may a0 c0).getD default
def ret_ContainsFunc_Run_may (b : Bool) (r : S.ContainsFunc_Run_may_T) : Ret := ⟨b, none, [(false, [C.d (.sc (.bool r.x0))])]⟩
def g_ContainsFunc_Run_may : Con
  | [(false, [.sl a0n a0f .run a0]), (false, [.fn 99 [] [[.sl c0n c0f .step c0, .sc (.int .i64 c1), .sc (.int .i64 c2), .sc (.int .i64 c3), .sc (.int .i64 c4), .sl c5n c5f .run c5, .sc (.int .i64 c6)]]])] => some (ret_ContainsFunc_Run_may (S.ContainsFunc_Run_may_is a0 c0) (S.ContainsFunc_Run_may_o a0 c0))
  | _ => none
theorem raw_ContainsFunc_Run_may (a0n : Option Bool) (a0f : Bool) (a0 : List (Ty .run)) (c0n : Option Bool) (c0f : Bool) (c0 : List (Ty .step)) (c1 : Int) (c2 : Int) (c3 : Int) (c4 : Int) (c5n : Option Bool) (c5f : Bool) (c5 : List (Ty .run)) (c6 : Int) : evR2 cx_ContainsFunc_Run_may (hdI cx_ContainsFunc_Run_may (find []) [] none 0) none Try.f100 100 none [(false, [.sl a0n a0f .run a0]), (false, [.fn 99 [] [[.sl c0n c0f .step c0, .sc (.int .i64 c1), .sc (.int .i64 c2), .sc (.int .i64 c3), .sc (.int .i64 c4), .sl c5n c5f .run c5, .sc (.int .i64 c6)]]])] some = (S.ContainsFunc_Run_may_R a0 c0).go (ret_ContainsFunc_Run_may true) := by kernel_rfl
theorem bs_ContainsFunc_Run_may : loopsIn Try.f100 [] = [] := by kernel_rfl
theorem ContainsFunc_Run_may_ok : Stands Try.prog tyTab 100 g_ContainsFunc_Run_may := by
  refine stands3 (L := find []) (n := 0) (hints := []) (cx_ok rfl) rdy_ContainsFunc_Run_may ⟨by kernel_rfl, by kernel_rfl, by kernel_rfl⟩ bs_ContainsFunc_Run_may nilB (fun das r hG hr => ?_)
  unfold g_ContainsFunc_Run_may at hG
  split at hG
  · rename_i a0n a0f a0 c0n c0f c0 c1 c2 c3 c4 c5n c5f c5 c6
    injection hG with hG; subst hG
    exact ⟨none, true, win default ((raw_ContainsFunc_Run_may a0n a0f a0 c0n c0f c0 c1 c2 c3 c4 c5n c5f c5 c6).trans (DT.go_run _ _)) hr⟩
  · cases hG
abbrev cx_match_May : Cx := mkCx2 tyTab [(100, g_ContainsFunc_Run_may)] [] [] []
theorem rdy_match_May : Ready Try.prog tyTab [(100, g_ContainsFunc_Run_may)] [] [] := ⟨consG2 ContainsFunc_Run_may_ok (noneG2), noneI2, noneF2⟩
structure S.match_May_T where
  x0 : Bool
  deriving Inhabited
def S.match_May_R (a0_0 : List (Ty .step)) (a0_5 : List (Ty .run)) (a0_6 : Int) : DT S.match_May_T :=
let y0 : Int := (↑a0_5.length : Int)
(.br (xdec (y0 > 5))
(.leaf ⟨false⟩)
(.br (S.ContainsFunc_Run_may_is a0_5 a0_0)
(.br ((S.ContainsFunc_Run_may_o a0_5 a0_0).x0)
(.leaf ⟨false⟩)
(.br (xeqI a0_6 (-1))
(.leaf ⟨true⟩)
(.br (xdec (a0_6 ≥ 0))
(.leaf ⟨xeqI y0 0⟩)
(.leaf ⟨false⟩))))
.fail))
def S.match_May (a0_0 : List (Ty .step)) (a0_5 : List (Ty .run)) (a0_6 : Int) : Option S.match_May_T := (S.match_May_R a0_0 a0_5 a0_6).run
def S.match_May_is (a0_0 : List (Ty .step)) (a0_5 : List (Ty .run)) (a0_6 : Int) : Bool := (S.match_May a0_0 a0_5 a0_6).isSome
def S.match_May_o (a0_0 : List (Ty .step)) (a0_5 : List (Ty .run)) (a0_6 : Int) : S.match_May_T := (S.match_May a0_0 a0_5 a0_6).getD default
def ret_match_May (b : Bool) (r : S.match_May_T) : Ret := ⟨b, none, [(false, [C.d (.sc (.bool r.x0))])]⟩
def g_match_May : Con
  | [(true, [.sl a0_0n a0_0f .step a0_0, .sc (.int .i64 a0_1), .sc (.int .i64 a0_2), .sc (.int .i64 a0_3), .sc (.int .i64 a0_4), .sl a0_5n a0_5f .run a0_5, .sc (.int .i64 a0_6)])] => some (ret_match_May (S.match_May_is a0_0 a0_5 a0_6) (S.match_May_o a0_0 a0_5 a0_6))
  | _ => none
theorem raw_match_May (a0_0n : Option Bool) (a0_0f : Bool) (a0_0 : List (Ty .step)) (a0_1 : Int) (a0_2 : Int) (a0_3 : Int) (a0_4 : Int) (a0_5n : Option Bool) (a0_5f : Bool) (a0_5 : List (Ty .run)) (a0_6 : Int) : evR2 cx_match_May (hdI cx_match_May (find []) [] none 0) none Try.f57 57 none [(true, [.sl a0_0n a0_0f .step a0_0, .sc (.int .i64 a0_1), .sc (.int .i64 a0_2), .sc (.int .i64 a0_3), .sc (.int .i64 a0_4), .sl a0_5n a0_5f .run a0_5, .sc (.int .i64 a0_6)])] some = (S.match_May_R a0_0 a0_5 a0_6).go (ret_match_May true) := by kernel_rfl
theorem bs_match_May : loopsIn Try.f57 [] = [] := by kernel_rfl
theorem match_May_ok : Stands Try.prog tyTab 57 g_match_May := by
  refine stands3 (L := find []) (n := 0) (hints := []) (cx_ok rfl) rdy_match_May ⟨by kernel_rfl, by kernel_rfl, by kernel_rfl⟩ bs_match_May nilB (fun das r hG hr => ?_)
  unfold g_match_May at hG
  split at hG
  · rename_i a0_0n a0_0f a0_0 a0_1 a0_2 a0_3 a0_4 a0_5n a0_5f a0_5 a0_6
    injection hG with hG; subst hG
    exact ⟨none, true, win default ((raw_match_May a0_0n a0_0f a0_0 a0_1 a0_2 a0_3 a0_4 a0_5n a0_5f a0_5 a0_6).trans (DT.go_run _ _)) hr⟩
  · cases hG
abbrev cx_Clone_run_nil : Cx := mkCx2 tyTab [] [] [] []
theorem rdy_Clone_run_nil : Ready Try.prog tyTab [] [] [] := ⟨noneG2, noneI2, noneF2⟩
structure S.Clone_run_nil_T where
  x0 : List (Ty .run)
  x1 : Nat
  deriving Inhabited
def S.Clone_run_nil_R  : DT S.Clone_run_nil_T :=
(.leaf ⟨[], 0⟩)
def S.Clone_run_nil  : Option S.Clone_run_nil_T := (S.Clone_run_nil_R ).run
def S.Clone_run_nil_is  : Bool := (S.Clone_run_nil ).isSome
def S.Clone_run_nil_o  : S.Clone_run_nil_T := (S.Clone_run_nil ).getD default
def ret_Clone_run_nil (b : Bool) (r : S.Clone_run_nil_T) : Ret := ⟨b, some (55, (⟨ET.run, r.x0⟩ : (t : ET) × List (Ty t))), [(false, [C.own 4 ET.run false 0 r.x1])]⟩
def g_Clone_run_nil : Con
  | [(false, [.sl (some true) true .run []])] => some (ret_Clone_run_nil (S.Clone_run_nil_is ) (S.Clone_run_nil_o ))
  | _ => none
theorem raw_Clone_run_nil  : evR2 cx_Clone_run_nil (hdI cx_Clone_run_nil (find []) [] none 0) none Try.f101 101 (some 55) [(false, [.sl (some true) true .run []])] some = (S.Clone_run_nil_R ).go (ret_Clone_run_nil true) := by kernel_rfl
theorem bs_Clone_run_nil : loopsIn Try.f101 [] = [] := by kernel_rfl
theorem Clone_run_nil_ok : Stands Try.prog tyTab 101 g_Clone_run_nil := by
  refine stands3 (L := find []) (n := 0) (hints := []) (cx_ok rfl) rdy_Clone_run_nil ⟨by kernel_rfl, by kernel_rfl, by kernel_rfl⟩ bs_Clone_run_nil nilB (fun das r hG hr => ?_)
  unfold g_Clone_run_nil at hG
  split at hG
  · injection hG with hG; subst hG
    exact ⟨(some 55), true, win default ((raw_Clone_run_nil ).trans (DT.go_run _ _)) hr⟩
  · cases hG
abbrev cx_Clone_run_nn : Cx := mkCx2 tyTab [] [] [] []
theorem rdy_Clone_run_nn : Ready Try.prog tyTab [] [] [] := ⟨noneG2, noneI2, noneF2⟩
structure S.Clone_run_nn_T where
  x0 : List (Ty .run)
  x1 : Nat
  deriving Inhabited
def S.Clone_run_nn_R (a0 : List (Ty .run)) : DT S.Clone_run_nn_T :=
let y0 : Nat := 0 + a0.length
(.br (xdec (0 ≤ (List.replicate 0 (dflt ET.run)).length) && xdec (y0 ≤ 1048576))
(.leaf ⟨List.take 0 [] ++ a0, y0⟩)
.fail)
def S.Clone_run_nn (a0 : List (Ty .run)) : Option S.Clone_run_nn_T := (S.Clone_run_nn_R a0).run
def S.Clone_run_nn_is (a0 : List (Ty .run)) : Bool := (S.Clone_run_nn a0).isSome
def S.Clone_run_nn_o (a0 : List (Ty .run)) : S.Clone_run_nn_T := (S.Clone_run_nn a0).getD default
def ret_Clone_run_nn (b : Bool) (r : S.Clone_run_nn_T) : Ret := ⟨b, some (55, (⟨ET.run, r.x0⟩ : (t : ET) × List (Ty t))), [(false, [C.own 5 ET.run false 0 r.x1])]⟩
def g_Clone_run_nn : Con
  | [(false, [.sl (some false) false .run a0])] => some (ret_Clone_run_nn (S.Clone_run_nn_is a0) (S.Clone_run_nn_o a0))
  | _ => none
theorem raw_Clone_run_nn (a0 : List (Ty .run)) : evR2 cx_Clone_run_nn (hdI cx_Clone_run_nn (find []) [] none 0) none Try.f101 101 (some 55) [(false, [.sl (some false) false .run a0])] some = (S.Clone_run_nn_R a0).go (ret_Clone_run_nn true) := by kernel_rfl
theorem bs_Clone_run_nn : loopsIn Try.f101 [] = [] := by kernel_rfl
theorem Clone_run_nn_ok : Stands Try.prog tyTab 101 g_Clone_run_nn := by
  refine stands3 (L := find []) (n := 0) (hints := []) (cx_ok rfl) rdy_Clone_run_nn ⟨by kernel_rfl, by kernel_rfl, by kernel_rfl⟩ bs_Clone_run_nn nilB (fun das r hG hr => ?_)
  unfold g_Clone_run_nn at hG
  split at hG
  · rename_i a0
    injection hG with hG; subst hG
    exact ⟨(some 55), true, win default ((raw_Clone_run_nn a0).trans (DT.go_run _ _)) hr⟩
  · cases hG
def g_Clone_run : Con := fun das => match das with | [(false, [.sl _ _ t2 l])] => if e : t2 = ET.run then some (ret_Clone_run_nn (S.Clone_run_nn_is (e ▸ l)) (S.Clone_run_nn_o (e ▸ l))) else none | _ => none
theorem Clone_run_ok : Stands Try.prog tyTab 101 g_Clone_run := nil_split (t := .run) (r := fun l => ret_Clone_run_nn (S.Clone_run_nn_is l) (S.Clone_run_nn_o l)) Clone_run_nil_ok Clone_run_nn_ok (r0 := ret_Clone_run_nil true (S.Clone_run_nil_o)) (by kernel_rfl) ⟨by kernel_rfl, by kernel_rfl, fun nm => by kernel_rfl⟩ (fun l => rfl)
abbrev cx_match_New : Cx := mkCx2 tyTab [] [] [] []
theorem rdy_match_New : Ready Try.prog tyTab [] [] [] := ⟨noneG2, noneI2, noneF2⟩
structure S.match_New_T where
  x0 : List (Ty .step)
  x1 : Int
  x2 : Int
  x3 : Int
  x4 : Int
  x5 : List (Ty .run)
  x6 : Int
  deriving Inhabited
def S.match_New_R (a0_0 : List (Ty .step)) (a0_1 : Int) (a0_2 : Int) (a0_3 : Int) (a0_4 : Int) : DT S.match_New_T :=
(.leaf ⟨a0_0, a0_1, a0_2, a0_3, a0_4, [], -1⟩)
def S.match_New (a0_0 : List (Ty .step)) (a0_1 : Int) (a0_2 : Int) (a0_3 : Int) (a0_4 : Int) : Option S.match_New_T := (S.match_New_R a0_0 a0_1 a0_2 a0_3 a0_4).run
def S.match_New_is (a0_0 : List (Ty .step)) (a0_1 : Int) (a0_2 : Int) (a0_3 : Int) (a0_4 : Int) : Bool := (S.match_New a0_0 a0_1 a0_2 a0_3 a0_4).isSome
def S.match_New_o (a0_0 : List (Ty .step)) (a0_1 : Int) (a0_2 : Int) (a0_3 : Int) (a0_4 : Int) : S.match_New_T := (S.match_New a0_0 a0_1 a0_2 a0_3 a0_4).getD default
def ret_match_New (b : Bool) (r : S.match_New_T) : Ret := ⟨b, none, [(true,
    [C.d (.sl none false ET.step r.x0), C.d (.sc (.int .i64 r.x1)), C.d (.sc (.int .i64 r.x2)), C.d (.sc (.int .i64 r.x3)),
      C.d (.sc (.int .i64 r.x4)), C.d (.sl none false ET.run r.x5), C.d (.sc (.int .i64 r.x6))])]⟩
def g_match_New : Con
  | [(true, [.sl a0_0n a0_0f .step a0_0, .sc (.int .i64 a0_1), .sc (.int .i64 a0_2), .sc (.int .i64 a0_3), .sc (.int .i64 a0_4)])] => some (ret_match_New (S.match_New_is a0_0 a0_1 a0_2 a0_3 a0_4) (S.match_New_o a0_0 a0_1 a0_2 a0_3 a0_4))
  | _ => none
theorem raw_match_New (a0_0n : Option Bool) (a0_0f : Bool) (a0_0 : List (Ty .step)) (a0_1 : Int) (a0_2 : Int) (a0_3 : Int) (a0_4 : Int) : evR2 cx_match_New (hdI cx_match_New (find []) [] none 0) none Try.f61 61 none [(true, [.sl a0_0n a0_0f .step a0_0, .sc (.int .i64 a0_1), .sc (.int .i64 a0_2), .sc (.int .i64 a0_3), .sc (.int .i64 a0_4)])] some = (S.match_New_R a0_0 a0_1 a0_2 a0_3 a0_4).go (ret_match_New true) := by kernel_rfl
theorem bs_match_New : loopsIn Try.f61 [] = [] := by kernel_rfl
theorem match_New_ok : Stands Try.prog tyTab 61 g_match_New := by
  refine stands3 (L := find []) (n := 0) (hints := []) (cx_ok rfl) rdy_match_New ⟨by kernel_rfl, by kernel_rfl, by kernel_rfl⟩ bs_match_New nilB (fun das r hG hr => ?_)
  unfold g_match_New at hG
  split at hG
  · rename_i a0_0n a0_0f a0_0 a0_1 a0_2 a0_3 a0_4
    injection hG with hG; subst hG
    exact ⟨none, true, win default ((raw_match_New a0_0n a0_0f a0_0 a0_1 a0_2 a0_3 a0_4).trans (DT.go_run _ _)) hr⟩
  · cases hG
abbrev cx_match_Feed : Cx := mkCx2 tyTab [(52, g_run_Begin), (54, g_run_Next), (57, g_match_May), (101, g_Clone_run)] [] [(58, 8, { keep := [3, 4, 5, 6, 8, 9, 10, 39, 40, 41], acc := [(8, some 0, .mat, 81), (10, none, .run, 0)] })] [(102, Try.f102)]
theorem rdy_match_Feed : Ready Try.prog tyTab [(52, g_run_Begin), (54, g_run_Next), (57, g_match_May), (101, g_Clone_run)] [] [(102, Try.f102)] := ⟨consG2 run_Begin_ok (consG2 run_Next_ok (consG2 match_May_ok (consG2 Clone_run_ok (noneG2)))), noneI2, consF2 ⟨by kernel_rfl, by kernel_rfl, by kernel_rfl⟩ (noneF2)⟩
structure S.match_Feed_8_V where
  t_10_0f : Bool
  t_10_0l : Nat
  t_41_0 : Int
  h_18_0f : Bool
  h_18_0l : Nat
  h_33 : List (Ty .mat)
  h_34 : List (Ty .run)
def S.match_Feed_8_R (t_39_0l : Nat) (qE : Int) (qF : List (Ty .step)) (qG : Int) (qH : Int) (qI : Int) (qJ : Int) (qK : ByteArray) (qL : Int) (qM : List (Ty .val)) (qN : Int) (h_30 : List (Ty .run)) (v : S.match_Feed_8_V) : DT (Option Nat × S.match_Feed_8_V) :=
let y0 : Nat := 0 + v.t_41_0.toNat
let y1 : Ty ET.run := h_30.getD y0 (dflt ET.run)
let y2 : Int := y1.first
let y3 : Int := y1.at_
let y4 : Int := y1.step
let y5 : Int := y1.n
let y6 : Int := y1.many
let y7 : Int := y1.agg
let y8 : Bool := y1.bad
let y9 : S.run_Next_T := S.run_Next_o qF qG qH qI qJ y2 y3 y4 y5 y6 y7 y8 qK qL qM
let y10 : Int := y9.x7
let y11 : Nat := 0 + 1
let y12 : Int := y9.x0
let y13 : Int := y9.x5
let y14 : Bool := y9.x6
let y15 : Run := { first := y12, at_ := y9.x1, step := y9.x2, n := y9.x3, many := y9.x4, agg := y13, bad := y14 : Run }
let y16 : Nat := v.t_10_0l + 1
let y17 : Int := xwrap IntKind.i64 (v.t_41_0 + 1)
let y18 : Mat := { start := y12, fin := qN, agg := y13, bad := y14 : Mat }
let y19 : Nat := v.h_18_0l + 1
(.br (xdec (v.t_41_0 < qE))
(.br (xdec (0 ≤ v.t_41_0) && xdec (v.t_41_0 < (↑t_39_0l : Int)))
(.br (xdec (y0 < h_30.length))
(.br (S.run_Next_is qF qG qH qI qJ y2 y3 y4 y5 y6 y7 y8 qK qL qM)
(.br (xeqI y10 0)
(.br (xdec (y11 ≤ ((List.replicate 1 (dflt ET.run)).set 0 y15).length) && xdec (v.t_10_0l ≤ v.h_34.length) && xdec (y16 ≤ 1048576))
(.leaf (none, ⟨false, y16, y17, v.h_18_0f, v.h_18_0l, v.h_33, List.take v.t_10_0l v.h_34 ++ [y15]⟩))
.fail)
(.br (xeqI y10 2)
(.br (xdec (y11 ≤ ((List.replicate 1 (dflt ET.mat)).set 0 y18).length) && xdec (v.h_18_0l ≤ v.h_33.length) && xdec (y19 ≤ 1048576))
(.leaf (none, ⟨v.t_10_0f, v.t_10_0l, y17, false, y19, List.take v.h_18_0l v.h_33 ++ [y18], v.h_34⟩))
.fail)
(.leaf (none, ⟨v.t_10_0f, v.t_10_0l, y17, v.h_18_0f, v.h_18_0l, v.h_33, v.h_34⟩))))
.fail)
.fail)
.fail)
(.leaf (some 0, v)))
def S.match_Feed_8_r (t_39_0l : Nat) (qE : Int) (qF : List (Ty .step)) (qG : Int) (qH : Int) (qI : Int) (qJ : Int) (qK : ByteArray) (qL : Int) (qM : List (Ty .val)) (qN : Int) (h_30 : List (Ty .run)) (v : S.match_Feed_8_V) : Option (Option Nat × S.match_Feed_8_V) := (S.match_Feed_8_R t_39_0l qE qF qG qH qI qJ qK qL qM qN h_30 v).run
def S.match_Feed_8_j (t_39_0l : Nat) (qE : Int) (qF : List (Ty .step)) (qG : Int) (qH : Int) (qI : Int) (qJ : Int) (qK : ByteArray) (qL : Int) (qM : List (Ty .val)) (qN : Int) (h_30 : List (Ty .run)) (v : S.match_Feed_8_V) (j : Nat) : Bool := Lp_j (S.match_Feed_8_r t_39_0l qE qF qG qH qI qJ qK qL qM qN h_30) v j
def S.match_Feed_8_v (t_39_0l : Nat) (qE : Int) (qF : List (Ty .step)) (qG : Int) (qH : Int) (qI : Int) (qJ : Int) (qK : ByteArray) (qL : Int) (qM : List (Ty .val)) (qN : Int) (h_30 : List (Ty .run)) (v : S.match_Feed_8_V) : S.match_Feed_8_V := Lp_v (S.match_Feed_8_r t_39_0l qE qF qG qH qI qJ qK qL qM qN h_30) v
def mk_match_Feed_8 (qO : Bool) (t_39_0l : Nat) (qE : Int) (qP : Option Bool) (qQ : Bool) (qF : List (Ty .step)) (qG : Int) (qH : Int) (qI : Int) (qJ : Int) (qR : Bool) (h_0_5l : Nat) (qS : Int) (qK : ByteArray) (qL : Int) (qT : Option Bool) (qU : Bool) (qM : List (Ty .val)) (qN : Int) (qV : Option Bool) (qW : Bool) (qX : List (Ty .step)) (qY : Int) (qZ : Int) (rA : Int) (rB : Int) (rC : Option Bool) (rD : Bool) (rE : List (Ty .run)) (rF : Int) (h_30 : List (Ty .run)) (v : S.match_Feed_8_V) : St := ⟨[V.any, V.any, V.any, V.v false [C.ptr 0 0], V.v false [C.ptr 1 0], V.v false [C.ptr 2 0], V.v false [C.ptr 3 0], V.any, V.v false [C.ptr 18 0],
  V.v false [C.clo 102 [] [18 + 0, 0 + 2]], V.v false [C.own 34 ET.run v.t_10_0f 0 v.t_10_0l], V.any, V.any, V.any, V.any, V.any, V.any, V.any, V.any, V.any, V.any, V.any, V.any,
  V.any, V.any, V.any, V.any, V.any, V.any, V.any, V.any, V.any, V.any, V.any, V.any, V.any, V.any, V.any, V.any, V.v false [C.own 30 ET.run qO 0 t_39_0l],
  V.v false [C.d (.sc (.int .i64 qE))], V.v false [C.d (.sc (.int .i64 v.t_41_0))], V.any, V.any, V.any, V.any, V.any, V.any, V.any, V.any, V.any, V.any,
  V.any, V.any, V.any, V.any, V.any, V.any, V.any, V.any, V.any, V.any, V.any, V.any, V.any, V.any, V.any, V.any, V.any, V.any, V.any, V.any, V.any, V.any, V.any, V.any, V.any,
  V.any, V.any, V.any, V.any, V.any, V.any, V.any, V.any, V.any, V.any, V.any, V.any, V.any, V.any, V.any, V.any, V.any, V.any, V.any, V.any, V.any, V.any, V.any, V.any, V.any,
  V.any, V.any, V.any], [some
    (Blk.box 71
      [C.d (.sl qP qQ ET.step qF), C.d (.sc (.int .i64 qG)), C.d (.sc (.int .i64 qH)), C.d (.sc (.int .i64 qI)),
        C.d (.sc (.int .i64 qJ)), C.own 7 ET.run qR 0 h_0_5l, C.d (.sc (.int .i64 qS))]),
  some (Blk.box 29 [C.d (.sc (.str qK)), C.d (.sc (.int .i64 qL)), C.d (.sl qT qU ET.val qM)]),
  some (Blk.box 3 [C.d (.sc (.int .i64 qN))]),
  some
    (Blk.box 71
      [C.d (.sl qV qW ET.step qX), C.d (.sc (.int .i64 qY)), C.d (.sc (.int .i64 qZ)), C.d (.sc (.int .i64 rA)),
        C.d (.sc (.int .i64 rB)), C.d (.sl rC rD ET.run rE), C.d (.sc (.int .i64 rF))]),
  none, none, none, none, none, none, none, none, none, none, none, none, none, none, some (Blk.box 73 [C.own 33 ET.mat v.h_18_0f 0 v.h_18_0l]), none, none, none, none, none, none,
  none, none, none, none, none, some (Blk.arr 55 ET.run h_30), none, none, some (Blk.arr 81 ET.mat v.h_33), some (Blk.arr 55 ET.run v.h_34)], 0⟩
def ex_match_Feed_8 (qO : Bool) (t_39_0l : Nat) (qE : Int) (qP : Option Bool) (qQ : Bool) (qF : List (Ty .step)) (qG : Int) (qH : Int) (qI : Int) (qJ : Int) (qR : Bool) (h_0_5l : Nat) (qS : Int) (qK : ByteArray) (qL : Int) (qT : Option Bool) (qU : Bool) (qM : List (Ty .val)) (qN : Int) (qV : Option Bool) (qW : Bool) (qX : List (Ty .step)) (qY : Int) (qZ : Int) (rA : Int) (rB : Int) (rC : Option Bool) (rD : Bool) (rE : List (Ty .run)) (rF : Int) (h_30 : List (Ty .run)) (j : Nat) (v : S.match_Feed_8_V) : Ex × St := match j with
  | 0 => (Ex.exit 0, ⟨[V.any, V.any, V.any, V.v false [C.ptr 0 0], V.v false [C.ptr 1 0], V.v false [C.ptr 2 0], V.v false [C.ptr 3 0], V.any, V.v false [C.ptr 18 0],
  V.v false [C.clo 102 [] [18 + 0, 0 + 2]], V.v false [C.own 34 ET.run v.t_10_0f 0 v.t_10_0l], V.any, V.any, V.any, V.any, V.any, V.any, V.any, V.any, V.any, V.any, V.any, V.any,
  V.any, V.any, V.any, V.any, V.any, V.any, V.any, V.any, V.any, V.any, V.any, V.any, V.any, V.any, V.any, V.any, V.any, V.any, V.any, V.any, V.any, V.any, V.any, V.any, V.any,
  V.any, V.any, V.any, V.any, V.any, V.any, V.any, V.any, V.any, V.any, V.any, V.any, V.any, V.any, V.any, V.any, V.any, V.any, V.any, V.any, V.any, V.any, V.any, V.any, V.any,
  V.any, V.any, V.any, V.any, V.any, V.any, V.any, V.any, V.any, V.any, V.any, V.any, V.any, V.any, V.any, V.any, V.any, V.any, V.any, V.any, V.any, V.any, V.any, V.any, V.any,
  V.any, V.any, V.any, V.any, V.any, V.any, V.any], [some
    (Blk.box 71
      [C.d (.sl qP qQ ET.step qF), C.d (.sc (.int .i64 qG)), C.d (.sc (.int .i64 qH)), C.d (.sc (.int .i64 qI)),
        C.d (.sc (.int .i64 qJ)), C.own 7 ET.run qR 0 h_0_5l, C.d (.sc (.int .i64 qS))]),
  some (Blk.box 29 [C.d (.sc (.str qK)), C.d (.sc (.int .i64 qL)), C.d (.sl qT qU ET.val qM)]),
  some (Blk.box 3 [C.d (.sc (.int .i64 qN))]),
  some
    (Blk.box 71
      [C.d (.sl qV qW ET.step qX), C.d (.sc (.int .i64 qY)), C.d (.sc (.int .i64 qZ)), C.d (.sc (.int .i64 rA)),
        C.d (.sc (.int .i64 rB)), C.d (.sl rC rD ET.run rE), C.d (.sc (.int .i64 rF))]),
  none, none, none, none, none, none, none, none, none, none, none, none, none, none, some (Blk.box 73 [C.own 33 ET.mat v.h_18_0f 0 v.h_18_0l]), none, none, none, none, none, none,
  none, none, none, none, none, some (Blk.arr 55 ET.run h_30), none, none, some (Blk.arr 81 ET.mat v.h_33), some (Blk.arr 55 ET.run v.h_34), none], 0⟩)
  | _ => (.ret, ⟨[], [], 0⟩)
def T1_match_Feed_8 : V → V → V → V → V → V → V → V → V → V → Option Blk → Option Blk → Option Blk → Option Blk → Option Blk → Option Blk → Option Blk → Option Blk → Tree
  | V.v false [C.ptr 0 0], V.v false [C.ptr 1 0], V.v false [C.ptr 2 0], V.v false [C.ptr 3 0], V.v false [C.ptr 18 0], V.v false [C.clo 102 [] [18 + 0, 0 + 2]], V.v false [C.own 34 ET.run t_10_0f 0 t_10_0l], V.v false [C.own 30 ET.run qO 0 t_39_0l], V.v false [C.d (.sc (.int .i64 qE))], V.v false [C.d (.sc (.int .i64 t_41_0))], some (Blk.box 71 [C.d (.sl qP qQ ET.step qF), C.d (.sc (.int .i64 qG)), C.d (.sc (.int .i64 qH)), C.d (.sc (.int .i64 qI)), C.d (.sc (.int .i64 qJ)), C.own 7 ET.run qR 0 h_0_5l, C.d (.sc (.int .i64 qS))]), some (Blk.box 29 [C.d (.sc (.str qK)), C.d (.sc (.int .i64 qL)), C.d (.sl qT qU ET.val qM)]), some (Blk.box 3 [C.d (.sc (.int .i64 qN))]), some (Blk.box 71 [C.d (.sl qV qW ET.step qX), C.d (.sc (.int .i64 qY)), C.d (.sc (.int .i64 qZ)), C.d (.sc (.int .i64 rA)), C.d (.sc (.int .i64 rB)), C.d (.sl rC rD ET.run rE), C.d (.sc (.int .i64 rF))]), some (Blk.box 73 [C.own 33 ET.mat h_18_0f 0 h_18_0l]), some (Blk.arr 55 ET.run h_30), some (Blk.arr 81 ET.mat h_33), some (Blk.arr 55 ET.run h_34) => exT (fun j => ex_match_Feed_8 qO t_39_0l qE qP qQ qF qG qH qI qJ qR h_0_5l qS qK qL qT qU qM qN qV qW qX qY qZ rA rB rC rD rE rF h_30 j (S.match_Feed_8_v t_39_0l qE qF qG qH qI qJ qK qL qM qN h_30 ⟨t_10_0f, t_10_0l, t_41_0, h_18_0f, h_18_0l, h_33, h_34⟩)) (S.match_Feed_8_j t_39_0l qE qF qG qH qI qJ qK qL qM qN h_30 ⟨t_10_0f, t_10_0l, t_41_0, h_18_0f, h_18_0l, h_33, h_34⟩) [0]
  | _, _, _, _, _, _, _, _, _, _, _, _, _, _, _, _, _, _ => .bad
def T_match_Feed_8 (st : St) : Tree := bif okSt 105 35 0 [0, 1, 2, 3, 18, 30, 33, 34] st then T1_match_Feed_8 (st.env.getD 3 .any) (st.env.getD 4 .any) (st.env.getD 5 .any) (st.env.getD 6 .any) (st.env.getD 8 .any) (st.env.getD 9 .any) (st.env.getD 10 .any) (st.env.getD 39 .any) (st.env.getD 40 .any) (st.env.getD 41 .any) (lk st.heap 0) (lk st.heap 1) (lk st.heap 2) (lk st.heap 3) (lk st.heap 18) (lk st.heap 30) (lk st.heap 33) (lk st.heap 34) else .bad
def b_match_Feed_8 : Code := loopBy Try.f58 8
theorem rnd_match_Feed_8 (qO : Bool) (t_39_0l : Nat) (qE : Int) (qP : Option Bool) (qQ : Bool) (qF : List (Ty .step)) (qG : Int) (qH : Int) (qI : Int) (qJ : Int) (qR : Bool) (h_0_5l : Nat) (qS : Int) (qK : ByteArray) (qL : Int) (qT : Option Bool) (qU : Bool) (qM : List (Ty .val)) (qN : Int) (qV : Option Bool) (qW : Bool) (qX : List (Ty .step)) (qY : Int) (qZ : Int) (rA : Int) (rB : Int) (rC : Option Bool) (rD : Bool) (rE : List (Ty .run)) (rF : Int) (h_30 : List (Ty .run)) (v : S.match_Feed_8_V) : round2 cx_match_Feed (hdI cx_match_Feed (find []) [(102, Try.f102)] none 3) 58 b_match_Feed_8 [33, 34] 35 [3, 4, 5, 6, 8, 9, 10] (mk_match_Feed_8 qO t_39_0l qE qP qQ qF qG qH qI qJ qR h_0_5l qS qK qL qT qU qM qN qV qW qX qY qZ rA rB rC rD rE rF h_30 v) = (S.match_Feed_8_R t_39_0l qE qF qG qH qI qJ qK qL qM qN h_30 v).go (roundOut (mk_match_Feed_8 qO t_39_0l qE qP qQ qF qG qH qI qJ qR h_0_5l qS qK qL qT qU qM qN qV qW qX qY qZ rA rB rC rD rE rF h_30) (ex_match_Feed_8 qO t_39_0l qE qP qQ qF qG qH qI qJ qR h_0_5l qS qK qL qT qU qM qN qV qW qX qY qZ rA rB rC rD rE rF h_30)) := by kernel_rfl
theorem bs_match_Feed_8 : loopsOf b_match_Feed_8 ++ loopsInl [(102, Try.f102)] = [] := by kernel_rfl
theorem ci_match_Feed_8 (qO : Bool) (t_39_0l : Nat) (qE : Int) (qP : Option Bool) (qQ : Bool) (qF : List (Ty .step)) (qG : Int) (qH : Int) (qI : Int) (qJ : Int) (qR : Bool) (h_0_5l : Nat) (qS : Int) (qK : ByteArray) (qL : Int) (qT : Option Bool) (qU : Bool) (qM : List (Ty .val)) (qN : Int) (qV : Option Bool) (qW : Bool) (qX : List (Ty .step)) (qY : Int) (qZ : Int) (rA : Int) (rB : Int) (rC : Option Bool) (rD : Bool) (rE : List (Ty .run)) (rF : Int) (h_30 : List (Ty .run)) : ∀ v j v2, Lp (S.match_Feed_8_r t_39_0l qE qF qG qH qI qJ qK qL qM qN h_30) v = some (j, v2) → Circles Try.prog cx_match_Feed b_match_Feed_8 (mk_match_Feed_8 qO t_39_0l qE qP qQ qF qG qH qI qJ qR h_0_5l qS qK qL qT qU qM qN qV qW qX qY qZ rA rB rC rD rE rF h_30 v) (ex_match_Feed_8 qO t_39_0l qE qP qQ qF qG qH qI qJ qR h_0_5l qS qK qL qT qU qM qN qV qW qX qY qZ rA rB rC rD rE rF h_30 j v2).1 (ex_match_Feed_8 qO t_39_0l qE qP qQ qF qG qH qI qJ qR h_0_5l qS qK qL qT qU qM qN qV qW qX qY qZ rA rB rC rD rE rF h_30 j v2).2 :=
  loop_ok2 (L := find []) (n := 3) (hints := [(58, 8, { keep := [3, 4, 5, 6, 8, 9, 10, 39, 40, 41], acc := [(8, some 0, .mat, 81), (10, none, .run, 0)] })]) (cx_ok rfl) rdy_match_Feed bs_match_Feed_8 nilB (fun v => (rnd_match_Feed_8 qO t_39_0l qE qP qQ qF qG qH qI qJ qR h_0_5l qS qK qL qT qU qM qN qV qW qX qY qZ rA rB rC rD rE rF h_30 v).trans (DT.go_run _ _)) (by intro j v; unfold ex_match_Feed_8; split <;> rfl)
theorem mke_match_Feed_8 (qO : Bool) (t_39_0l : Nat) (qE : Int) (qP : Option Bool) (qQ : Bool) (qF : List (Ty .step)) (qG : Int) (qH : Int) (qI : Int) (qJ : Int) (qR : Bool) (h_0_5l : Nat) (qS : Int) (qK : ByteArray) (qL : Int) (qT : Option Bool) (qU : Bool) (qM : List (Ty .val)) (qN : Int) (qV : Option Bool) (qW : Bool) (qX : List (Ty .step)) (qY : Int) (qZ : Int) (rA : Int) (rB : Int) (rC : Option Bool) (rD : Bool) (rE : List (Ty .run)) (rF : Int) (h_30 : List (Ty .run)) (v : S.match_Feed_8_V) : mk_match_Feed_8 qO t_39_0l qE qP qQ qF qG qH qI qJ qR h_0_5l qS qK qL qT qU qM qN qV qW qX qY qZ rA rB rC rD rE rF h_30 v = ⟨envOf 105 [(3, V.v false [C.ptr 0 0]), (4, V.v false [C.ptr 1 0]), (5, V.v false [C.ptr 2 0]), (6, V.v false [C.ptr 3 0]), (8, V.v false [C.ptr 18 0]), (9, V.v false [C.clo 102 [] [18 + 0, 0 + 2]]), (10, V.v false [C.own 34 ET.run v.t_10_0f 0 v.t_10_0l]), (39, V.v false [C.own 30 ET.run qO 0 t_39_0l]), (40, V.v false [C.d (.sc (.int .i64 qE))]), (41, V.v false [C.d (.sc (.int .i64 v.t_41_0))])], heapOf 35 [(0, some
  (Blk.box 71
    [C.d (.sl qP qQ ET.step qF), C.d (.sc (.int .i64 qG)), C.d (.sc (.int .i64 qH)), C.d (.sc (.int .i64 qI)),
      C.d (.sc (.int .i64 qJ)), C.own 7 ET.run qR 0 h_0_5l, C.d (.sc (.int .i64 qS))])), (1, some (Blk.box 29 [C.d (.sc (.str qK)), C.d (.sc (.int .i64 qL)), C.d (.sl qT qU ET.val qM)])), (2, some (Blk.box 3 [C.d (.sc (.int .i64 qN))])), (3, some
  (Blk.box 71
    [C.d (.sl qV qW ET.step qX), C.d (.sc (.int .i64 qY)), C.d (.sc (.int .i64 qZ)), C.d (.sc (.int .i64 rA)),
      C.d (.sc (.int .i64 rB)), C.d (.sl rC rD ET.run rE), C.d (.sc (.int .i64 rF))])), (18, some (Blk.box 73 [C.own 33 ET.mat v.h_18_0f 0 v.h_18_0l])), (30, some (Blk.arr 55 ET.run h_30)), (33, some (Blk.arr 81 ET.mat v.h_33)), (34, some (Blk.arr 55 ET.run v.h_34))], 0⟩ := by kernel_rfl
theorem lo1_match_Feed_8 (e3 : V) (e4 : V) (e5 : V) (e6 : V) (e8 : V) (e9 : V) (e10 : V) (e39 : V) (e40 : V) (e41 : V) (h0 : Option Blk) (h1 : Option Blk) (h2 : Option Blk) (h3 : Option Blk) (h18 : Option Blk) (h30 : Option Blk) (h33 : Option Blk) (h34 : Option Blk) e st2 (h : (T1_match_Feed_8 e3 e4 e5 e6 e8 e9 e10 e39 e40 e41 h0 h1 h2 h3 h18 h30 h33 h34).eval = some (e, st2)) : Circles Try.prog cx_match_Feed b_match_Feed_8 ⟨envOf 105 [(3, e3), (4, e4), (5, e5), (6, e6), (8, e8), (9, e9), (10, e10), (39, e39), (40, e40), (41, e41)], heapOf 35 [(0, h0), (1, h1), (2, h2), (3, h3), (18, h18), (30, h30), (33, h33), (34, h34)], 0⟩ e st2 := by
  unfold T1_match_Feed_8 at h
  split at h
  · have := loop_tree (mk := mk_match_Feed_8 _ _ _ _ _ _ _ _ _ _ _ _ _ _ _ _ _ _ _ _ _ _ _ _ _ _ _ _ _ _ _) (ci_match_Feed_8 _ _ _ _ _ _ _ _ _ _ _ _ _ _ _ _ _ _ _ _ _ _ _ _ _ _ _ _ _ _ _) _ _ e st2 h
    rw [mke_match_Feed_8] at this
    exact this
  · cases h
theorem lok_match_Feed_8 : LoopOk Try.prog cx_match_Feed b_match_Feed_8 T_match_Feed_8 := by
  intro st e st2 h
  unfold T_match_Feed_8 at h
  cases hk : okSt 105 35 0 [0, 1, 2, 3, 18, 30, 33, 34] st with
  | false => rw [hk] at h; cases h
  | true =>
    rw [hk] at h
    exact circles_keep (ks := [3, 4, 5, 6, 8, 9, 10, 39, 40, 41]) hk (lo1_match_Feed_8 _ _ _ _ _ _ _ _ _ _ _ _ _ _ _ _ _ _ e st2 h)
structure S.match_Feed_T where
  x0 : List (Ty .step)
  x1 : Int
  x2 : Int
  x3 : Int
  x4 : Int
  x5 : List (Ty .run)
  x6 : Int
  x7 : List (Ty .mat)
  deriving Inhabited
def S.match_Feed_R (a0_0 : List (Ty .step)) (a0_1 : Int) (a0_2 : Int) (a0_3 : Int) (a0_4 : Int) (a0_5 : List (Ty .run)) (a0_6 : Int) (a1_0 : ByteArray) (a1_1 : Int) (a1_2 : List (Ty .val)) (a2 : Int) : DT S.match_Feed_T :=
let y0 : Nat := 0 + (S.Clone_run_nn_o a0_5).x1
let y1 : Bool := xdec (y0 ≤ (S.Clone_run_nn_o a0_5).x0.length) && true && true
let y2 : List (Ty .run) := sub (S.Clone_run_nn_o a0_5).x0 0 y0
let y3 : Bool := y1 && true
let y4 : Int := (↑(S.Clone_run_nn_o a0_5).x1 : Int)
let y5 : S.Clone_run_nn_T := S.Clone_run_nn_o y2
let y6 : Nat := y5.x1
let y7 : Int := (↑y6 : Int)
let y8 : List (Ty .run) := y5.x0
let y9 : S.match_Feed_8_V := { t_10_0f := xdec (y4 = Int.ofNat 0), t_10_0l := 0, t_41_0 := 0, h_18_0f := true, h_18_0l := 0, h_33 := [], h_34 := (S.Clone_run_nn_o a0_5).x0 : S.match_Feed_8_V }
let y10 : S.run_Begin_T := S.run_Begin_o a0_0 a0_2 a0_3 a0_4 a1_0 a1_1 a1_2 a2
let y11 : Int := y10.x7
let y12 : Nat := 0 + 1
let y13 : Int := y10.x0
let y14 : Int := y10.x5
let y15 : Bool := y10.x6
let y16 : Mat := { start := y13, fin := a2, agg := y14, bad := y15 : Mat }
let y17 : S.match_Feed_8_V := S.match_Feed_8_v y6 y7 a0_0 a0_1 a0_2 a0_3 a0_4 a1_0 a1_1 a1_2 a2 y8 y9
let y18 : Nat := y17.h_18_0l
let y19 : List (Ty .mat) := y17.h_33
let y20 : Nat := y19.length
let y21 : Nat := y18 + 1
let y22 : Nat := y17.t_10_0l
let y23 : Nat := 0 + y22
let y24 : List (Ty .run) := y17.h_34
let y25 : Nat := y24.length
let y26 : Bool := xdec (y23 ≤ y25) && true && true
let y27 : Nat := 0 + y21
let y28 : List (Ty .mat) := List.take y18 y19 ++ [y16]
let y29 : List (Ty .run) := sub y24 0 y23
let y30 : Bool := xeqI y11 0
let y31 : Nat := 0 + y18
let y32 : Bool := xdec (y31 ≤ y20) && true && true && true
let y33 : List (Ty .mat) := sub y19 0 y31
let y34 : Run := { first := y13, at_ := y10.x1, step := y10.x2, n := y10.x3, many := y10.x4, agg := y14, bad := y15 : Run }
let y35 : Nat := y22 + 1
let y36 : Bool := xdec (y12 ≤ ((List.replicate 1 (dflt ET.run)).set 0 y34).length) && xdec (y22 ≤ y25) && xdec (y35 ≤ 1048576)
let y37 : Nat := 0 + y35
let y38 : List (Ty .run) := List.take y22 y24 ++ [y34]
let y39 : Bool := xdec (y37 ≤ y38.length) && true && true && y32
let y40 : List (Ty .run) := sub y38 0 y37
let y41 : Bool := y26 && y32
(.br (S.Clone_run_nn_is a0_5)
(.br (y1 && S.match_May_is a0_0 y2 a0_6)
(.br (xnot (S.match_May_o a0_0 y2 a0_6).x0)
(.br (y3)
(.leaf ⟨a0_0, a0_1, a0_2, a0_3, a0_4, y2, a0_6, []⟩)
.fail)
(.br (xneI a0_6 (-1))
(.br (y3)
(.leaf ⟨a0_0, a0_1, a0_2, a0_3, a0_4, y2, a0_6, []⟩)
.fail)
(.br (xdec (0 ≤ 0) && xdec (0 ≤ Int.ofNat (S.Clone_run_nn_o a0_5).x1) && (xdec (0 ≤ y4) && xdec (y4 ≤ y4) && true))
(.br (y1 && S.Clone_run_nn_is y2)
(.br (S.match_Feed_8_j y6 y7 a0_0 a0_1 a0_2 a0_3 a0_4 a1_0 a1_1 a1_2 a2 y8 y9 0)
(.br (S.run_Begin_is a0_0 a0_2 a0_3 a0_4 a1_0 a1_1 a1_2 a2)
(.br (xeqI y11 2)
(.br (xdec (y12 ≤ ((List.replicate 1 (dflt ET.mat)).set 0 y16).length) && xdec (y18 ≤ y20) && xdec (y21 ≤ 1048576))
(.br (y26 && (xdec (y27 ≤ y28.length) && true && true && true))
(.leaf ⟨a0_0, a0_1, a0_2, a0_3, a0_4, y29, a0_6, sub y28 0 y27⟩)
.fail)
.fail)
(.br (y30)
(.br (xeqI (↑y22 : Int) 5)
(.br (y32)
(.leaf ⟨a0_0, a0_1, a0_2, a0_3, a0_4, [], if 0 > a2 then 0 else a2, y33⟩)
.fail)
(.br (y30)
(.br (y36)
(.br (y39)
(.leaf ⟨a0_0, a0_1, a0_2, a0_3, a0_4, y40, a0_6, y33⟩)
.fail)
.fail)
(.br (y41)
(.leaf ⟨a0_0, a0_1, a0_2, a0_3, a0_4, y29, a0_6, y33⟩)
.fail)))
(.br (y30)
(.br (y36)
(.br (y39)
(.leaf ⟨a0_0, a0_1, a0_2, a0_3, a0_4, y40, a0_6, y33⟩)
.fail)
.fail)
(.br (y41)
(.leaf ⟨a0_0, a0_1, a0_2, a0_3, a0_4, y29, a0_6, y33⟩)
.fail))))
.fail)
.fail)
.fail)
.fail)))
.fail)
.fail)
def S.match_Feed (a0_0 : List (Ty .step)) (a0_1 : Int) (a0_2 : Int) (a0_3 : Int) (a0_4 : Int) (a0_5 : List (Ty .run)) (a0_6 : Int) (a1_0 : ByteArray) (a1_1 : Int) (a1_2 : List (Ty .val)) (a2 : Int) : Option S.match_Feed_T := (S.match_Feed_R a0_0 a0_1 a0_2 a0_3 a0_4 a0_5 a0_6 a1_0 a1_1 a1_2 a2).run
def S.match_Feed_is (a0_0 : List (Ty .step)) (a0_1 : Int) (a0_2 : Int) (a0_3 : Int) (a0_4 : Int) (a0_5 : List (Ty .run)) (a0_6 : Int) (a1_0 : ByteArray) (a1_1 : Int) (a1_2 : List (Ty .val)) (a2 : Int) : Bool := (S.match_Feed a0_0 a0_1 a0_2 a0_3 a0_4 a0_5 a0_6 a1_0 a1_1 a1_2 a2).isSome
def S.match_Feed_o (a0_0 : List (Ty .step)) (a0_1 : Int) (a0_2 : Int) (a0_3 : Int) (a0_4 : Int) (a0_5 : List (Ty .run)) (a0_6 : Int) (a1_0 : ByteArray) (a1_1 : Int) (a1_2 : List (Ty .val)) (a2 : Int) : S.match_Feed_T := (S.match_Feed a0_0 a0_1 a0_2 a0_3 a0_4 a0_5 a0_6 a1_0 a1_1 a1_2 a2).getD default
def ret_match_Feed (b : Bool) (r : S.match_Feed_T) : Ret := ⟨b, none, [(true,
    [C.d (.sl none false ET.step r.x0), C.d (.sc (.int .i64 r.x1)), C.d (.sc (.int .i64 r.x2)), C.d (.sc (.int .i64 r.x3)),
      C.d (.sc (.int .i64 r.x4)), C.d (.sl none false ET.run r.x5), C.d (.sc (.int .i64 r.x6))]),
  (false, [C.d (.sl none false ET.mat r.x7)])]⟩
def g_match_Feed : Con
  | [(true, [.sl a0_0n a0_0f .step a0_0, .sc (.int .i64 a0_1), .sc (.int .i64 a0_2), .sc (.int .i64 a0_3), .sc (.int .i64 a0_4), .sl a0_5n a0_5f .run a0_5, .sc (.int .i64 a0_6)]), (true, [.sc (.str a1_0), .sc (.int .i64 a1_1), .sl a1_2n a1_2f .val a1_2]), (false, [.sc (.int .i64 a2)])] => some (ret_match_Feed (S.match_Feed_is a0_0 a0_1 a0_2 a0_3 a0_4 a0_5 a0_6 a1_0 a1_1 a1_2 a2) (S.match_Feed_o a0_0 a0_1 a0_2 a0_3 a0_4 a0_5 a0_6 a1_0 a1_1 a1_2 a2))
  | _ => none
theorem raw_match_Feed (a0_0n : Option Bool) (a0_0f : Bool) (a0_0 : List (Ty .step)) (a0_1 : Int) (a0_2 : Int) (a0_3 : Int) (a0_4 : Int) (a0_5n : Option Bool) (a0_5f : Bool) (a0_5 : List (Ty .run)) (a0_6 : Int) (a1_0 : ByteArray) (a1_1 : Int) (a1_2n : Option Bool) (a1_2f : Bool) (a1_2 : List (Ty .val)) (a2 : Int) : evR2 cx_match_Feed (hdI cx_match_Feed (find [(8, T_match_Feed_8)]) [(102, Try.f102)] none 3) none Try.f58 58 none [(true, [.sl a0_0n a0_0f .step a0_0, .sc (.int .i64 a0_1), .sc (.int .i64 a0_2), .sc (.int .i64 a0_3), .sc (.int .i64 a0_4), .sl a0_5n a0_5f .run a0_5, .sc (.int .i64 a0_6)]), (true, [.sc (.str a1_0), .sc (.int .i64 a1_1), .sl a1_2n a1_2f .val a1_2]), (false, [.sc (.int .i64 a2)])] some = (S.match_Feed_R a0_0 a0_1 a0_2 a0_3 a0_4 a0_5 a0_6 a1_0 a1_1 a1_2 a2).go (ret_match_Feed true) := by kernel_rfl
theorem bs_match_Feed : loopsIn Try.f58 [(102, Try.f102)] = [b_match_Feed_8] := by kernel_rfl
theorem match_Feed_ok : Stands Try.prog tyTab 58 g_match_Feed := by
  refine stands3 (L := find [(8, T_match_Feed_8)]) (n := 3) (hints := [(58, 8, { keep := [3, 4, 5, 6, 8, 9, 10, 39, 40, 41], acc := [(8, some 0, .mat, 81), (10, none, .run, 0)] })]) (cx_ok rfl) rdy_match_Feed ⟨by kernel_rfl, by kernel_rfl, by kernel_rfl⟩ bs_match_Feed (consB (fun T h => by have e : T_match_Feed_8 = T := Option.some.inj (show some T_match_Feed_8 = some T from h); exact e ▸ lok_match_Feed_8) nilB) (fun das r hG hr => ?_)
  unfold g_match_Feed at hG
  split at hG
  · rename_i a0_0n a0_0f a0_0 a0_1 a0_2 a0_3 a0_4 a0_5n a0_5f a0_5 a0_6 a1_0 a1_1 a1_2n a1_2f a1_2 a2
    injection hG with hG; subst hG
    exact ⟨none, true, win default ((raw_match_Feed a0_0n a0_0f a0_0 a0_1 a0_2 a0_3 a0_4 a0_5n a0_5f a0_5 a0_6 a1_0 a1_1 a1_2n a1_2f a1_2 a2).trans (DT.go_run _ _)) hr⟩
  · cases hG
end
end Go.Eng
