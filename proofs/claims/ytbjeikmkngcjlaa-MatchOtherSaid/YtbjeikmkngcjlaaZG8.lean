/- Contracts, laid by program. -/
import Derived.Test.YtbjeikmkngcjlaaZG6
import Derived.Test.YtbjeikmkngcjlaaZG7
set_option linter.unusedVariables false
namespace Go.Eng
noncomputable section
open Go Go.Eng Go.Proofs Go.Eng.Tab
abbrev cx_zhdz : Cx := mkCx2 tyTab [(58, g_zxf7)] [] [(62, 3, { keep := [1, 2, 3, 6, 8, 9], acc := [] })] []
theorem rdy_zhdz : Ready Try.prog tyTab [(58, g_zxf7)] [] [] := ⟨consG2 zxf7_ok (noneG2), noneI2, noneF2⟩
structure S.zhdz_3_V where
 t8_ : Int
 t9_ : Int
 h0_n : Option Bool
 h0_f : Bool
 h0_ : List (Ty .step)
 h_0_1 : Int
 h_0_2 : Int
 h_0_3 : Int
 h_0_4 : Int
 h_0_5n : Option Bool
 h_0_5f : Bool
 h_0_5 : List (Ty .run)
 h_0_6 : Int
def S.zhdz_3_R (qA : List (Ty .evt)) (qB : Int) (v : S.zhdz_3_V) : DT (Option Nat × S.zhdz_3_V) :=
let y0 : Bool := xdec (v.t9_ < (↑qA.length : Int))
let y1 : Ty .evt := qA.getD v.t9_.toNat (dflt .evt)
let y2 : ByteArray := y1.name
let y3 : Int := y1.at_
let y4 : List Val := y1.v
let y5 : Int := xwrap .i64 (qB + v.t9_)
let y6 : S.zxf7_T := S.zxf7_o v.h0_ v.h_0_1 v.h_0_2 v.h_0_3 v.h_0_4 v.h_0_5 v.h_0_6 y2 y3 y4 y5
(.br (y0)
(.br (xdec (0 ≤ v.t9_) && y0)
(.br (S.zxf7_is v.h0_ v.h_0_1 v.h_0_2 v.h_0_3 v.h_0_4 v.h_0_5 v.h_0_6 y2 y3 y4 y5)
(.leaf (none, ⟨xwrap .i64 (v.t8_ + (↑y6.x7.length : Int)), xwrap .i64 (v.t9_ + 1), none, false, y6.x0, y6.x1, y6.x2, y6.x3, y6.x4, none, false, y6.x5, y6.x6⟩))
.fail)
.fail)
(.leaf (some 0, v)))
def S.zhdz_3_r (qA : List (Ty .evt)) (qB : Int) (v : S.zhdz_3_V) : Option (Option Nat × S.zhdz_3_V) := (S.zhdz_3_R qA qB v).run
def S.zhdz_3_j (qA : List (Ty .evt)) (qB : Int) (v : S.zhdz_3_V) (j : Nat) : Bool := Lp_j (S.zhdz_3_r qA qB) v j
def S.zhdz_3_v (qA : List (Ty .evt)) (qB : Int) (v : S.zhdz_3_V) : S.zhdz_3_V := Lp_v (S.zhdz_3_r qA qB) v
def mk_zhdz_3 (qC : Option Bool) (qD : Bool) (qA : List (Ty .evt)) (qB : Int) (qE : List (Ty .step)) (qF : Int) (qG : Int) (qH : Int) (qI : Int) (qJ : List (Ty .run)) (qK : Int) (v : S.zhdz_3_V) : St := ⟨(V.any :: (V.v false [C.d (.sl qC qD .evt qA)] :: ((cV qB) :: (V.v false [C.ptr 0 0] :: (V.any :: (V.any :: (V.v false [C.ptr 1 0] :: (V.any :: ((cV v.t8_) :: ((cV v.t9_) :: (vs 27 []))))))))))), (some (Blk.box 71 [C.d (.sl v.h0_n v.h0_f .step v.h0_), (cI v.h_0_1), (cI v.h_0_2), (cI v.h_0_3), (cI v.h_0_4), C.d (.sl v.h_0_5n v.h_0_5f .run v.h_0_5), (cI v.h_0_6)]) :: (some (Blk.box 71 [C.d (.sl (some true) true .step qE), (cI qF), (cI qG), (cI qH), (cI qI), C.d (.sl (some true) true .run qJ), (cI qK)]) :: (ns 3 []))), 0⟩
def ex_zhdz_3 (qC : Option Bool) (qD : Bool) (qA : List (Ty .evt)) (qB : Int) (qE : List (Ty .step)) (qF : Int) (qG : Int) (qH : Int) (qI : Int) (qJ : List (Ty .run)) (qK : Int) (j : Nat) (v : S.zhdz_3_V) : Ex × St := match j with
 | 0 => (Ex.exit 0, ⟨(vs 3 (V.v false [C.ptr 0 0] :: (V.any :: (V.any :: (V.v false [C.ptr 1 0] :: (V.any :: ((cV v.t8_) :: (vs 28 [])))))))), (some
  (Blk.box 71
   [C.d (.sl v.h0_n v.h0_f .step v.h0_), (cI v.h_0_1), (cI v.h_0_2), (cI v.h_0_3),
    (cI v.h_0_4), C.d (.sl v.h_0_5n v.h_0_5f .run v.h_0_5), (cI v.h_0_6)]) :: (some
  (Blk.box 71
   [C.d (.sl (some true) true .step qE), (cI qF), (cI qG), (cI qH),
    (cI qI), C.d (.sl (some true) true .run qJ), (cI qK)]) :: (ns 7 []))), 0⟩)
 | _ => (.ret, ⟨[], [], 0⟩)
def T1_zhdz_3 : V → V → V → V → V → V → Option Blk → Option Blk → Tree
 | V.v false [C.d (.sl qC qD .evt qA)], V.v false [C.d (.sc (.int .i64 qB))], V.v false [C.ptr 0 0], V.v false [C.ptr 1 0], V.v false [C.d (.sc (.int .i64 t8_))], V.v false [C.d (.sc (.int .i64 t9_))], some (Blk.box 71 [C.d (.sl h0_n h0_f .step h0_), C.d (.sc (.int .i64 h_0_1)), C.d (.sc (.int .i64 h_0_2)), C.d (.sc (.int .i64 h_0_3)), C.d (.sc (.int .i64 h_0_4)), C.d (.sl h_0_5n h_0_5f .run h_0_5), C.d (.sc (.int .i64 h_0_6))]), some (Blk.box 71 [C.d (.sl (some true) true .step qE), C.d (.sc (.int .i64 qF)), C.d (.sc (.int .i64 qG)), C.d (.sc (.int .i64 qH)), C.d (.sc (.int .i64 qI)), C.d (.sl (some true) true .run qJ), C.d (.sc (.int .i64 qK))]) => exT (fun j => ex_zhdz_3 qC qD qA qB qE qF qG qH qI qJ qK j (S.zhdz_3_v qA qB ⟨t8_, t9_, h0_n, h0_f, h0_, h_0_1, h_0_2, h_0_3, h_0_4, h_0_5n, h_0_5f, h_0_5, h_0_6⟩)) (S.zhdz_3_j qA qB ⟨t8_, t9_, h0_n, h0_f, h0_, h_0_1, h_0_2, h_0_3, h_0_4, h_0_5n, h_0_5f, h_0_5, h_0_6⟩) [0]
 | _, _, _, _, _, _, _, _ => .bad
def T_zhdz_3 (st : St) : Tree := bif okSt 37 5 0 [0, 1] st then T1_zhdz_3 (st.env.getD 1 .any) (st.env.getD 2 .any) (st.env.getD 3 .any) (st.env.getD 6 .any) (st.env.getD 8 .any) (st.env.getD 9 .any) (lk st.heap 0) (lk st.heap 1) else .bad
def b_zhdz_3 : Code := loopBy Try.f62 3
theorem rnd_zhdz_3 (qC : Option Bool) (qD : Bool) (qA : List (Ty .evt)) (qB : Int) (qE : List (Ty .step)) (qF : Int) (qG : Int) (qH : Int) (qI : Int) (qJ : List (Ty .run)) (qK : Int) (v : S.zhdz_3_V) : round2 cx_zhdz (hdI cx_zhdz (find []) [] none 0) 62 b_zhdz_3 [] 5 [3, 6, 8] (mk_zhdz_3 qC qD qA qB qE qF qG qH qI qJ qK v) = (S.zhdz_3_R qA qB v).go (roundOut (mk_zhdz_3 qC qD qA qB qE qF qG qH qI qJ qK) (ex_zhdz_3 qC qD qA qB qE qF qG qH qI qJ qK)) := by kernel_rfl
theorem bs_zhdz_3 : loopsOf b_zhdz_3 ++ loopsInl [] = [] := by kernel_rfl
theorem ci_zhdz_3 (qC : Option Bool) (qD : Bool) (qA : List (Ty .evt)) (qB : Int) (qE : List (Ty .step)) (qF : Int) (qG : Int) (qH : Int) (qI : Int) (qJ : List (Ty .run)) (qK : Int) : ∀ v j v2, Lp (S.zhdz_3_r qA qB) v = some (j, v2) → Circles Try.prog cx_zhdz b_zhdz_3 (mk_zhdz_3 qC qD qA qB qE qF qG qH qI qJ qK v) (ex_zhdz_3 qC qD qA qB qE qF qG qH qI qJ qK j v2).1 (ex_zhdz_3 qC qD qA qB qE qF qG qH qI qJ qK j v2).2 :=
 loop_ok2 (L := find []) (n := 0) (hints := [(62, 3, { keep := [1, 2, 3, 6, 8, 9], acc := [] })]) (cx_ok rfl) rdy_zhdz bs_zhdz_3 nilB (fun v => (rnd_zhdz_3 qC qD qA qB qE qF qG qH qI qJ qK v).trans (DT.go_run _ _)) (by intro j v; unfold ex_zhdz_3; split <;> rfl)
theorem mke_zhdz_3 (qC : Option Bool) (qD : Bool) (qA : List (Ty .evt)) (qB : Int) (qE : List (Ty .step)) (qF : Int) (qG : Int) (qH : Int) (qI : Int) (qJ : List (Ty .run)) (qK : Int) (v : S.zhdz_3_V) : mk_zhdz_3 qC qD qA qB qE qF qG qH qI qJ qK v = ⟨envOf 37 [(1, V.v false [C.d (.sl qC qD .evt qA)]), (2, (cV qB)), (3, V.v false [C.ptr 0 0]), (6, V.v false [C.ptr 1 0]), (8, (cV v.t8_)), (9, (cV v.t9_))], heapOf 5 [(0, some
 (Blk.box 71
  [C.d (.sl v.h0_n v.h0_f .step v.h0_), (cI v.h_0_1), (cI v.h_0_2), (cI v.h_0_3),
   (cI v.h_0_4), C.d (.sl v.h_0_5n v.h_0_5f .run v.h_0_5), (cI v.h_0_6)])), (1, some
 (Blk.box 71
  [C.d (.sl (some true) true .step qE), (cI qF), (cI qG), (cI qH),
   (cI qI), C.d (.sl (some true) true .run qJ), (cI qK)]))], 0⟩ := by kernel_rfl
theorem lo1_zhdz_3 (e1 : V) (e2 : V) (e3 : V) (e6 : V) (e8 : V) (e9 : V) (h0 : Option Blk) (h1 : Option Blk) e st2 (h : (T1_zhdz_3 e1 e2 e3 e6 e8 e9 h0 h1).eval = some (e, st2)) : Circles Try.prog cx_zhdz b_zhdz_3 ⟨envOf 37 [(1, e1), (2, e2), (3, e3), (6, e6), (8, e8), (9, e9)], heapOf 5 [(0, h0), (1, h1)], 0⟩ e st2 := by
 unfold T1_zhdz_3 at h
 split at h
 ·have := loop_tree (mk := mk_zhdz_3 _ _ _ _ _ _ _ _ _ _ _) (ci_zhdz_3 _ _ _ _ _ _ _ _ _ _ _) _ _ e st2 h
  rw [mke_zhdz_3] at this
  exact this
 ·cases h
theorem lok_zhdz_3 : LoopOk Try.prog cx_zhdz b_zhdz_3 T_zhdz_3 := by
 intro st e st2 h
 unfold T_zhdz_3 at h
 cases hk : okSt 37 5 0 [0, 1] st with
 | false => rw [hk] at h; cases h
 | true =>
  rw [hk] at h
  exact circles_keep (ks := [1, 2, 3, 6, 8, 9]) hk (lo1_zhdz_3 _ _ _ _ _ _ _ _ e st2 h)
structure S.zhdz_T where
 x0 : List (Ty .step)
 x1 : Int
 x2 : Int
 x3 : Int
 x4 : Int
 x5 : List (Ty .run)
 x6 : Int
 x7 : Int
 deriving Inhabited
def S.zhdz_R (a0_0n : Option Bool) (a0_0f : Bool) (a0_0 : List (Ty .step)) (a0_1 : Int) (a0_2 : Int) (a0_3 : Int) (a0_4 : Int) (a0_5n : Option Bool) (a0_5f : Bool) (a0_5 : List (Ty .run)) (a0_6 : Int) (a1 : List (Ty .evt)) (a2 : Int) : DT S.zhdz_T :=
let y0 : S.zhdz_3_V := { t8_ := 0, t9_ := 0, h0_n := a0_0n, h0_f := a0_0f, h0_ := a0_0, h_0_1 := a0_1, h_0_2 := a0_2, h_0_3 := a0_3, h_0_4 := a0_4, h_0_5n := a0_5n, h_0_5f := a0_5f, h_0_5 := a0_5, h_0_6 := a0_6 : S.zhdz_3_V }
let y1 : S.zhdz_3_V := S.zhdz_3_v a1 a2 y0
(.br (S.zhdz_3_j a1 a2 y0 0)
(.leaf ⟨y1.h0_, y1.h_0_1, y1.h_0_2, y1.h_0_3, y1.h_0_4, y1.h_0_5, y1.h_0_6, y1.t8_⟩)
.fail)
def S.zhdz (a0_0n : Option Bool) (a0_0f : Bool) (a0_0 : List (Ty .step)) (a0_1 : Int) (a0_2 : Int) (a0_3 : Int) (a0_4 : Int) (a0_5n : Option Bool) (a0_5f : Bool) (a0_5 : List (Ty .run)) (a0_6 : Int) (a1 : List (Ty .evt)) (a2 : Int) : Option S.zhdz_T := (S.zhdz_R a0_0n a0_0f a0_0 a0_1 a0_2 a0_3 a0_4 a0_5n a0_5f a0_5 a0_6 a1 a2).run
def S.zhdz_is (a0_0n : Option Bool) (a0_0f : Bool) (a0_0 : List (Ty .step)) (a0_1 : Int) (a0_2 : Int) (a0_3 : Int) (a0_4 : Int) (a0_5n : Option Bool) (a0_5f : Bool) (a0_5 : List (Ty .run)) (a0_6 : Int) (a1 : List (Ty .evt)) (a2 : Int) : Bool := (S.zhdz a0_0n a0_0f a0_0 a0_1 a0_2 a0_3 a0_4 a0_5n a0_5f a0_5 a0_6 a1 a2).isSome
def S.zhdz_o (a0_0n : Option Bool) (a0_0f : Bool) (a0_0 : List (Ty .step)) (a0_1 : Int) (a0_2 : Int) (a0_3 : Int) (a0_4 : Int) (a0_5n : Option Bool) (a0_5f : Bool) (a0_5 : List (Ty .run)) (a0_6 : Int) (a1 : List (Ty .evt)) (a2 : Int) : S.zhdz_T := (S.zhdz a0_0n a0_0f a0_0 a0_1 a0_2 a0_3 a0_4 a0_5n a0_5f a0_5 a0_6 a1 a2).getD default
def ret_zhdz (b : Bool) (r : S.zhdz_T) : Ret := ⟨b, none, [(true,
    [C.d (.sl none false .step r.x0), C.d (.sc (.int .i64 r.x1)), C.d (.sc (.int .i64 r.x2)), C.d (.sc (.int .i64 r.x3)),
     C.d (.sc (.int .i64 r.x4)), C.d (.sl none false .run r.x5), C.d (.sc (.int .i64 r.x6))]),
 (false, [C.d (.sc (.int .i64 r.x7))])]⟩
def g_zhdz : Con
 | [(true, [.sl a0_0n a0_0f .step a0_0, .sc (.int .i64 a0_1), .sc (.int .i64 a0_2), .sc (.int .i64 a0_3), .sc (.int .i64 a0_4), .sl a0_5n a0_5f .run a0_5, .sc (.int .i64 a0_6)]), (false, [.sl a1n a1f .evt a1]), (false, [.sc (.int .i64 a2)])] => some (ret_zhdz (S.zhdz_is a0_0n a0_0f a0_0 a0_1 a0_2 a0_3 a0_4 a0_5n a0_5f a0_5 a0_6 a1 a2) (S.zhdz_o a0_0n a0_0f a0_0 a0_1 a0_2 a0_3 a0_4 a0_5n a0_5f a0_5 a0_6 a1 a2))
 | _ => none
theorem raw_zhdz (a0_0n : Option Bool) (a0_0f : Bool) (a0_0 : List (Ty .step)) (a0_1 : Int) (a0_2 : Int) (a0_3 : Int) (a0_4 : Int) (a0_5n : Option Bool) (a0_5f : Bool) (a0_5 : List (Ty .run)) (a0_6 : Int) (a1n : Option Bool) (a1f : Bool) (a1 : List (Ty .evt)) (a2 : Int) : evR2 cx_zhdz (hdI cx_zhdz (find [(3, T_zhdz_3)]) [] none 0) none Try.f62 62 none [(true, [.sl a0_0n a0_0f .step a0_0, .sc (.int .i64 a0_1), .sc (.int .i64 a0_2), .sc (.int .i64 a0_3), .sc (.int .i64 a0_4), .sl a0_5n a0_5f .run a0_5, .sc (.int .i64 a0_6)]), (false, [.sl a1n a1f .evt a1]), (false, [.sc (.int .i64 a2)])] some = (S.zhdz_R a0_0n a0_0f a0_0 a0_1 a0_2 a0_3 a0_4 a0_5n a0_5f a0_5 a0_6 a1 a2).go (ret_zhdz true) := by kernel_rfl
theorem bs_zhdz : loopsIn Try.f62 [] = [b_zhdz_3] := by kernel_rfl
theorem zhdz_ok : Stands Try.prog tyTab 62 g_zhdz := by
 refine stands3 (L := find [(3, T_zhdz_3)]) (n := 0) (hints := [(62, 3, { keep := [1, 2, 3, 6, 8, 9], acc := [] })]) (cx_ok rfl) rdy_zhdz ⟨by kernel_rfl, by kernel_rfl, by kernel_rfl⟩ bs_zhdz (consB (fun T h => by have e : T_zhdz_3 = T := Option.some.inj (show some T_zhdz_3 = some T from h); exact e ▸ lok_zhdz_3) nilB) (fun das r hG hr => ?_)
 unfold g_zhdz at hG
 split at hG
 ·rename_i a0_0n a0_0f a0_0 a0_1 a0_2 a0_3 a0_4 a0_5n a0_5f a0_5 a0_6 a1n a1f a1 a2
  injection hG with hG; subst hG
  exact ⟨none, true, win default ((raw_zhdz a0_0n a0_0f a0_0 a0_1 a0_2 a0_3 a0_4 a0_5n a0_5f a0_5 a0_6 a1n a1f a1 a2).trans (DT.go_run _ _)) hr⟩
 ·cases hG
abbrev cx_z2oj : Cx := mkCx2 tyTab [(57, g_z3ps), (58, g_zxf7), (61, g_zpf4), (91, g_zu7x), (98, g_zi5w)] [] [] []
theorem rdy_z2oj : Ready Try.prog tyTab [(57, g_z3ps), (58, g_zxf7), (61, g_zpf4), (91, g_zu7x), (98, g_zi5w)] [] [] := ⟨consG2 z3ps_ok (consG2 zxf7_ok (consG2 zpf4_ok (consG2 zu7x_ok (consG2 zi5w_ok (noneG2))))), noneI2, noneF2⟩
structure S.z2oj_T where
 x0 : Bool
 deriving Inhabited
def S.z2oj_R  : DT S.z2oj_T :=
let y0 : S.zu7x_T := S.zu7x_o 5
let y1 : S.zpf4_T := S.zpf4_o y0.x0 y0.x1 y0.x2 y0.x3 y0.x4
let y2 : List (Ty .step) := y1.x0
let y3 : Int := y1.x1
let y4 : Int := y1.x2
let y5 : Int := y1.x3
let y6 : Int := y1.x4
let y7 : List (Ty .run) := y1.x5
let y8 : Int := y1.x6
let y9 : ByteArray := { data := { toList := [97] : Array UInt8 } : ByteArray }
let y10 : S.zxf7_T := S.zxf7_o y2 y3 y4 y5 y6 y7 y8 y9 0 [] 0
let y11 : List (Ty .step) := y10.x0
let y12 : Int := y10.x1
let y13 : Int := y10.x2
let y14 : Int := y10.x3
let y15 : Int := y10.x4
let y16 : List (Ty .run) := y10.x5
let y17 : Int := y10.x6
let y18 : S.zxf7_T := S.zxf7_o y11 y12 y13 y14 y15 y16 y17 y9 0 [] 1
let y19 : List (Ty .step) := y18.x0
let y20 : Int := y18.x1
let y21 : Int := y18.x2
let y22 : Int := y18.x3
let y23 : Int := y18.x4
let y24 : List (Ty .run) := y18.x5
let y25 : Int := y18.x6
let y26 : ByteArray := { data := { toList := [98] : Array UInt8 } : ByteArray }
let y27 : S.zxf7_T := S.zxf7_o y19 y20 y21 y22 y23 y24 y25 y26 0 [] 2
let y28 : List (Ty .mat) := y27.x7
let y29 : Int := (↑y28.length : Int)
let y30 : List (Ty .run) := y27.x5
let y31 : List (Ty .step) := y27.x0
let y32 : Int := y27.x1
let y33 : Int := y27.x2
let y34 : Int := y27.x3
let y35 : Int := y27.x4
let y36 : Int := y27.x6
(.br (S.zu7x_is 5)
(.br (S.zxf7_is y2 y3 y4 y5 y6 y7 y8 y9 0 [] 0)
(.br (S.zxf7_is y11 y12 y13 y14 y15 y16 y17 y9 0 [] 1)
(.br (S.zxf7_is y19 y20 y21 y22 y23 y24 y25 y26 0 [] 2)
(.br (xeqI (xwrap .i64 ((↑y10.x7.length : Int) + (↑y18.x7.length : Int))) 0)
(.br (xeqI y29 2)
(.br (xdec (0 ≤ 0) && xdec (0 < y29))
(.br (xeqI (y28.getD (Int.toNat 0) (dflt .mat)).start 0)
(.br (xdec (0 ≤ 1) && xdec (1 < y29))
(.br (xeqI (y28.getD (Int.toNat 1) (dflt .mat)).start 1)
(.br (xeqI (↑y30.length : Int) 0)
(.br (S.z3ps_is y19 y24 y25)
(.br ((S.z3ps_o y19 y24 y25).x0)
(.br (S.zi5w_is y19 y20 y21 y22 y23 y24 y25 y31 y32 y33 y34 y35 y30 y36)
(.leaf ⟨xnot (S.zi5w_o y19 y20 y21 y22 y23 y24 y25 y31 y32 y33 y34 y35 y30 y36).x0⟩)
.fail)
(.leaf ⟨false⟩))
.fail)
(.leaf ⟨false⟩))
(.leaf ⟨false⟩))
.fail)
(.leaf ⟨false⟩))
.fail)
(.leaf ⟨false⟩))
(.leaf ⟨false⟩))
.fail)
.fail)
.fail)
.fail)
def S.z2oj  : Option S.z2oj_T := (S.z2oj_R ).run
def S.z2oj_is  : Bool := (S.z2oj ).isSome
def S.z2oj_o  : S.z2oj_T := (S.z2oj ).getD default
def ret_z2oj (b : Bool) (r : S.z2oj_T) : Ret := ⟨b, none, [(false, [C.d (.sc (.bool r.x0))])]⟩
def g_z2oj : Con
 | [] => some (ret_z2oj (S.z2oj_is ) (S.z2oj_o ))
 | _ => none
theorem raw_z2oj  : evR2 cx_z2oj (hdI cx_z2oj (find []) [] none 0) none Try.f55 55 none [] some = (S.z2oj_R ).go (ret_z2oj true) := by kernel_rfl
theorem bs_z2oj : loopsIn Try.f55 [] = [] := by kernel_rfl
theorem z2oj_ok : Stands Try.prog tyTab 55 g_z2oj := by
 refine stands3 (L := find []) (n := 0) (hints := []) (cx_ok rfl) rdy_z2oj ⟨by kernel_rfl, by kernel_rfl, by kernel_rfl⟩ bs_z2oj nilB (fun das r hG hr => ?_)
 unfold g_z2oj at hG
 split at hG
 ·injection hG with hG; subst hG
  exact ⟨none, true, win default ((raw_z2oj ).trans (DT.go_run _ _)) hr⟩
 ·cases hG
end
end Go.Eng
