/- Contracts, laid by program. -/
import Derived.Test.YtbjeikmkngcjlaaVZG15
set_option linter.unusedVariables false
namespace Go.Eng
noncomputable section
open Go Go.Eng Go.Proofs Go.Eng.Tab
abbrev cx_zxuk : Cx := mkCx2 tyTab [(47, g_zh5h)] [] [(42, 3, { keep := [3, 5, 11, 12, 13], acc := [] })] []
theorem rdy_zxuk : Ready Try.prog tyTab [(47, g_zh5h)] [] [] := ⟨consG2 zh5h_ok (noneG2), noneI2, noneF2⟩
structure S.zxuk_3_V where
 t13_ : Int
 h_4 : List (Ty .bool)
def S.zxuk_3_R (t5_l : Nat) (qA : List (Ty .pred)) (qB : Int) (qC : ByteArray) (qD : Int) (qE : List (Ty .val)) (v : S.zxuk_3_V) : DT (Option Nat × S.zxuk_3_V) :=
let y0 : Bool := xdec (0 ≤ v.t13_)
let y1 : Ty .pred := qA.getD v.t13_.toNat (dflt .pred)
let y2 : ByteArray := y1.name
let y3 : List Opn := y1.ifs
let y4 : Nat := 0 + v.t13_.toNat
(.br (xdec (v.t13_ < qB))
(.br (y0 && xdec (v.t13_ < (↑qA.length : Int)))
(.br (S.zh5h_is y2 y3 qC qD qE)
(.br (y0 && xdec (v.t13_ < (↑t5_l : Int)))
(.br (xdec (y4 < v.h_4.length))
(.leaf (none, ⟨xwrap .i64 (v.t13_ + 1), v.h_4.set y4 (S.zh5h_o y2 y3 qC qD qE).x0⟩))
.fail)
.fail)
.fail)
.fail)
(.leaf (some 0, v)))
def S.zxuk_3_r (t5_l : Nat) (qA : List (Ty .pred)) (qB : Int) (qC : ByteArray) (qD : Int) (qE : List (Ty .val)) (v : S.zxuk_3_V) : Option (Option Nat × S.zxuk_3_V) := (S.zxuk_3_R t5_l qA qB qC qD qE v).run
def S.zxuk_3_j (t5_l : Nat) (qA : List (Ty .pred)) (qB : Int) (qC : ByteArray) (qD : Int) (qE : List (Ty .val)) (v : S.zxuk_3_V) (j : Nat) : Bool := Lp_j (S.zxuk_3_r t5_l qA qB qC qD qE) v j
def S.zxuk_3_v (t5_l : Nat) (qA : List (Ty .pred)) (qB : Int) (qC : ByteArray) (qD : Int) (qE : List (Ty .val)) (v : S.zxuk_3_V) : S.zxuk_3_V := Lp_v (S.zxuk_3_r t5_l qA qB qC qD qE) v
def mk_zxuk_3 (t5_l : Nat) (qF : Option Bool) (qG : Bool) (qA : List (Ty .pred)) (qB : Int) (qC : ByteArray) (qD : Int) (qH : Option Bool) (qI : Bool) (qE : List (Ty .val)) (v : S.zxuk_3_V) : St := ⟨(vs 3 (V.v false [C.ptr 0 0] :: (V.any :: (V.v false [C.own 4 .bool true 0 t5_l] :: (vs 5 (V.v false [C.d (.sl qF qG .pred qA)] :: ((cV qB) :: ((cV v.t13_) :: (vs 12 []))))))))), (some (Blk.box 29 [C.d (.sc (.str qC)), (cI qD), C.d (.sl qH qI .val qE)]) :: (ns 3 (some (Blk.arr 4 .bool v.h_4) :: (ns 4 [])))), 0⟩
def ex_zxuk_3 (t5_l : Nat) (qF : Option Bool) (qG : Bool) (qA : List (Ty .pred)) (qB : Int) (qC : ByteArray) (qD : Int) (qH : Option Bool) (qI : Bool) (qE : List (Ty .val)) (j : Nat) (v : S.zxuk_3_V) : Ex × St := match j with
 | 0 => (Ex.exit 0, ⟨(vs 5 (V.v false [C.own 4 .bool true 0 t5_l] :: (vs 20 []))), (some (Blk.box 29 [C.d (.sc (.str qC)), (cI qD), C.d (.sl qH qI .val qE)]) :: (ns 3 (some (Blk.arr 4 .bool v.h_4) :: (ns 5 [])))), 0⟩)
 | _ => (.ret, ⟨[], [], 0⟩)
def T1_zxuk_3 : V → V → V → V → V → Option Blk → Option Blk → Tree
 | V.v false [C.ptr 0 0], V.v false [C.own 4 .bool true 0 t5_l], V.v false [C.d (.sl qF qG .pred qA)], V.v false [C.d (.sc (.int .i64 qB))], V.v false [C.d (.sc (.int .i64 t13_))], some (Blk.box 29 [C.d (.sc (.str qC)), C.d (.sc (.int .i64 qD)), C.d (.sl qH qI .val qE)]), some (Blk.arr 4 .bool h_4) => exT (fun j => ex_zxuk_3 t5_l qF qG qA qB qC qD qH qI qE j (S.zxuk_3_v t5_l qA qB qC qD qE ⟨t13_, h_4⟩)) (S.zxuk_3_j t5_l qA qB qC qD qE ⟨t13_, h_4⟩) [0]
 | _, _, _, _, _, _, _ => .bad
def T_zxuk_3 (st : St) : Tree := bif okSt 26 9 0 [0, 4] st then T1_zxuk_3 (st.env.getD 3 .any) (st.env.getD 5 .any) (st.env.getD 11 .any) (st.env.getD 12 .any) (st.env.getD 13 .any) (lk st.heap 0) (lk st.heap 4) else .bad
def b_zxuk_3 : Code := loopBy Try.f42 3
theorem rnd_zxuk_3 (t5_l : Nat) (qF : Option Bool) (qG : Bool) (qA : List (Ty .pred)) (qB : Int) (qC : ByteArray) (qD : Int) (qH : Option Bool) (qI : Bool) (qE : List (Ty .val)) (v : S.zxuk_3_V) : round2 cx_zxuk (hdI cx_zxuk (find []) [] none 0) 42 b_zxuk_3 [] 9 [5] (mk_zxuk_3 t5_l qF qG qA qB qC qD qH qI qE v) = (S.zxuk_3_R t5_l qA qB qC qD qE v).go (roundOut (mk_zxuk_3 t5_l qF qG qA qB qC qD qH qI qE) (ex_zxuk_3 t5_l qF qG qA qB qC qD qH qI qE)) := by kernel_rfl
theorem bs_zxuk_3 : loopsOf b_zxuk_3 ++ loopsInl [] = [] := by kernel_rfl
theorem ci_zxuk_3 (t5_l : Nat) (qF : Option Bool) (qG : Bool) (qA : List (Ty .pred)) (qB : Int) (qC : ByteArray) (qD : Int) (qH : Option Bool) (qI : Bool) (qE : List (Ty .val)) : ∀ v j v2, Lp (S.zxuk_3_r t5_l qA qB qC qD qE) v = some (j, v2) → Circles Try.prog cx_zxuk b_zxuk_3 (mk_zxuk_3 t5_l qF qG qA qB qC qD qH qI qE v) (ex_zxuk_3 t5_l qF qG qA qB qC qD qH qI qE j v2).1 (ex_zxuk_3 t5_l qF qG qA qB qC qD qH qI qE j v2).2 :=
 loop_ok2 (L := find []) (n := 0) (hints := [(42, 3, { keep := [3, 5, 11, 12, 13], acc := [] })]) (cx_ok rfl) rdy_zxuk bs_zxuk_3 nilB (fun v => (rnd_zxuk_3 t5_l qF qG qA qB qC qD qH qI qE v).trans (DT.go_run _ _)) (by intro j v; unfold ex_zxuk_3; split <;> rfl)
theorem mke_zxuk_3 (t5_l : Nat) (qF : Option Bool) (qG : Bool) (qA : List (Ty .pred)) (qB : Int) (qC : ByteArray) (qD : Int) (qH : Option Bool) (qI : Bool) (qE : List (Ty .val)) (v : S.zxuk_3_V) : mk_zxuk_3 t5_l qF qG qA qB qC qD qH qI qE v = ⟨envOf 26 [(3, V.v false [C.ptr 0 0]), (5, V.v false [C.own 4 .bool true 0 t5_l]), (11, V.v false [C.d (.sl qF qG .pred qA)]), (12, (cV qB)), (13, (cV v.t13_))], heapOf 9 [(0, some (Blk.box 29 [C.d (.sc (.str qC)), (cI qD), C.d (.sl qH qI .val qE)])), (4, some (Blk.arr 4 .bool v.h_4))], 0⟩ := by kernel_rfl
theorem lo1_zxuk_3 (e3 : V) (e5 : V) (e11 : V) (e12 : V) (e13 : V) (h0 : Option Blk) (h4 : Option Blk) e st2 (h : (T1_zxuk_3 e3 e5 e11 e12 e13 h0 h4).eval = some (e, st2)) : Circles Try.prog cx_zxuk b_zxuk_3 ⟨envOf 26 [(3, e3), (5, e5), (11, e11), (12, e12), (13, e13)], heapOf 9 [(0, h0), (4, h4)], 0⟩ e st2 := by
 unfold T1_zxuk_3 at h
 split at h
 ·have := loop_tree (mk := mk_zxuk_3 _ _ _ _ _ _ _ _ _ _) (ci_zxuk_3 _ _ _ _ _ _ _ _ _ _) _ _ e st2 h
  rw [mke_zxuk_3] at this
  exact this
 ·cases h
theorem lok_zxuk_3 : LoopOk Try.prog cx_zxuk b_zxuk_3 T_zxuk_3 := by
 intro st e st2 h
 unfold T_zxuk_3 at h
 cases hk : okSt 26 9 0 [0, 4] st with
 | false => rw [hk] at h; cases h
 | true =>
  rw [hk] at h
  exact circles_keep (ks := [3, 5, 11, 12, 13]) hk (lo1_zxuk_3 _ _ _ _ _ _ _ e st2 h)
structure S.zxuk_T where
 x0 : List (Ty .bool)
 x1 : Nat
 deriving Inhabited
def S.zxuk_R (a0 : List (Ty .pred)) (a1_0 : ByteArray) (a1_1 : Int) (a1_2 : List (Ty .val)) : DT S.zxuk_T :=
let y0 : Int := (↑a0.length : Int)
let y1 : Nat := y0.toNat
let y2 : S.zxuk_3_V := { t13_ := 0, h_4 := List.replicate y1 (dflt .bool) : S.zxuk_3_V }
(.br (xdec (0 ≤ y0) && xdec (y0 ≤ 1048576) && xeqI y0 y0)
(.br (S.zxuk_3_j y1 a0 y0 a1_0 a1_1 a1_2 y2 0)
(.leaf ⟨(S.zxuk_3_v y1 a0 y0 a1_0 a1_1 a1_2 y2).h_4, y1⟩)
.fail)
.fail)
def S.zxuk (a0 : List (Ty .pred)) (a1_0 : ByteArray) (a1_1 : Int) (a1_2 : List (Ty .val)) : Option S.zxuk_T := (S.zxuk_R a0 a1_0 a1_1 a1_2).run
def S.zxuk_is (a0 : List (Ty .pred)) (a1_0 : ByteArray) (a1_1 : Int) (a1_2 : List (Ty .val)) : Bool := (S.zxuk a0 a1_0 a1_1 a1_2).isSome
def S.zxuk_o (a0 : List (Ty .pred)) (a1_0 : ByteArray) (a1_1 : Int) (a1_2 : List (Ty .val)) : S.zxuk_T := (S.zxuk a0 a1_0 a1_1 a1_2).getD default
def ret_zxuk (b : Bool) (r : S.zxuk_T) : Ret := ⟨b, some (4, (⟨.bool, r.x0⟩ : (t : ET) × List (Ty t))), [(false, [C.own 4 .bool true 0 r.x1])]⟩
def g_zxuk : Con
 | [(false, [.sl a0n a0f .pred a0]), (true, [.sc (.str a1_0), .sc (.int .i64 a1_1), .sl a1_2n a1_2f .val a1_2])] => some (ret_zxuk (S.zxuk_is a0 a1_0 a1_1 a1_2) (S.zxuk_o a0 a1_0 a1_1 a1_2))
 | _ => none
theorem raw_zxuk (a0n : Option Bool) (a0f : Bool) (a0 : List (Ty .pred)) (a1_0 : ByteArray) (a1_1 : Int) (a1_2n : Option Bool) (a1_2f : Bool) (a1_2 : List (Ty .val)) : evR2 cx_zxuk (hdI cx_zxuk (find [(3, T_zxuk_3)]) [] none 0) none Try.f42 42 (some 4) [(false, [.sl a0n a0f .pred a0]), (true, [.sc (.str a1_0), .sc (.int .i64 a1_1), .sl a1_2n a1_2f .val a1_2])] some = (S.zxuk_R a0 a1_0 a1_1 a1_2).go (ret_zxuk true) := by kernel_rfl
theorem bs_zxuk : loopsIn Try.f42 [] = [b_zxuk_3] := by kernel_rfl
theorem zxuk_ok : Stands Try.prog tyTab 42 g_zxuk := by
 refine stands3 (L := find [(3, T_zxuk_3)]) (n := 0) (hints := [(42, 3, { keep := [3, 5, 11, 12, 13], acc := [] })]) (cx_ok rfl) rdy_zxuk ⟨by kernel_rfl, by kernel_rfl, by kernel_rfl⟩ bs_zxuk (consB (fun T h => by have e : T_zxuk_3 = T := Option.some.inj (show some T_zxuk_3 = some T from h); exact e ▸ lok_zxuk_3) nilB) (fun das r hG hr => ?_)
 unfold g_zxuk at hG
 split at hG
 ·rename_i a0n a0f a0 a1_0 a1_1 a1_2n a1_2f a1_2
  injection hG with hG; subst hG
  exact ⟨(some 4), true, win default ((raw_zxuk a0n a0f a0 a1_0 a1_1 a1_2n a1_2f a1_2).trans (DT.go_run _ _)) hr⟩
 ·cases hG
abbrev cx_zg3i : Cx := mkCx2 tyTab [(39, g_zdrt), (42, g_zxuk), (45, g_zgkp), (47, g_zh5h), (80, g_zo54)] [] [] []
theorem rdy_zg3i : Ready Try.prog tyTab [(39, g_zdrt), (42, g_zxuk), (45, g_zgkp), (47, g_zh5h), (80, g_zo54)] [] [] := ⟨consG2 zdrt_ok (consG2 zxuk_ok (consG2 zgkp_ok (consG2 zh5h_ok (consG2 zo54_ok (noneG2))))), noneI2, noneF2⟩
structure S.zg3i_T where
 x0 : Bool
 deriving Inhabited
def S.zg3i_R  : DT S.zg3i_T :=
let y0 : Nat := 0 + 2
let y1 : Query := { steps := S.zo54_o.x0, within := S.zo54_o.x1, agg := S.zo54_o.x2, aggStep := S.zo54_o.x3, aggF := S.zo54_o.x4 : Query }
let y2 : List (Ty .query) := sub [y1, y1] 0 y0
let y3 : S.zdrt_T := S.zdrt_o y2
let y4 : Nat := y3.x2
let y5 : Nat := 0 + y4
let y6 : List (Ty .pred) := y3.x0
let y7 : Nat := y6.length
let y8 : Bool := xdec (y5 ≤ y7) && true && true
let y9 : List (Ty .pred) := sub y6 0 y5
let y10 : ByteArray := { data := { toList := [97] : Array UInt8 } : ByteArray }
let y11 : Int := (↑y4 : Int)
let y12 : S.zxuk_T := S.zxuk_o y9 y10 0 []
let y13 : Int := (↑y12.x1 : Int)
let y14 : Bool := xdec (0 ≤ 0)
let y15 : Nat := 0 + Int.toNat 0
let y16 : List (Ty .bool) := y12.x0
let y17 : Bool := y14 && xdec (0 < y11)
let y18 : Bool := xdec (y15 < y7)
let y19 : Ty .pred := y6.getD y15 (dflt .pred)
let y20 : ByteArray := y19.name
let y21 : List Opn := y19.ifs
let y22 : ByteArray := { data := { toList := [98] : Array UInt8 } : ByteArray }
(.br (S.zo54_is)
(.br (S.zo54_is)
(.br (xdec (y0 ≤ (((List.replicate 2 (dflt .query)).set 0 y1).set 1 y1).length) && true && true && S.zdrt_is y2)
(.br (y8 && S.zxuk_is y9 y10 0 [])
(.br (xeqI y11 1)
(.br (xeqI y13 1)
(.br (y14 && xdec (0 < y13))
(.br (xdec (y15 < y16.length))
(.br (y16.getD y15 (dflt .bool))
(.br (y17)
(.br (y18)
(.br (y8 && S.zgkp_is y9 y20 y21)
(.br (xeqI (S.zgkp_o y9 y20 y21).x0 0)
(.br (y17)
(.br (y18)
(.br (S.zh5h_is y20 y21 y22 0 [])
(.leaf ⟨xnot (S.zh5h_o y20 y21 y22 0 []).x0⟩)
.fail)
.fail)
.fail)
(.leaf ⟨false⟩))
.fail)
.fail)
.fail)
(.leaf ⟨false⟩))
.fail)
.fail)
(.leaf ⟨false⟩))
(.leaf ⟨false⟩))
.fail)
.fail)
.fail)
.fail)
def S.zg3i  : Option S.zg3i_T := (S.zg3i_R ).run
def S.zg3i_is  : Bool := (S.zg3i ).isSome
def S.zg3i_o  : S.zg3i_T := (S.zg3i ).getD default
def ret_zg3i (b : Bool) (r : S.zg3i_T) : Ret := ⟨b, none, [(false, [C.d (.sc (.bool r.x0))])]⟩
def g_zg3i : Con
 | [] => some (ret_zg3i (S.zg3i_is ) (S.zg3i_o ))
 | _ => none
theorem raw_zg3i  : evR2 cx_zg3i (hdI cx_zg3i (find []) [] none 0) none Try.f33 33 none [] some = (S.zg3i_R ).go (ret_zg3i true) := by kernel_rfl
theorem bs_zg3i : loopsIn Try.f33 [] = [] := by kernel_rfl
theorem zg3i_ok : Stands Try.prog tyTab 33 g_zg3i := by
 refine stands3 (L := find []) (n := 0) (hints := []) (cx_ok rfl) rdy_zg3i ⟨by kernel_rfl, by kernel_rfl, by kernel_rfl⟩ bs_zg3i nilB (fun das r hG hr => ?_)
 unfold g_zg3i at hG
 split at hG
 ·injection hG with hG; subst hG
  exact ⟨none, true, win default ((raw_zg3i ).trans (DT.go_run _ _)) hr⟩
 ·cases hG
end
end Go.Eng
