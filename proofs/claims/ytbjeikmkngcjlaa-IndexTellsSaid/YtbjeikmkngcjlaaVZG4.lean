/- Contracts, laid by program. -/
import Derived.Test.YtbjeikmkngcjlaaVZG3
set_option linter.unusedVariables false
namespace Go.Eng
noncomputable section
open Go Go.Eng Go.Proofs Go.Eng.Tab
abbrev cx_zvnj : Cx := mkCx2 tyTab [(89, g_zn3l), (90, g_zo5k)] [] [] []
theorem rdy_zvnj : Ready Try.prog tyTab [(89, g_zn3l), (90, g_zo5k)] [] [] := ⟨consG2 zn3l_ok (consG2 zo5k_ok (noneG2)), noneI2, noneF2⟩
structure S.zvnj_T where
 x0 : Bool
 deriving Inhabited
def S.zvnj_R (a0_0 : ByteArray) (a0_1 : Int) (a0_2 : List (Ty .val)) (a1 : List (Ty .op)) : DT S.zvnj_T :=
let y0 : S.zn3l_T := S.zn3l_o a0_0 a0_1 a0_2 a1
(.br (S.zn3l_is a0_0 a0_1 a0_2 a1)
(.br (xeqI (↑a1.length : Int) 0)
(.leaf ⟨true⟩)
(.br (xeqI y0.x3 0)
(.leaf ⟨xeqI y0.x0 (S.zo5k_o true).x0 && (xeqI y0.x1 (S.zo5k_o true).x1 && xdec (y0.x2 = (S.zo5k_o true).x2))⟩)
(.leaf ⟨false⟩)))
.fail)
def S.zvnj (a0_0 : ByteArray) (a0_1 : Int) (a0_2 : List (Ty .val)) (a1 : List (Ty .op)) : Option S.zvnj_T := (S.zvnj_R a0_0 a0_1 a0_2 a1).run
def S.zvnj_is (a0_0 : ByteArray) (a0_1 : Int) (a0_2 : List (Ty .val)) (a1 : List (Ty .op)) : Bool := (S.zvnj a0_0 a0_1 a0_2 a1).isSome
def S.zvnj_o (a0_0 : ByteArray) (a0_1 : Int) (a0_2 : List (Ty .val)) (a1 : List (Ty .op)) : S.zvnj_T := (S.zvnj a0_0 a0_1 a0_2 a1).getD default
def ret_zvnj (b : Bool) (r : S.zvnj_T) : Ret := ⟨b, none, [(false, [C.d (.sc (.bool r.x0))])]⟩
def g_zvnj : Con
 | [(true, [.sc (.str a0_0), .sc (.int .i64 a0_1), .sl a0_2n a0_2f .val a0_2]), (false, [.sl a1n a1f .op a1])] => some (ret_zvnj (S.zvnj_is a0_0 a0_1 a0_2 a1) (S.zvnj_o a0_0 a0_1 a0_2 a1))
 | _ => none
theorem raw_zvnj (a0_0 : ByteArray) (a0_1 : Int) (a0_2n : Option Bool) (a0_2f : Bool) (a0_2 : List (Ty .val)) (a1n : Option Bool) (a1f : Bool) (a1 : List (Ty .op)) : evR2 cx_zvnj (hdI cx_zvnj (find []) [] none 0) none Try.f48 48 none [(true, [.sc (.str a0_0), .sc (.int .i64 a0_1), .sl a0_2n a0_2f .val a0_2]), (false, [.sl a1n a1f .op a1])] some = (S.zvnj_R a0_0 a0_1 a0_2 a1).go (ret_zvnj true) := by kernel_rfl
theorem bs_zvnj : loopsIn Try.f48 [] = [] := by kernel_rfl
theorem zvnj_ok : Stands Try.prog tyTab 48 g_zvnj := by
 refine stands3 (L := find []) (n := 0) (hints := []) (cx_ok rfl) rdy_zvnj ⟨by kernel_rfl, by kernel_rfl, by kernel_rfl⟩ bs_zvnj nilB (fun das r hG hr => ?_)
 unfold g_zvnj at hG
 split at hG
 ·rename_i a0_0 a0_1 a0_2n a0_2f a0_2 a1n a1f a1
  injection hG with hG; subst hG
  exact ⟨none, true, win default ((raw_zvnj a0_0 a0_1 a0_2n a0_2f a0_2 a1n a1f a1).trans (DT.go_run _ _)) hr⟩
 ·cases hG
abbrev cx_zh5h : Cx := mkCx2 tyTab [(48, g_zvnj)] [] [] []
theorem rdy_zh5h : Ready Try.prog tyTab [(48, g_zvnj)] [] [] := ⟨consG2 zvnj_ok (noneG2), noneI2, noneF2⟩
structure S.zh5h_T where
 x0 : Bool
 deriving Inhabited
def S.zh5h_R (a0_0 : ByteArray) (a0_1 : List (Ty .op)) (a1_0 : ByteArray) (a1_1 : Int) (a1_2 : List (Ty .val)) : DT S.zh5h_T :=
(.br (xdec (a0_0 = a1_0))
(.br (S.zvnj_is a1_0 a1_1 a1_2 a0_1)
(.leaf ⟨(S.zvnj_o a1_0 a1_1 a1_2 a0_1).x0⟩)
.fail)
(.leaf ⟨false⟩))
def S.zh5h (a0_0 : ByteArray) (a0_1 : List (Ty .op)) (a1_0 : ByteArray) (a1_1 : Int) (a1_2 : List (Ty .val)) : Option S.zh5h_T := (S.zh5h_R a0_0 a0_1 a1_0 a1_1 a1_2).run
def S.zh5h_is (a0_0 : ByteArray) (a0_1 : List (Ty .op)) (a1_0 : ByteArray) (a1_1 : Int) (a1_2 : List (Ty .val)) : Bool := (S.zh5h a0_0 a0_1 a1_0 a1_1 a1_2).isSome
def S.zh5h_o (a0_0 : ByteArray) (a0_1 : List (Ty .op)) (a1_0 : ByteArray) (a1_1 : Int) (a1_2 : List (Ty .val)) : S.zh5h_T := (S.zh5h a0_0 a0_1 a1_0 a1_1 a1_2).getD default
def ret_zh5h (b : Bool) (r : S.zh5h_T) : Ret := ⟨b, none, [(false, [C.d (.sc (.bool r.x0))])]⟩
def g_zh5h : Con
 | [(true, [.sc (.str a0_0), .sl a0_1n a0_1f .op a0_1]), (true, [.sc (.str a1_0), .sc (.int .i64 a1_1), .sl a1_2n a1_2f .val a1_2])] => some (ret_zh5h (S.zh5h_is a0_0 a0_1 a1_0 a1_1 a1_2) (S.zh5h_o a0_0 a0_1 a1_0 a1_1 a1_2))
 | _ => none
theorem raw_zh5h (a0_0 : ByteArray) (a0_1n : Option Bool) (a0_1f : Bool) (a0_1 : List (Ty .op)) (a1_0 : ByteArray) (a1_1 : Int) (a1_2n : Option Bool) (a1_2f : Bool) (a1_2 : List (Ty .val)) : evR2 cx_zh5h (hdI cx_zh5h (find []) [] none 0) none Try.f47 47 none [(true, [.sc (.str a0_0), .sl a0_1n a0_1f .op a0_1]), (true, [.sc (.str a1_0), .sc (.int .i64 a1_1), .sl a1_2n a1_2f .val a1_2])] some = (S.zh5h_R a0_0 a0_1 a1_0 a1_1 a1_2).go (ret_zh5h true) := by kernel_rfl
theorem bs_zh5h : loopsIn Try.f47 [] = [] := by kernel_rfl
theorem zh5h_ok : Stands Try.prog tyTab 47 g_zh5h := by
 refine stands3 (L := find []) (n := 0) (hints := []) (cx_ok rfl) rdy_zh5h ⟨by kernel_rfl, by kernel_rfl, by kernel_rfl⟩ bs_zh5h nilB (fun das r hG hr => ?_)
 unfold g_zh5h at hG
 split at hG
 ·rename_i a0_0 a0_1n a0_1f a0_1 a1_0 a1_1 a1_2n a1_2f a1_2
  injection hG with hG; subst hG
  exact ⟨none, true, win default ((raw_zh5h a0_0 a0_1n a0_1f a0_1 a1_0 a1_1 a1_2n a1_2f a1_2).trans (DT.go_run _ _)) hr⟩
 ·cases hG
abbrev cx_zerv : Cx := mkCx2 tyTab [(47, g_zh5h)] [] [(42, 3, { keep := [3, 5, 11, 12, 13], acc := [] })] []
theorem rdy_zerv : Ready Try.prog tyTab [(47, g_zh5h)] [] [] := ⟨consG2 zh5h_ok (noneG2), noneI2, noneF2⟩
structure S.zerv_3_V where
 t13_ : Int
 h_4 : List (Ty .bool)
def S.zerv_3_R (t5_l : Nat) (qA : List (Ty .pred)) (qB : Int) (qC : ByteArray) (qD : Int) (qE : List (Ty .val)) (v : S.zerv_3_V) : DT (Option Nat × S.zerv_3_V) :=
let y0 : Bool := xdec (0 ≤ v.t13_)
let y1 : Ty .pred := qA.getD v.t13_.toNat (dflt .pred)
let y2 : ByteArray := y1.name
let y3 : List Opn := y1.ifs
let y4 : Nat := 0 + v.t13_.toNat
(.br (xdec (v.t13_ < qB))
(.br (y0 && xdec (v.t13_ < (↑qA.length : Int)))
(.br (S.zh5h_is y2 y3 qC qD qE)
(.br (y0 && xdec (v.t13_ < (↑t5_l : Int)))
(.br (xdec (y4 < v.h_4.length))
(.leaf (none, ⟨xwrap .i64 (v.t13_ + 1), v.h_4.set y4 (S.zh5h_o y2 y3 qC qD qE).x0⟩))
.fail)
.fail)
.fail)
.fail)
(.leaf (some 0, v)))
def S.zerv_3_r (t5_l : Nat) (qA : List (Ty .pred)) (qB : Int) (qC : ByteArray) (qD : Int) (qE : List (Ty .val)) (v : S.zerv_3_V) : Option (Option Nat × S.zerv_3_V) := (S.zerv_3_R t5_l qA qB qC qD qE v).run
def S.zerv_3_j (t5_l : Nat) (qA : List (Ty .pred)) (qB : Int) (qC : ByteArray) (qD : Int) (qE : List (Ty .val)) (v : S.zerv_3_V) (j : Nat) : Bool := Lp_j (S.zerv_3_r t5_l qA qB qC qD qE) v j
def S.zerv_3_v (t5_l : Nat) (qA : List (Ty .pred)) (qB : Int) (qC : ByteArray) (qD : Int) (qE : List (Ty .val)) (v : S.zerv_3_V) : S.zerv_3_V := Lp_v (S.zerv_3_r t5_l qA qB qC qD qE) v
def mk_zerv_3 (t5_l : Nat) (qF : Option Bool) (qG : Bool) (qA : List (Ty .pred)) (qB : Int) (qC : ByteArray) (qD : Int) (qH : Option Bool) (qI : Bool) (qE : List (Ty .val)) (v : S.zerv_3_V) : St := ⟨(vs 3 (V.v false [C.ptr 0 0] :: (V.any :: (V.v false [C.own 4 .bool true 0 t5_l] :: (vs 5 (V.v false [C.d (.sl qF qG .pred qA)] :: ((cV qB) :: ((cV v.t13_) :: (vs 12 []))))))))), (some (Blk.box 29 [C.d (.sc (.str qC)), (cI qD), C.d (.sl qH qI .val qE)]) :: (ns 3 (some (Blk.arr 4 .bool v.h_4) :: (ns 4 [])))), 0⟩
def ex_zerv_3 (t5_l : Nat) (qF : Option Bool) (qG : Bool) (qA : List (Ty .pred)) (qB : Int) (qC : ByteArray) (qD : Int) (qH : Option Bool) (qI : Bool) (qE : List (Ty .val)) (j : Nat) (v : S.zerv_3_V) : Ex × St := match j with
 | 0 => (Ex.exit 0, ⟨(vs 5 (V.v false [C.own 4 .bool true 0 t5_l] :: (vs 20 []))), (some (Blk.box 29 [C.d (.sc (.str qC)), (cI qD), C.d (.sl qH qI .val qE)]) :: (ns 3 (some (Blk.arr 4 .bool v.h_4) :: (ns 5 [])))), 0⟩)
 | _ => (.ret, ⟨[], [], 0⟩)
def T1_zerv_3 : V → V → V → V → V → Option Blk → Option Blk → Tree
 | V.v false [C.ptr 0 0], V.v false [C.own 4 .bool true 0 t5_l], V.v false [C.d (.sl qF qG .pred qA)], V.v false [C.d (.sc (.int .i64 qB))], V.v false [C.d (.sc (.int .i64 t13_))], some (Blk.box 29 [C.d (.sc (.str qC)), C.d (.sc (.int .i64 qD)), C.d (.sl qH qI .val qE)]), some (Blk.arr 4 .bool h_4) => exT (fun j => ex_zerv_3 t5_l qF qG qA qB qC qD qH qI qE j (S.zerv_3_v t5_l qA qB qC qD qE ⟨t13_, h_4⟩)) (S.zerv_3_j t5_l qA qB qC qD qE ⟨t13_, h_4⟩) [0]
 | _, _, _, _, _, _, _ => .bad
def T_zerv_3 (st : St) : Tree := bif okSt 26 9 0 [0, 4] st then T1_zerv_3 (st.env.getD 3 .any) (st.env.getD 5 .any) (st.env.getD 11 .any) (st.env.getD 12 .any) (st.env.getD 13 .any) (lk st.heap 0) (lk st.heap 4) else .bad
def b_zerv_3 : Code := loopBy Try.f42 3
theorem rnd_zerv_3 (t5_l : Nat) (qF : Option Bool) (qG : Bool) (qA : List (Ty .pred)) (qB : Int) (qC : ByteArray) (qD : Int) (qH : Option Bool) (qI : Bool) (qE : List (Ty .val)) (v : S.zerv_3_V) : round2 cx_zerv (hdI cx_zerv (find []) [] none 0) 42 b_zerv_3 [] 9 [5] (mk_zerv_3 t5_l qF qG qA qB qC qD qH qI qE v) = (S.zerv_3_R t5_l qA qB qC qD qE v).go (roundOut (mk_zerv_3 t5_l qF qG qA qB qC qD qH qI qE) (ex_zerv_3 t5_l qF qG qA qB qC qD qH qI qE)) := by kernel_rfl
theorem bs_zerv_3 : loopsOf b_zerv_3 ++ loopsInl [] = [] := by kernel_rfl
theorem ci_zerv_3 (t5_l : Nat) (qF : Option Bool) (qG : Bool) (qA : List (Ty .pred)) (qB : Int) (qC : ByteArray) (qD : Int) (qH : Option Bool) (qI : Bool) (qE : List (Ty .val)) : ∀ v j v2, Lp (S.zerv_3_r t5_l qA qB qC qD qE) v = some (j, v2) → Circles Try.prog cx_zerv b_zerv_3 (mk_zerv_3 t5_l qF qG qA qB qC qD qH qI qE v) (ex_zerv_3 t5_l qF qG qA qB qC qD qH qI qE j v2).1 (ex_zerv_3 t5_l qF qG qA qB qC qD qH qI qE j v2).2 :=
 loop_ok2 (L := find []) (n := 0) (hints := [(42, 3, { keep := [3, 5, 11, 12, 13], acc := [] })]) (cx_ok rfl) rdy_zerv bs_zerv_3 nilB (fun v => (rnd_zerv_3 t5_l qF qG qA qB qC qD qH qI qE v).trans (DT.go_run _ _)) (by intro j v; unfold ex_zerv_3; split <;> rfl)
theorem mke_zerv_3 (t5_l : Nat) (qF : Option Bool) (qG : Bool) (qA : List (Ty .pred)) (qB : Int) (qC : ByteArray) (qD : Int) (qH : Option Bool) (qI : Bool) (qE : List (Ty .val)) (v : S.zerv_3_V) : mk_zerv_3 t5_l qF qG qA qB qC qD qH qI qE v = ⟨envOf 26 [(3, V.v false [C.ptr 0 0]), (5, V.v false [C.own 4 .bool true 0 t5_l]), (11, V.v false [C.d (.sl qF qG .pred qA)]), (12, (cV qB)), (13, (cV v.t13_))], heapOf 9 [(0, some (Blk.box 29 [C.d (.sc (.str qC)), (cI qD), C.d (.sl qH qI .val qE)])), (4, some (Blk.arr 4 .bool v.h_4))], 0⟩ := by kernel_rfl
theorem lo1_zerv_3 (e3 : V) (e5 : V) (e11 : V) (e12 : V) (e13 : V) (h0 : Option Blk) (h4 : Option Blk) e st2 (h : (T1_zerv_3 e3 e5 e11 e12 e13 h0 h4).eval = some (e, st2)) : Circles Try.prog cx_zerv b_zerv_3 ⟨envOf 26 [(3, e3), (5, e5), (11, e11), (12, e12), (13, e13)], heapOf 9 [(0, h0), (4, h4)], 0⟩ e st2 := by
 unfold T1_zerv_3 at h
 split at h
 ·have := loop_tree (mk := mk_zerv_3 _ _ _ _ _ _ _ _ _ _) (ci_zerv_3 _ _ _ _ _ _ _ _ _ _) _ _ e st2 h
  rw [mke_zerv_3] at this
  exact this
 ·cases h
theorem lok_zerv_3 : LoopOk Try.prog cx_zerv b_zerv_3 T_zerv_3 := by
 intro st e st2 h
 unfold T_zerv_3 at h
 cases hk : okSt 26 9 0 [0, 4] st with
 | false => rw [hk] at h; cases h
 | true =>
  rw [hk] at h
  exact circles_keep (ks := [3, 5, 11, 12, 13]) hk (lo1_zerv_3 _ _ _ _ _ _ _ e st2 h)
structure S.zerv_T where
 x0 : List (Ty .bool)
 deriving Inhabited
def S.zerv_R (a0 : List (Ty .pred)) (a1_0 : ByteArray) (a1_1 : Int) (a1_2 : List (Ty .val)) : DT S.zerv_T :=
let y0 : Int := (↑a0.length : Int)
let y1 : Nat := y0.toNat
let y2 : S.zerv_3_V := { t13_ := 0, h_4 := List.replicate y1 (dflt .bool) : S.zerv_3_V }
let y3 : Nat := 0 + y1
let y4 : List (Ty .bool) := (S.zerv_3_v y1 a0 y0 a1_0 a1_1 a1_2 y2).h_4
(.br (xdec (0 ≤ y0) && xdec (y0 ≤ 1048576) && xeqI y0 y0)
(.br (S.zerv_3_j y1 a0 y0 a1_0 a1_1 a1_2 y2 0)
(.br (xdec (y3 ≤ y4.length) && true && true && true)
(.leaf ⟨sub y4 0 y3⟩)
.fail)
.fail)
.fail)
def S.zerv (a0 : List (Ty .pred)) (a1_0 : ByteArray) (a1_1 : Int) (a1_2 : List (Ty .val)) : Option S.zerv_T := (S.zerv_R a0 a1_0 a1_1 a1_2).run
def S.zerv_is (a0 : List (Ty .pred)) (a1_0 : ByteArray) (a1_1 : Int) (a1_2 : List (Ty .val)) : Bool := (S.zerv a0 a1_0 a1_1 a1_2).isSome
def S.zerv_o (a0 : List (Ty .pred)) (a1_0 : ByteArray) (a1_1 : Int) (a1_2 : List (Ty .val)) : S.zerv_T := (S.zerv a0 a1_0 a1_1 a1_2).getD default
def ret_zerv (b : Bool) (r : S.zerv_T) : Ret := ⟨b, none, [(false, [C.d (.sl none false .bool r.x0)])]⟩
def g_zerv : Con
 | [(false, [.sl a0n a0f .pred a0]), (true, [.sc (.str a1_0), .sc (.int .i64 a1_1), .sl a1_2n a1_2f .val a1_2])] => some (ret_zerv (S.zerv_is a0 a1_0 a1_1 a1_2) (S.zerv_o a0 a1_0 a1_1 a1_2))
 | _ => none
theorem raw_zerv (a0n : Option Bool) (a0f : Bool) (a0 : List (Ty .pred)) (a1_0 : ByteArray) (a1_1 : Int) (a1_2n : Option Bool) (a1_2f : Bool) (a1_2 : List (Ty .val)) : evR2 cx_zerv (hdI cx_zerv (find [(3, T_zerv_3)]) [] none 0) none Try.f42 42 none [(false, [.sl a0n a0f .pred a0]), (true, [.sc (.str a1_0), .sc (.int .i64 a1_1), .sl a1_2n a1_2f .val a1_2])] some = (S.zerv_R a0 a1_0 a1_1 a1_2).go (ret_zerv true) := by kernel_rfl
theorem bs_zerv : loopsIn Try.f42 [] = [b_zerv_3] := by kernel_rfl
theorem zerv_ok : Stands Try.prog tyTab 42 g_zerv := by
 refine stands3 (L := find [(3, T_zerv_3)]) (n := 0) (hints := [(42, 3, { keep := [3, 5, 11, 12, 13], acc := [] })]) (cx_ok rfl) rdy_zerv ⟨by kernel_rfl, by kernel_rfl, by kernel_rfl⟩ bs_zerv (consB (fun T h => by have e : T_zerv_3 = T := Option.some.inj (show some T_zerv_3 = some T from h); exact e ▸ lok_zerv_3) nilB) (fun das r hG hr => ?_)
 unfold g_zerv at hG
 split at hG
 ·rename_i a0n a0f a0 a1_0 a1_1 a1_2n a1_2f a1_2
  injection hG with hG; subst hG
  exact ⟨none, true, win default ((raw_zerv a0n a0f a0 a1_0 a1_1 a1_2n a1_2f a1_2).trans (DT.go_run _ _)) hr⟩
 ·cases hG
abbrev cx_z6c2 : Cx := mkCx2 tyTab [] [] [(36, 4, { keep := [1, 3], acc := [] })] []
theorem rdy_z6c2 : Ready Try.prog tyTab [] [] [] := ⟨noneG2, noneI2, noneF2⟩
structure S.z6c2_4_V where
 t3_ : Int
def S.z6c2_4_R (qE : List (Ty .val)) (v : S.z6c2_4_V) : DT (Option Nat × S.z6c2_4_V) :=
let y0 : Bool := xdec (v.t3_ < (↑qE.length : Int))
(.br (y0)
(.br (xdec (0 ≤ v.t3_) && y0)
(.br (xdec ((↑(qE.getD v.t3_.toNat (dflt .val)).s.size : Int) > 100))
(.leaf (some 0, v))
(.leaf (none, ⟨xwrap .i64 (v.t3_ + 1)⟩)))
.fail)
(.leaf (some 1, v)))
def S.z6c2_4_r (qE : List (Ty .val)) (v : S.z6c2_4_V) : Option (Option Nat × S.z6c2_4_V) := (S.z6c2_4_R qE v).run
def S.z6c2_4_j (qE : List (Ty .val)) (v : S.z6c2_4_V) (j : Nat) : Bool := Lp_j (S.z6c2_4_r qE) v j
def S.z6c2_4_v (qE : List (Ty .val)) (v : S.z6c2_4_V) : S.z6c2_4_V := Lp_v (S.z6c2_4_r qE) v
def mk_z6c2_4 (qC : ByteArray) (qD : Int) (qH : Option Bool) (qI : Bool) (qE : List (Ty .val)) (v : S.z6c2_4_V) : St := ⟨(V.any :: (V.v false [C.ptr 0 0] :: (V.any :: ((cV v.t3_) :: (vs 25 []))))), (some (Blk.box 29 [C.d (.sc (.str qC)), (cI qD), C.d (.sl qH qI .val qE)]) :: (ns 12 [])), 0⟩
def ex_z6c2_4 (qC : ByteArray) (qD : Int) (qH : Option Bool) (qI : Bool) (qE : List (Ty .val)) (j : Nat) (v : S.z6c2_4_V) : Ex × St := match j with
 | 0 => (Ex.ret, ⟨(V.any :: (V.any :: (V.v false [C.d (.sc (.bool false))] :: (vs 26 [])))), (some (Blk.box 29 [C.d (.sc (.str qC)), (cI qD), C.d (.sl qH qI .val qE)]) :: (ns 26 [])), 0⟩)
 | 1 => (Ex.exit 0, ⟨(vs 29 []), (some (Blk.box 29 [C.d (.sc (.str qC)), (cI qD), C.d (.sl qH qI .val qE)]) :: (ns 17 [])), 0⟩)
 | _ => (.ret, ⟨[], [], 0⟩)
def T1_z6c2_4 : V → V → Option Blk → Tree
 | V.v false [C.ptr 0 0], V.v false [C.d (.sc (.int .i64 t3_))], some (Blk.box 29 [C.d (.sc (.str qC)), C.d (.sc (.int .i64 qD)), C.d (.sl qH qI .val qE)]) => exT (fun j => ex_z6c2_4 qC qD qH qI qE j (S.z6c2_4_v qE ⟨t3_⟩)) (S.z6c2_4_j qE ⟨t3_⟩) [0, 1]
 | _, _, _ => .bad
def T_z6c2_4 (st : St) : Tree := bif okSt 29 13 0 [0] st then T1_z6c2_4 (st.env.getD 1 .any) (st.env.getD 3 .any) (lk st.heap 0) else .bad
def b_z6c2_4 : Code := loopBy Try.f36 4
theorem rnd_z6c2_4 (qC : ByteArray) (qD : Int) (qH : Option Bool) (qI : Bool) (qE : List (Ty .val)) (v : S.z6c2_4_V) : round2 cx_z6c2 (hdI cx_z6c2 (find []) [] none 0) 36 b_z6c2_4 [] 13 [2] (mk_z6c2_4 qC qD qH qI qE v) = (S.z6c2_4_R qE v).go (roundOut (mk_z6c2_4 qC qD qH qI qE) (ex_z6c2_4 qC qD qH qI qE)) := by kernel_rfl
theorem bs_z6c2_4 : loopsOf b_z6c2_4 ++ loopsInl [] = [] := by kernel_rfl
theorem ci_z6c2_4 (qC : ByteArray) (qD : Int) (qH : Option Bool) (qI : Bool) (qE : List (Ty .val)) : ∀ v j v2, Lp (S.z6c2_4_r qE) v = some (j, v2) → Circles Try.prog cx_z6c2 b_z6c2_4 (mk_z6c2_4 qC qD qH qI qE v) (ex_z6c2_4 qC qD qH qI qE j v2).1 (ex_z6c2_4 qC qD qH qI qE j v2).2 :=
 loop_ok2 (L := find []) (n := 0) (hints := [(36, 4, { keep := [1, 3], acc := [] })]) (cx_ok rfl) rdy_z6c2 bs_z6c2_4 nilB (fun v => (rnd_z6c2_4 qC qD qH qI qE v).trans (DT.go_run _ _)) (by intro j v; unfold ex_z6c2_4; split <;> rfl)
theorem mke_z6c2_4 (qC : ByteArray) (qD : Int) (qH : Option Bool) (qI : Bool) (qE : List (Ty .val)) (v : S.z6c2_4_V) : mk_z6c2_4 qC qD qH qI qE v = ⟨envOf 29 [(1, V.v false [C.ptr 0 0]), (3, (cV v.t3_))], heapOf 13 [(0, some (Blk.box 29 [C.d (.sc (.str qC)), (cI qD), C.d (.sl qH qI .val qE)]))], 0⟩ := by kernel_rfl
theorem lo1_z6c2_4 (e1 : V) (e3 : V) (h0 : Option Blk) e st2 (h : (T1_z6c2_4 e1 e3 h0).eval = some (e, st2)) : Circles Try.prog cx_z6c2 b_z6c2_4 ⟨envOf 29 [(1, e1), (3, e3)], heapOf 13 [(0, h0)], 0⟩ e st2 := by
 unfold T1_z6c2_4 at h
 split at h
 ·have := loop_tree (mk := mk_z6c2_4 _ _ _ _ _) (ci_z6c2_4 _ _ _ _ _) _ _ e st2 h
  rw [mke_z6c2_4] at this
  exact this
 ·cases h
theorem lok_z6c2_4 : LoopOk Try.prog cx_z6c2 b_z6c2_4 T_z6c2_4 := by
 intro st e st2 h
 unfold T_z6c2_4 at h
 cases hk : okSt 29 13 0 [0] st with
 | false => rw [hk] at h; cases h
 | true =>
  rw [hk] at h
  exact circles_keep (ks := [1, 3]) hk (lo1_z6c2_4 _ _ _ e st2 h)
structure S.z6c2_T where
 x0 : Bool
 deriving Inhabited
def S.z6c2_R (a0_0 : ByteArray) (a0_2 : List (Ty .val)) : DT S.z6c2_T :=
let y0 : S.z6c2_4_V := { t3_ := 0 : S.z6c2_4_V }
(.br (xdec ((↑a0_0.size : Int) > 60))
(.leaf ⟨false⟩)
(.br (xdec ((↑a0_2.length : Int) > 10))
(.leaf ⟨false⟩)
(.br (S.z6c2_4_j a0_2 y0 0)
(.leaf ⟨false⟩)
(.br (S.z6c2_4_j a0_2 y0 1)
(.leaf ⟨true⟩)
.fail))))
def S.z6c2 (a0_0 : ByteArray) (a0_2 : List (Ty .val)) : Option S.z6c2_T := (S.z6c2_R a0_0 a0_2).run
def S.z6c2_is (a0_0 : ByteArray) (a0_2 : List (Ty .val)) : Bool := (S.z6c2 a0_0 a0_2).isSome
def S.z6c2_o (a0_0 : ByteArray) (a0_2 : List (Ty .val)) : S.z6c2_T := (S.z6c2 a0_0 a0_2).getD default
def ret_z6c2 (b : Bool) (r : S.z6c2_T) : Ret := ⟨b, none, [(false, [C.d (.sc (.bool r.x0))])]⟩
def g_z6c2 : Con
 | [(true, [.sc (.str a0_0), .sc (.int .i64 a0_1), .sl a0_2n a0_2f .val a0_2])] => some (ret_z6c2 (S.z6c2_is a0_0 a0_2) (S.z6c2_o a0_0 a0_2))
 | _ => none
theorem raw_z6c2 (a0_0 : ByteArray) (a0_1 : Int) (a0_2n : Option Bool) (a0_2f : Bool) (a0_2 : List (Ty .val)) : evR2 cx_z6c2 (hdI cx_z6c2 (find [(4, T_z6c2_4)]) [] none 0) none Try.f36 36 none [(true, [.sc (.str a0_0), .sc (.int .i64 a0_1), .sl a0_2n a0_2f .val a0_2])] some = (S.z6c2_R a0_0 a0_2).go (ret_z6c2 true) := by kernel_rfl
theorem bs_z6c2 : loopsIn Try.f36 [] = [b_z6c2_4] := by kernel_rfl
theorem z6c2_ok : Stands Try.prog tyTab 36 g_z6c2 := by
 refine stands3 (L := find [(4, T_z6c2_4)]) (n := 0) (hints := [(36, 4, { keep := [1, 3], acc := [] })]) (cx_ok rfl) rdy_z6c2 ⟨by kernel_rfl, by kernel_rfl, by kernel_rfl⟩ bs_z6c2 (consB (fun T h => by have e : T_z6c2_4 = T := Option.some.inj (show some T_z6c2_4 = some T from h); exact e ▸ lok_z6c2_4) nilB) (fun das r hG hr => ?_)
 unfold g_z6c2 at hG
 split at hG
 ·rename_i a0_0 a0_1 a0_2n a0_2f a0_2
  injection hG with hG; subst hG
  exact ⟨none, true, win default ((raw_z6c2 a0_0 a0_1 a0_2n a0_2f a0_2).trans (DT.go_run _ _)) hr⟩
 ·cases hG
abbrev cx_zzsx : Cx := mkCx2 tyTab [] [] [(37, 4, { keep := [0, 3], acc := [] })] []
theorem rdy_zzsx : Ready Try.prog tyTab [] [] [] := ⟨noneG2, noneI2, noneF2⟩
structure S.zzsx_4_V where
 t3_ : Int
def S.zzsx_4_R (qJ : List (Ty .op)) (v : S.zzsx_4_V) : DT (Option Nat × S.zzsx_4_V) :=
let y0 : Bool := xdec (v.t3_ < (↑qJ.length : Int))
(.br (y0)
(.br (xdec (0 ≤ v.t3_) && y0)
(.br (xdec ((↑(qJ.getD v.t3_.toNat (dflt .op)).v.s.size : Int) > 100))
(.leaf (some 0, v))
(.leaf (none, ⟨xwrap .i64 (v.t3_ + 1)⟩)))
.fail)
(.leaf (some 1, v)))
def S.zzsx_4_r (qJ : List (Ty .op)) (v : S.zzsx_4_V) : Option (Option Nat × S.zzsx_4_V) := (S.zzsx_4_R qJ v).run
def S.zzsx_4_j (qJ : List (Ty .op)) (v : S.zzsx_4_V) (j : Nat) : Bool := Lp_j (S.zzsx_4_r qJ) v j
def S.zzsx_4_v (qJ : List (Ty .op)) (v : S.zzsx_4_V) : S.zzsx_4_V := Lp_v (S.zzsx_4_r qJ) v
def mk_zzsx_4 (qK : Option Bool) (qL : Bool) (qJ : List (Ty .op)) (v : S.zzsx_4_V) : St := ⟨(V.v false [C.d (.sl qK qL .op qJ)] :: (V.any :: (V.any :: ((cV v.t3_) :: (vs 17 []))))), (ns 5 []), 0⟩
def ex_zzsx_4 (qK : Option Bool) (qL : Bool) (qJ : List (Ty .op)) (j : Nat) (v : S.zzsx_4_V) : Ex × St := match j with
 | 0 => (Ex.ret, ⟨(V.any :: (V.any :: (V.v false [C.d (.sc (.bool false))] :: (vs 18 [])))), (ns 18 []), 0⟩)
 | 1 => (Ex.exit 0, ⟨(vs 21 []), (ns 9 []), 0⟩)
 | _ => (.ret, ⟨[], [], 0⟩)
def T1_zzsx_4 : V → V → Tree
 | V.v false [C.d (.sl qK qL .op qJ)], V.v false [C.d (.sc (.int .i64 t3_))] => exT (fun j => ex_zzsx_4 qK qL qJ j (S.zzsx_4_v qJ ⟨t3_⟩)) (S.zzsx_4_j qJ ⟨t3_⟩) [0, 1]
 | _, _ => .bad
def T_zzsx_4 (st : St) : Tree := bif okSt 21 5 0 [] st then T1_zzsx_4 (st.env.getD 0 .any) (st.env.getD 3 .any) else .bad
def b_zzsx_4 : Code := loopBy Try.f37 4
theorem rnd_zzsx_4 (qK : Option Bool) (qL : Bool) (qJ : List (Ty .op)) (v : S.zzsx_4_V) : round2 cx_zzsx (hdI cx_zzsx (find []) [] none 0) 37 b_zzsx_4 [] 5 [2] (mk_zzsx_4 qK qL qJ v) = (S.zzsx_4_R qJ v).go (roundOut (mk_zzsx_4 qK qL qJ) (ex_zzsx_4 qK qL qJ)) := by kernel_rfl
theorem bs_zzsx_4 : loopsOf b_zzsx_4 ++ loopsInl [] = [] := by kernel_rfl
theorem ci_zzsx_4 (qK : Option Bool) (qL : Bool) (qJ : List (Ty .op)) : ∀ v j v2, Lp (S.zzsx_4_r qJ) v = some (j, v2) → Circles Try.prog cx_zzsx b_zzsx_4 (mk_zzsx_4 qK qL qJ v) (ex_zzsx_4 qK qL qJ j v2).1 (ex_zzsx_4 qK qL qJ j v2).2 :=
 loop_ok2 (L := find []) (n := 0) (hints := [(37, 4, { keep := [0, 3], acc := [] })]) (cx_ok rfl) rdy_zzsx bs_zzsx_4 nilB (fun v => (rnd_zzsx_4 qK qL qJ v).trans (DT.go_run _ _)) (by intro j v; unfold ex_zzsx_4; split <;> rfl)
theorem mke_zzsx_4 (qK : Option Bool) (qL : Bool) (qJ : List (Ty .op)) (v : S.zzsx_4_V) : mk_zzsx_4 qK qL qJ v = ⟨envOf 21 [(0, V.v false [C.d (.sl qK qL .op qJ)]), (3, (cV v.t3_))], heapOf 5 [], 0⟩ := by kernel_rfl
theorem lo1_zzsx_4 (e0 : V) (e3 : V)  e st2 (h : (T1_zzsx_4 e0 e3).eval = some (e, st2)) : Circles Try.prog cx_zzsx b_zzsx_4 ⟨envOf 21 [(0, e0), (3, e3)], heapOf 5 [], 0⟩ e st2 := by
 unfold T1_zzsx_4 at h
 split at h
 ·have := loop_tree (mk := mk_zzsx_4 _ _ _) (ci_zzsx_4 _ _ _) _ _ e st2 h
  rw [mke_zzsx_4] at this
  exact this
 ·cases h
theorem lok_zzsx_4 : LoopOk Try.prog cx_zzsx b_zzsx_4 T_zzsx_4 := by
 intro st e st2 h
 unfold T_zzsx_4 at h
 cases hk : okSt 21 5 0 [] st with
 | false => rw [hk] at h; cases h
 | true =>
  rw [hk] at h
  exact circles_keep (ks := [0, 3]) hk (lo1_zzsx_4 _ _ e st2 h)
structure S.zzsx_T where
 x0 : Bool
 deriving Inhabited
def S.zzsx_R (a0 : List (Ty .op)) : DT S.zzsx_T :=
let y0 : S.zzsx_4_V := { t3_ := 0 : S.zzsx_4_V }
(.br (xdec ((↑a0.length : Int) > 20))
(.leaf ⟨false⟩)
(.br (S.zzsx_4_j a0 y0 0)
(.leaf ⟨false⟩)
(.br (S.zzsx_4_j a0 y0 1)
(.leaf ⟨true⟩)
.fail)))
def S.zzsx (a0 : List (Ty .op)) : Option S.zzsx_T := (S.zzsx_R a0).run
def S.zzsx_is (a0 : List (Ty .op)) : Bool := (S.zzsx a0).isSome
def S.zzsx_o (a0 : List (Ty .op)) : S.zzsx_T := (S.zzsx a0).getD default
def ret_zzsx (b : Bool) (r : S.zzsx_T) : Ret := ⟨b, none, [(false, [C.d (.sc (.bool r.x0))])]⟩
def g_zzsx : Con
 | [(false, [.sl a0n a0f .op a0])] => some (ret_zzsx (S.zzsx_is a0) (S.zzsx_o a0))
 | _ => none
theorem raw_zzsx (a0n : Option Bool) (a0f : Bool) (a0 : List (Ty .op)) : evR2 cx_zzsx (hdI cx_zzsx (find [(4, T_zzsx_4)]) [] none 0) none Try.f37 37 none [(false, [.sl a0n a0f .op a0])] some = (S.zzsx_R a0).go (ret_zzsx true) := by kernel_rfl
theorem bs_zzsx : loopsIn Try.f37 [] = [b_zzsx_4] := by kernel_rfl
theorem zzsx_ok : Stands Try.prog tyTab 37 g_zzsx := by
 refine stands3 (L := find [(4, T_zzsx_4)]) (n := 0) (hints := [(37, 4, { keep := [0, 3], acc := [] })]) (cx_ok rfl) rdy_zzsx ⟨by kernel_rfl, by kernel_rfl, by kernel_rfl⟩ bs_zzsx (consB (fun T h => by have e : T_zzsx_4 = T := Option.some.inj (show some T_zzsx_4 = some T from h); exact e ▸ lok_zzsx_4) nilB) (fun das r hG hr => ?_)
 unfold g_zzsx at hG
 split at hG
 ·rename_i a0n a0f a0
  injection hG with hG; subst hG
  exact ⟨none, true, win default ((raw_zzsx a0n a0f a0).trans (DT.go_run _ _)) hr⟩
 ·cases hG
abbrev cx_zydq : Cx := mkCx2 tyTab [(37, g_zzsx)] [] [(50, 4, { keep := [1, 3], acc := [] })] []
theorem rdy_zydq : Ready Try.prog tyTab [(37, g_zzsx)] [] [] := ⟨consG2 zzsx_ok (noneG2), noneI2, noneF2⟩
structure S.zydq_4_V where
 t3_ : Int
def S.zydq_4_R (qC : List (Ty .step)) (v : S.zydq_4_V) : DT (Option Nat × S.zydq_4_V) :=
let y0 : Bool := xdec (v.t3_ < (↑qC.length : Int))
let y1 : Ty .step := qC.getD v.t3_.toNat (dflt .step)
let y2 : List Opn := y1.ifs
let y3 : List Opn := y1.notIf
(.br (y0)
(.br (xdec (0 ≤ v.t3_) && y0)
(.br (S.zzsx_is y2)
(.br (S.zzsx_is y3)
(.br (xnot (S.zzsx_o y2).x0)
(.leaf (some 0, v))
(.br (xnot (S.zzsx_o y3).x0)
(.leaf (some 0, v))
(.br (xdec ((↑y1.name.size : Int) > 60))
(.leaf (some 0, v))
(.br (xdec ((↑y1.notName.size : Int) > 60))
(.leaf (some 0, v))
(.leaf (none, ⟨xwrap .i64 (v.t3_ + 1)⟩))))))
.fail)
.fail)
.fail)
(.leaf (some 1, v)))
def S.zydq_4_r (qC : List (Ty .step)) (v : S.zydq_4_V) : Option (Option Nat × S.zydq_4_V) := (S.zydq_4_R qC v).run
def S.zydq_4_j (qC : List (Ty .step)) (v : S.zydq_4_V) (j : Nat) : Bool := Lp_j (S.zydq_4_r qC) v j
def S.zydq_4_v (qC : List (Ty .step)) (v : S.zydq_4_V) : S.zydq_4_V := Lp_v (S.zydq_4_r qC) v
def mk_zydq_4 (qM : Option Bool) (qN : Bool) (qC : List (Ty .step)) (qD : Int) (qE : Int) (qO : Int) (qP : Int) (v : S.zydq_4_V) : St := ⟨(V.any :: (V.v false [C.ptr 0 0] :: (V.any :: ((cV v.t3_) :: (vs 43 []))))), (some (Blk.box 45 [C.d (.sl qM qN .step qC), (cI qD), (cI qE), (cI qO), (cI qP)]) :: (ns 6 [])), 0⟩
def ex_zydq_4 (qM : Option Bool) (qN : Bool) (qC : List (Ty .step)) (qD : Int) (qE : Int) (qO : Int) (qP : Int) (j : Nat) (v : S.zydq_4_V) : Ex × St := match j with
 | 0 => (Ex.ret, ⟨(V.any :: (V.any :: (V.v false [C.d (.sc (.bool false))] :: (vs 44 [])))), (some
  (Blk.box 45
   [C.d (.sl qM qN .step qC), (cI qD), (cI qE), (cI qO),
    (cI qP)]) :: (ns 16 (some
  (Blk.box 47
   [C.d (.sc (.str (qC.getD v.t3_.toNat (dflt .step)).name)), C.d (.sl none false .op (qC.getD v.t3_.toNat (dflt .step)).ifs),
    (cI (qC.getD v.t3_.toNat (dflt .step)).min), (cI (qC.getD v.t3_.toNat (dflt .step)).max),
    C.d (.sc (.bool (qC.getD v.t3_.toNat (dflt .step)).guard)), C.d (.sc (.str (qC.getD v.t3_.toNat (dflt .step)).notName)),
    C.d (.sl none false .op (qC.getD v.t3_.toNat (dflt .step)).notIf)]) :: (ns 28 [])))), 0⟩)
 | 1 => (Ex.exit 0, ⟨(vs 47 []), (some
  (Blk.box 45
   [C.d (.sl qM qN .step qC), (cI qD), (cI qE), (cI qO),
    (cI qP)]) :: (ns 11 [])), 0⟩)
 | _ => (.ret, ⟨[], [], 0⟩)
def T1_zydq_4 : V → V → Option Blk → Tree
 | V.v false [C.ptr 0 0], V.v false [C.d (.sc (.int .i64 t3_))], some (Blk.box 45 [C.d (.sl qM qN .step qC), C.d (.sc (.int .i64 qD)), C.d (.sc (.int .i64 qE)), C.d (.sc (.int .i64 qO)), C.d (.sc (.int .i64 qP))]) => exT (fun j => ex_zydq_4 qM qN qC qD qE qO qP j (S.zydq_4_v qC ⟨t3_⟩)) (S.zydq_4_j qC ⟨t3_⟩) [0, 1]
 | _, _, _ => .bad
def T_zydq_4 (st : St) : Tree := bif okSt 47 7 0 [0] st then T1_zydq_4 (st.env.getD 1 .any) (st.env.getD 3 .any) (lk st.heap 0) else .bad
def b_zydq_4 : Code := loopBy Try.f50 4
theorem rnd_zydq_4 (qM : Option Bool) (qN : Bool) (qC : List (Ty .step)) (qD : Int) (qE : Int) (qO : Int) (qP : Int) (v : S.zydq_4_V) : round2 cx_zydq (hdI cx_zydq (find []) [] none 0) 50 b_zydq_4 [] 7 [2] (mk_zydq_4 qM qN qC qD qE qO qP v) = (S.zydq_4_R qC v).go (roundOut (mk_zydq_4 qM qN qC qD qE qO qP) (ex_zydq_4 qM qN qC qD qE qO qP)) := by kernel_rfl
theorem bs_zydq_4 : loopsOf b_zydq_4 ++ loopsInl [] = [] := by kernel_rfl
theorem ci_zydq_4 (qM : Option Bool) (qN : Bool) (qC : List (Ty .step)) (qD : Int) (qE : Int) (qO : Int) (qP : Int) : ∀ v j v2, Lp (S.zydq_4_r qC) v = some (j, v2) → Circles Try.prog cx_zydq b_zydq_4 (mk_zydq_4 qM qN qC qD qE qO qP v) (ex_zydq_4 qM qN qC qD qE qO qP j v2).1 (ex_zydq_4 qM qN qC qD qE qO qP j v2).2 :=
 loop_ok2 (L := find []) (n := 0) (hints := [(50, 4, { keep := [1, 3], acc := [] })]) (cx_ok rfl) rdy_zydq bs_zydq_4 nilB (fun v => (rnd_zydq_4 qM qN qC qD qE qO qP v).trans (DT.go_run _ _)) (by intro j v; unfold ex_zydq_4; split <;> rfl)
theorem mke_zydq_4 (qM : Option Bool) (qN : Bool) (qC : List (Ty .step)) (qD : Int) (qE : Int) (qO : Int) (qP : Int) (v : S.zydq_4_V) : mk_zydq_4 qM qN qC qD qE qO qP v = ⟨envOf 47 [(1, V.v false [C.ptr 0 0]), (3, (cV v.t3_))], heapOf 7 [(0, some
 (Blk.box 45
  [C.d (.sl qM qN .step qC), (cI qD), (cI qE), (cI qO),
   (cI qP)]))], 0⟩ := by kernel_rfl
theorem lo1_zydq_4 (e1 : V) (e3 : V) (h0 : Option Blk) e st2 (h : (T1_zydq_4 e1 e3 h0).eval = some (e, st2)) : Circles Try.prog cx_zydq b_zydq_4 ⟨envOf 47 [(1, e1), (3, e3)], heapOf 7 [(0, h0)], 0⟩ e st2 := by
 unfold T1_zydq_4 at h
 split at h
 ·have := loop_tree (mk := mk_zydq_4 _ _ _ _ _ _ _) (ci_zydq_4 _ _ _ _ _ _ _) _ _ e st2 h
  rw [mke_zydq_4] at this
  exact this
 ·cases h
theorem lok_zydq_4 : LoopOk Try.prog cx_zydq b_zydq_4 T_zydq_4 := by
 intro st e st2 h
 unfold T_zydq_4 at h
 cases hk : okSt 47 7 0 [0] st with
 | false => rw [hk] at h; cases h
 | true =>
  rw [hk] at h
  exact circles_keep (ks := [1, 3]) hk (lo1_zydq_4 _ _ _ e st2 h)
structure S.zydq_T where
 x0 : Bool
 deriving Inhabited
def S.zydq_R (a0_0 : List (Ty .step)) : DT S.zydq_T :=
let y0 : S.zydq_4_V := { t3_ := 0 : S.zydq_4_V }
(.br (xdec ((↑a0_0.length : Int) > 8))
(.leaf ⟨false⟩)
(.br (S.zydq_4_j a0_0 y0 0)
(.leaf ⟨false⟩)
(.br (S.zydq_4_j a0_0 y0 1)
(.leaf ⟨true⟩)
.fail)))
def S.zydq (a0_0 : List (Ty .step)) : Option S.zydq_T := (S.zydq_R a0_0).run
def S.zydq_is (a0_0 : List (Ty .step)) : Bool := (S.zydq a0_0).isSome
def S.zydq_o (a0_0 : List (Ty .step)) : S.zydq_T := (S.zydq a0_0).getD default
def ret_zydq (b : Bool) (r : S.zydq_T) : Ret := ⟨b, none, [(false, [C.d (.sc (.bool r.x0))])]⟩
def g_zydq : Con
 | [(true, [.sl a0_0n a0_0f .step a0_0, .sc (.int .i64 a0_1), .sc (.int .i64 a0_2), .sc (.int .i64 a0_3), .sc (.int .i64 a0_4)])] => some (ret_zydq (S.zydq_is a0_0) (S.zydq_o a0_0))
 | _ => none
theorem raw_zydq (a0_0n : Option Bool) (a0_0f : Bool) (a0_0 : List (Ty .step)) (a0_1 : Int) (a0_2 : Int) (a0_3 : Int) (a0_4 : Int) : evR2 cx_zydq (hdI cx_zydq (find [(4, T_zydq_4)]) [] none 0) none Try.f50 50 none [(true, [.sl a0_0n a0_0f .step a0_0, .sc (.int .i64 a0_1), .sc (.int .i64 a0_2), .sc (.int .i64 a0_3), .sc (.int .i64 a0_4)])] some = (S.zydq_R a0_0).go (ret_zydq true) := by kernel_rfl
theorem bs_zydq : loopsIn Try.f50 [] = [b_zydq_4] := by kernel_rfl
theorem zydq_ok : Stands Try.prog tyTab 50 g_zydq := by
 refine stands3 (L := find [(4, T_zydq_4)]) (n := 0) (hints := [(50, 4, { keep := [1, 3], acc := [] })]) (cx_ok rfl) rdy_zydq ⟨by kernel_rfl, by kernel_rfl, by kernel_rfl⟩ bs_zydq (consB (fun T h => by have e : T_zydq_4 = T := Option.some.inj (show some T_zydq_4 = some T from h); exact e ▸ lok_zydq_4) nilB) (fun das r hG hr => ?_)
 unfold g_zydq at hG
 split at hG
 ·rename_i a0_0n a0_0f a0_0 a0_1 a0_2 a0_3 a0_4
  injection hG with hG; subst hG
  exact ⟨none, true, win default ((raw_zydq a0_0n a0_0f a0_0 a0_1 a0_2 a0_3 a0_4).trans (DT.go_run _ _)) hr⟩
 ·cases hG
abbrev cx_zo54 : Cx := mkCx2 tyTab [] [] [] []
theorem rdy_zo54 : Ready Try.prog tyTab [] [] [] := ⟨noneG2, noneI2, noneF2⟩
structure S.zo54_T where
 x0 : List (Ty .step)
 x1 : Int
 x2 : Int
 x3 : Int
 x4 : Int
 deriving Inhabited
def S.zo54_R  : DT S.zo54_T :=
let y0 : Nat := 0 + 1
let y1 : Step := { name := { data := { toList := [97] : Array UInt8 } : ByteArray }, ifs := [], min := 1, max := 1, guard := false, notName := ByteArray.empty, notIf := [] : Step }
(.br (xdec (y0 ≤ ((List.replicate 1 (dflt .step)).set 0 y1).length) && true && true && true)
(.leaf ⟨sub [y1] 0 y0, 0, 0, 0, 0⟩)
.fail)
def S.zo54  : Option S.zo54_T := (S.zo54_R ).run
def S.zo54_is  : Bool := (S.zo54 ).isSome
def S.zo54_o  : S.zo54_T := (S.zo54 ).getD default
def ret_zo54 (b : Bool) (r : S.zo54_T) : Ret := ⟨b, none, [(true,
    [C.d (.sl none false .step r.x0), C.d (.sc (.int .i64 r.x1)), C.d (.sc (.int .i64 r.x2)), C.d (.sc (.int .i64 r.x3)),
     C.d (.sc (.int .i64 r.x4))])]⟩
def g_zo54 : Con
 | [] => some (ret_zo54 (S.zo54_is ) (S.zo54_o ))
 | _ => none
theorem raw_zo54  : evR2 cx_zo54 (hdI cx_zo54 (find []) [] none 0) none Try.f80 80 none [] some = (S.zo54_R ).go (ret_zo54 true) := by kernel_rfl
theorem bs_zo54 : loopsIn Try.f80 [] = [] := by kernel_rfl
theorem zo54_ok : Stands Try.prog tyTab 80 g_zo54 := by
 refine stands3 (L := find []) (n := 0) (hints := []) (cx_ok rfl) rdy_zo54 ⟨by kernel_rfl, by kernel_rfl, by kernel_rfl⟩ bs_zo54 nilB (fun das r hG hr => ?_)
 unfold g_zo54 at hG
 split at hG
 ·injection hG with hG; subst hG
  exact ⟨none, true, win default ((raw_zo54 ).trans (DT.go_run _ _)) hr⟩
 ·cases hG
end
end Go.Eng
