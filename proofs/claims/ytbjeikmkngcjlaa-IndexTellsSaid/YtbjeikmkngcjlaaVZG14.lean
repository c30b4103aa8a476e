/- Contracts, laid by program. -/
import Derived.Test.YtbjeikmkngcjlaaVZG4
set_option linter.unusedVariables false
namespace Go.Eng
noncomputable section
open Go Go.Eng Go.Proofs Go.Eng.Tab
abbrev cx_allsame : Cx := mkCx2 tyTab [(85, g_zxqw)] [] [] []
theorem rdy_allsame : Ready Try.prog tyTab [(85, g_zxqw)] [] [] := ⟨consG2 zxqw_ok (noneG2), noneI2, noneF2⟩
structure S.allsame_T where
 x0 : Bool
 deriving Inhabited
def S.allsame_R (a0 : Int) (c0 : List (Ty .pred)) (d0 : ByteArray) (d1 : List (Ty .op)) : DT S.allsame_T :=
let y0 : Ty .pred := c0.getD a0.toNat (dflt .pred)
let y1 : ByteArray := y0.name
let y2 : List Opn := y0.ifs
(.br (xdec (0 ≤ a0) && xdec (a0 < (↑c0.length : Int)))
(.br (S.zxqw_is y1 y2 d0 d1)
(.leaf ⟨(S.zxqw_o y1 y2 d0 d1).x0⟩)
.fail)
.fail)
def S.allsame (a0 : Int) (c0 : List (Ty .pred)) (d0 : ByteArray) (d1 : List (Ty .op)) : Option S.allsame_T := (S.allsame_R a0 c0 d0 d1).run
def S.allsame_is (a0 : Int) (c0 : List (Ty .pred)) (d0 : ByteArray) (d1 : List (Ty .op)) : Bool := (S.allsame a0 c0 d0 d1).isSome
def S.allsame_o (a0 : Int) (c0 : List (Ty .pred)) (d0 : ByteArray) (d1 : List (Ty .op)) : S.allsame_T := (S.allsame a0 c0 d0 d1).getD default
def ret_allsame (b : Bool) (r : S.allsame_T) : Ret := ⟨b, none, [(false, [C.d (.sc (.bool r.x0))])]⟩
def g_allsame : Con
 | [(false, [.sc (.int .i64 a0)]), (false, [.ref [.sl c0n c0f .pred c0]]), (false, [.ref [.sc (.str d0), .sl d1n d1f .op d1]])] => some (ret_allsame (S.allsame_is a0 c0 d0 d1) (S.allsame_o a0 c0 d0 d1))
 | _ => none
theorem raw_allsame (a0 : Int) (c0n : Option Bool) (c0f : Bool) (c0 : List (Ty .pred)) (d0 : ByteArray) (d1n : Option Bool) (d1f : Bool) (d1 : List (Ty .op)) : evR2 cx_allsame (hdI cx_allsame (find []) [] none 0) none Try.f84 84 none [(false, [.sc (.int .i64 a0)]), (false, [.ref [.sl c0n c0f .pred c0]]), (false, [.ref [.sc (.str d0), .sl d1n d1f .op d1]])] some = (S.allsame_R a0 c0 d0 d1).go (ret_allsame true) := by kernel_rfl
theorem bs_allsame : loopsIn Try.f84 [] = [] := by kernel_rfl
theorem allsame_ok : Stands Try.prog tyTab 84 g_allsame := by
 refine stands3 (L := find []) (n := 0) (hints := []) (cx_ok rfl) rdy_allsame ⟨by kernel_rfl, by kernel_rfl, by kernel_rfl⟩ bs_allsame nilB (fun das r hG hr => ?_)
 unfold g_allsame at hG
 split at hG
 ·rename_i a0 c0n c0f c0 d0 d1n d1f d1
  injection hG with hG; subst hG
  exact ⟨none, true, win default ((raw_allsame a0 c0n c0f c0 d0 d1n d1f d1).trans (DT.go_run _ _)) hr⟩
 ·cases hG
abbrev cx_zyqp : Cx := mkCx2 tyTab [(84, g_allsame)] [] [(122, 2, { keep := [0, 1, 7, 8], acc := [] })] []
theorem rdy_zyqp : Ready Try.prog tyTab [(84, g_allsame)] [] [] := ⟨consG2 allsame_ok (noneG2), noneI2, noneF2⟩
structure S.zyqp_2_V where
 t8_ : Int
def S.zyqp_2_R (qA : List (Ty .int)) (t_1_0b_0_0 : List (Ty .pred)) (t_1_0b_1_0 : ByteArray) (t_1_0b_1_1 : List (Ty .op)) (qB : Int) (v : S.zyqp_2_V) : DT (Option Nat × S.zyqp_2_V) :=
let y0 : Ty .int := qA.getD v.t8_.toNat (dflt .int)
(.br (xdec (v.t8_ < qB))
(.br (xdec (0 ≤ v.t8_) && xdec (v.t8_ < (↑qA.length : Int)))
(.br (S.allsame_is y0 t_1_0b_0_0 t_1_0b_1_0 t_1_0b_1_1)
(.br ((S.allsame_o y0 t_1_0b_0_0 t_1_0b_1_0 t_1_0b_1_1).x0)
(.leaf (some 0, v))
(.leaf (none, ⟨xwrap .i64 (v.t8_ + 1)⟩)))
.fail)
.fail)
(.leaf (some 1, v)))
def S.zyqp_2_r (qA : List (Ty .int)) (t_1_0b_0_0 : List (Ty .pred)) (t_1_0b_1_0 : ByteArray) (t_1_0b_1_1 : List (Ty .op)) (qB : Int) (v : S.zyqp_2_V) : Option (Option Nat × S.zyqp_2_V) := (S.zyqp_2_R qA t_1_0b_0_0 t_1_0b_1_0 t_1_0b_1_1 qB v).run
def S.zyqp_2_j (qA : List (Ty .int)) (t_1_0b_0_0 : List (Ty .pred)) (t_1_0b_1_0 : ByteArray) (t_1_0b_1_1 : List (Ty .op)) (qB : Int) (v : S.zyqp_2_V) (j : Nat) : Bool := Lp_j (S.zyqp_2_r qA t_1_0b_0_0 t_1_0b_1_0 t_1_0b_1_1 qB) v j
def S.zyqp_2_v (qA : List (Ty .int)) (t_1_0b_0_0 : List (Ty .pred)) (t_1_0b_1_0 : ByteArray) (t_1_0b_1_1 : List (Ty .op)) (qB : Int) (v : S.zyqp_2_V) : S.zyqp_2_V := Lp_v (S.zyqp_2_r qA t_1_0b_0_0 t_1_0b_1_0 t_1_0b_1_1 qB) v
def mk_zyqp_2 (qC : Option Bool) (qD : Bool) (qA : List (Ty .int)) (t_1_0b_0_0n : Option Bool) (t_1_0b_0_0f : Bool) (t_1_0b_0_0 : List (Ty .pred)) (t_1_0b_1_0 : ByteArray) (t_1_0b_1_1n : Option Bool) (t_1_0b_1_1f : Bool) (t_1_0b_1_1 : List (Ty .op)) (qB : Int) (v : S.zyqp_2_V) : St := ⟨(V.v false [C.d (.sl qC qD .int qA)] :: (V.v false [C.d (D.fn 84 [] [[D.sl t_1_0b_0_0n t_1_0b_0_0f .pred t_1_0b_0_0], [D.sc (Sc.str t_1_0b_1_0), D.sl t_1_0b_1_1n t_1_0b_1_1f .op t_1_0b_1_1]])] :: (vs 5 ((cV qB) :: ((cV v.t8_) :: (vs 10 [])))))), (ns 4 []), 0⟩
def ex_zyqp_2 (qC : Option Bool) (qD : Bool) (qA : List (Ty .int)) (t_1_0b_0_0n : Option Bool) (t_1_0b_0_0f : Bool) (t_1_0b_0_0 : List (Ty .pred)) (t_1_0b_1_0 : ByteArray) (t_1_0b_1_1n : Option Bool) (t_1_0b_1_1f : Bool) (t_1_0b_1_1 : List (Ty .op)) (qB : Int) (j : Nat) (v : S.zyqp_2_V) : Ex × St := match j with
 | 0 => (Ex.ret, ⟨(vs 4 ((cV v.t8_) :: (vs 14 []))), (ns 15 []), 0⟩)
 | 1 => (Ex.exit 0, ⟨(vs 19 []), (ns 5 []), 0⟩)
 | _ => (.ret, ⟨[], [], 0⟩)
def T1_zyqp_2 : V → V → V → V → Tree
 | V.v false [C.d (.sl qC qD .int qA)], V.v false [C.d (D.fn 84 [] [[D.sl t_1_0b_0_0n t_1_0b_0_0f .pred t_1_0b_0_0], [D.sc (Sc.str t_1_0b_1_0), D.sl t_1_0b_1_1n t_1_0b_1_1f .op t_1_0b_1_1]])], V.v false [C.d (.sc (.int .i64 qB))], V.v false [C.d (.sc (.int .i64 t8_))] => exT (fun j => ex_zyqp_2 qC qD qA t_1_0b_0_0n t_1_0b_0_0f t_1_0b_0_0 t_1_0b_1_0 t_1_0b_1_1n t_1_0b_1_1f t_1_0b_1_1 qB j (S.zyqp_2_v qA t_1_0b_0_0 t_1_0b_1_0 t_1_0b_1_1 qB ⟨t8_⟩)) (S.zyqp_2_j qA t_1_0b_0_0 t_1_0b_1_0 t_1_0b_1_1 qB ⟨t8_⟩) [0, 1]
 | _, _, _, _ => .bad
def T_zyqp_2 (st : St) : Tree := bif okSt 19 4 0 [] st then T1_zyqp_2 (st.env.getD 0 .any) (st.env.getD 1 .any) (st.env.getD 7 .any) (st.env.getD 8 .any) else .bad
def b_zyqp_2 : Code := loopBy Try.f122 2
theorem rnd_zyqp_2 (qC : Option Bool) (qD : Bool) (qA : List (Ty .int)) (t_1_0b_0_0n : Option Bool) (t_1_0b_0_0f : Bool) (t_1_0b_0_0 : List (Ty .pred)) (t_1_0b_1_0 : ByteArray) (t_1_0b_1_1n : Option Bool) (t_1_0b_1_1f : Bool) (t_1_0b_1_1 : List (Ty .op)) (qB : Int) (v : S.zyqp_2_V) : round2 cx_zyqp (hdI cx_zyqp (find []) [] none 0) 122 b_zyqp_2 [] 4 [4] (mk_zyqp_2 qC qD qA t_1_0b_0_0n t_1_0b_0_0f t_1_0b_0_0 t_1_0b_1_0 t_1_0b_1_1n t_1_0b_1_1f t_1_0b_1_1 qB v) = (S.zyqp_2_R qA t_1_0b_0_0 t_1_0b_1_0 t_1_0b_1_1 qB v).go (roundOut (mk_zyqp_2 qC qD qA t_1_0b_0_0n t_1_0b_0_0f t_1_0b_0_0 t_1_0b_1_0 t_1_0b_1_1n t_1_0b_1_1f t_1_0b_1_1 qB) (ex_zyqp_2 qC qD qA t_1_0b_0_0n t_1_0b_0_0f t_1_0b_0_0 t_1_0b_1_0 t_1_0b_1_1n t_1_0b_1_1f t_1_0b_1_1 qB)) := by kernel_rfl
theorem bs_zyqp_2 : loopsOf b_zyqp_2 ++ loopsInl [] = [] := by kernel_rfl
theorem ci_zyqp_2 (qC : Option Bool) (qD : Bool) (qA : List (Ty .int)) (t_1_0b_0_0n : Option Bool) (t_1_0b_0_0f : Bool) (t_1_0b_0_0 : List (Ty .pred)) (t_1_0b_1_0 : ByteArray) (t_1_0b_1_1n : Option Bool) (t_1_0b_1_1f : Bool) (t_1_0b_1_1 : List (Ty .op)) (qB : Int) : ∀ v j v2, Lp (S.zyqp_2_r qA t_1_0b_0_0 t_1_0b_1_0 t_1_0b_1_1 qB) v = some (j, v2) → Circles Try.prog cx_zyqp b_zyqp_2 (mk_zyqp_2 qC qD qA t_1_0b_0_0n t_1_0b_0_0f t_1_0b_0_0 t_1_0b_1_0 t_1_0b_1_1n t_1_0b_1_1f t_1_0b_1_1 qB v) (ex_zyqp_2 qC qD qA t_1_0b_0_0n t_1_0b_0_0f t_1_0b_0_0 t_1_0b_1_0 t_1_0b_1_1n t_1_0b_1_1f t_1_0b_1_1 qB j v2).1 (ex_zyqp_2 qC qD qA t_1_0b_0_0n t_1_0b_0_0f t_1_0b_0_0 t_1_0b_1_0 t_1_0b_1_1n t_1_0b_1_1f t_1_0b_1_1 qB j v2).2 :=
 loop_ok2 (L := find []) (n := 0) (hints := [(122, 2, { keep := [0, 1, 7, 8], acc := [] })]) (cx_ok rfl) rdy_zyqp bs_zyqp_2 nilB (fun v => (rnd_zyqp_2 qC qD qA t_1_0b_0_0n t_1_0b_0_0f t_1_0b_0_0 t_1_0b_1_0 t_1_0b_1_1n t_1_0b_1_1f t_1_0b_1_1 qB v).trans (DT.go_run _ _)) (by intro j v; unfold ex_zyqp_2; split <;> rfl)
theorem mke_zyqp_2 (qC : Option Bool) (qD : Bool) (qA : List (Ty .int)) (t_1_0b_0_0n : Option Bool) (t_1_0b_0_0f : Bool) (t_1_0b_0_0 : List (Ty .pred)) (t_1_0b_1_0 : ByteArray) (t_1_0b_1_1n : Option Bool) (t_1_0b_1_1f : Bool) (t_1_0b_1_1 : List (Ty .op)) (qB : Int) (v : S.zyqp_2_V) : mk_zyqp_2 qC qD qA t_1_0b_0_0n t_1_0b_0_0f t_1_0b_0_0 t_1_0b_1_0 t_1_0b_1_1n t_1_0b_1_1f t_1_0b_1_1 qB v = ⟨envOf 19 [(0, V.v false [C.d (.sl qC qD .int qA)]), (1, V.v false [C.d (D.fn 84 [] [[D.sl t_1_0b_0_0n t_1_0b_0_0f .pred t_1_0b_0_0], [D.sc (Sc.str t_1_0b_1_0), D.sl t_1_0b_1_1n t_1_0b_1_1f .op t_1_0b_1_1]])]), (7, (cV qB)), (8, (cV v.t8_))], heapOf 4 [], 0⟩ := by kernel_rfl
theorem lo1_zyqp_2 (e0 : V) (e1 : V) (e7 : V) (e8 : V)  e st2 (h : (T1_zyqp_2 e0 e1 e7 e8).eval = some (e, st2)) : Circles Try.prog cx_zyqp b_zyqp_2 ⟨envOf 19 [(0, e0), (1, e1), (7, e7), (8, e8)], heapOf 4 [], 0⟩ e st2 := by
 unfold T1_zyqp_2 at h
 split at h
 ·have := loop_tree (mk := mk_zyqp_2 _ _ _ _ _ _ _ _ _ _ _) (ci_zyqp_2 _ _ _ _ _ _ _ _ _ _ _) _ _ e st2 h
  rw [mke_zyqp_2] at this
  exact this
 ·cases h
theorem lok_zyqp_2 : LoopOk Try.prog cx_zyqp b_zyqp_2 T_zyqp_2 := by
 intro st e st2 h
 unfold T_zyqp_2 at h
 cases hk : okSt 19 4 0 [] st with
 | false => rw [hk] at h; cases h
 | true =>
  rw [hk] at h
  exact circles_keep (ks := [0, 1, 7, 8]) hk (lo1_zyqp_2 _ _ _ _ e st2 h)
structure S.zyqp_T where
 x0 : Int
 deriving Inhabited
def S.zyqp_R (a0 : List (Ty .int)) (c0 : List (Ty .pred)) (d0 : ByteArray) (d1 : List (Ty .op)) : DT S.zyqp_T :=
let y0 : Int := (↑a0.length : Int)
let y1 : S.zyqp_2_V := { t8_ := 0 : S.zyqp_2_V }
(.br (S.zyqp_2_j a0 c0 d0 d1 y0 y1 0)
(.leaf ⟨(S.zyqp_2_v a0 c0 d0 d1 y0 y1).t8_⟩)
(.br (S.zyqp_2_j a0 c0 d0 d1 y0 y1 1)
(.leaf ⟨-1⟩)
.fail))
def S.zyqp (a0 : List (Ty .int)) (c0 : List (Ty .pred)) (d0 : ByteArray) (d1 : List (Ty .op)) : Option S.zyqp_T := (S.zyqp_R a0 c0 d0 d1).run
def S.zyqp_is (a0 : List (Ty .int)) (c0 : List (Ty .pred)) (d0 : ByteArray) (d1 : List (Ty .op)) : Bool := (S.zyqp a0 c0 d0 d1).isSome
def S.zyqp_o (a0 : List (Ty .int)) (c0 : List (Ty .pred)) (d0 : ByteArray) (d1 : List (Ty .op)) : S.zyqp_T := (S.zyqp a0 c0 d0 d1).getD default
def ret_zyqp (b : Bool) (r : S.zyqp_T) : Ret := ⟨b, none, [(false, [C.d (.sc (.int .i64 r.x0))])]⟩
def g_zyqp : Con
 | [(false, [.sl a0n a0f .int a0]), (false, [.fn 84 [] [[.sl c0n c0f .pred c0], [.sc (.str d0), .sl d1n d1f .op d1]]])] => some (ret_zyqp (S.zyqp_is a0 c0 d0 d1) (S.zyqp_o a0 c0 d0 d1))
 | _ => none
theorem raw_zyqp (a0n : Option Bool) (a0f : Bool) (a0 : List (Ty .int)) (c0n : Option Bool) (c0f : Bool) (c0 : List (Ty .pred)) (d0 : ByteArray) (d1n : Option Bool) (d1f : Bool) (d1 : List (Ty .op)) : evR2 cx_zyqp (hdI cx_zyqp (find [(2, T_zyqp_2)]) [] none 0) none Try.f122 122 none [(false, [.sl a0n a0f .int a0]), (false, [.fn 84 [] [[.sl c0n c0f .pred c0], [.sc (.str d0), .sl d1n d1f .op d1]]])] some = (S.zyqp_R a0 c0 d0 d1).go (ret_zyqp true) := by kernel_rfl
theorem bs_zyqp : loopsIn Try.f122 [] = [b_zyqp_2] := by kernel_rfl
theorem zyqp_ok : Stands Try.prog tyTab 122 g_zyqp := by
 refine stands3 (L := find [(2, T_zyqp_2)]) (n := 0) (hints := [(122, 2, { keep := [0, 1, 7, 8], acc := [] })]) (cx_ok rfl) rdy_zyqp ⟨by kernel_rfl, by kernel_rfl, by kernel_rfl⟩ bs_zyqp (consB (fun T h => by have e : T_zyqp_2 = T := Option.some.inj (show some T_zyqp_2 = some T from h); exact e ▸ lok_zyqp_2) nilB) (fun das r hG hr => ?_)
 unfold g_zyqp at hG
 split at hG
 ·rename_i a0n a0f a0 c0n c0f c0 d0 d1n d1f d1
  injection hG with hG; subst hG
  exact ⟨none, true, win default ((raw_zyqp a0n a0f a0 c0n c0f c0 d0 d1n d1f d1).trans (DT.go_run _ _)) hr⟩
 ·cases hG
abbrev cx_znwv : Cx := mkCx2 tyTab [(84, g_allsame), (122, g_zyqp)] [] [] []
theorem rdy_znwv : Ready Try.prog tyTab [(84, g_allsame), (122, g_zyqp)] [] [] := ⟨consG2 allsame_ok (consG2 zyqp_ok (noneG2)), noneI2, noneF2⟩
structure S.znwv_T where
 x0 : Bool
 deriving Inhabited
def S.znwv_R (a0 : List (Ty .int)) (c0 : List (Ty .pred)) (d0 : ByteArray) (d1 : List (Ty .op)) : DT S.znwv_T :=
(.br (S.zyqp_is a0 c0 d0 d1)
(.leaf ⟨xdec ((S.zyqp_o a0 c0 d0 d1).x0 ≥ 0)⟩)
.fail)
def S.znwv (a0 : List (Ty .int)) (c0 : List (Ty .pred)) (d0 : ByteArray) (d1 : List (Ty .op)) : Option S.znwv_T := (S.znwv_R a0 c0 d0 d1).run
def S.znwv_is (a0 : List (Ty .int)) (c0 : List (Ty .pred)) (d0 : ByteArray) (d1 : List (Ty .op)) : Bool := (S.znwv a0 c0 d0 d1).isSome
def S.znwv_o (a0 : List (Ty .int)) (c0 : List (Ty .pred)) (d0 : ByteArray) (d1 : List (Ty .op)) : S.znwv_T := (S.znwv a0 c0 d0 d1).getD default
def ret_znwv (b : Bool) (r : S.znwv_T) : Ret := ⟨b, none, [(false, [C.d (.sc (.bool r.x0))])]⟩
def g_znwv : Con
 | [(false, [.sl a0n a0f .int a0]), (false, [.fn 84 [] [[.sl c0n c0f .pred c0], [.sc (.str d0), .sl d1n d1f .op d1]]])] => some (ret_znwv (S.znwv_is a0 c0 d0 d1) (S.znwv_o a0 c0 d0 d1))
 | _ => none
theorem raw_znwv (a0n : Option Bool) (a0f : Bool) (a0 : List (Ty .int)) (c0n : Option Bool) (c0f : Bool) (c0 : List (Ty .pred)) (d0 : ByteArray) (d1n : Option Bool) (d1f : Bool) (d1 : List (Ty .op)) : evR2 cx_znwv (hdI cx_znwv (find []) [] none 0) none Try.f83 83 none [(false, [.sl a0n a0f .int a0]), (false, [.fn 84 [] [[.sl c0n c0f .pred c0], [.sc (.str d0), .sl d1n d1f .op d1]]])] some = (S.znwv_R a0 c0 d0 d1).go (ret_znwv true) := by kernel_rfl
theorem bs_znwv : loopsIn Try.f83 [] = [] := by kernel_rfl
theorem znwv_ok : Stands Try.prog tyTab 83 g_znwv := by
 refine stands3 (L := find []) (n := 0) (hints := []) (cx_ok rfl) rdy_znwv ⟨by kernel_rfl, by kernel_rfl, by kernel_rfl⟩ bs_znwv nilB (fun das r hG hr => ?_)
 unfold g_znwv at hG
 split at hG
 ·rename_i a0n a0f a0 c0n c0f c0 d0 d1n d1f d1
  injection hG with hG; subst hG
  exact ⟨none, true, win default ((raw_znwv a0n a0f a0 c0n c0f c0 d0 d1n d1f d1).trans (DT.go_run _ _)) hr⟩
 ·cases hG
abbrev cx_zzud : Cx := mkCx2 tyTab [] [] [] []
theorem rdy_zzud : Ready Try.prog tyTab [] [] [] := ⟨noneG2, noneI2, noneF2⟩
structure S.zzud_T where
 x0 : List (Ty .op)
 x1 : Nat
 deriving Inhabited
def S.zzud_R  : DT S.zzud_T :=
(.leaf ⟨[], 0⟩)
def S.zzud  : Option S.zzud_T := (S.zzud_R ).run
def S.zzud_is  : Bool := (S.zzud ).isSome
def S.zzud_o  : S.zzud_T := (S.zzud ).getD default
def ret_zzud (b : Bool) (r : S.zzud_T) : Ret := ⟨b, some (115, (⟨.op, r.x0⟩ : (t : ET) × List (Ty t))), [(false, [C.own 4 .op false 0 r.x1])]⟩
def g_zzud : Con
 | [(false, [.sl (some true) true .op []])] => some (ret_zzud (S.zzud_is ) (S.zzud_o ))
 | _ => none
theorem raw_zzud  : evR2 cx_zzud (hdI cx_zzud (find []) [] none 0) none Try.f121 121 (some 115) [(false, [.sl (some true) true .op []])] some = (S.zzud_R ).go (ret_zzud true) := by kernel_rfl
theorem bs_zzud : loopsIn Try.f121 [] = [] := by kernel_rfl
theorem zzud_ok : Stands Try.prog tyTab 121 g_zzud := by
 refine stands3 (L := find []) (n := 0) (hints := []) (cx_ok rfl) rdy_zzud ⟨by kernel_rfl, by kernel_rfl, by kernel_rfl⟩ bs_zzud nilB (fun das r hG hr => ?_)
 unfold g_zzud at hG
 split at hG
 ·injection hG with hG; subst hG
  exact ⟨(some 115), true, win default ((raw_zzud ).trans (DT.go_run _ _)) hr⟩
 ·cases hG
abbrev cx_zmq7 : Cx := mkCx2 tyTab [] [] [] []
theorem rdy_zmq7 : Ready Try.prog tyTab [] [] [] := ⟨noneG2, noneI2, noneF2⟩
structure S.zmq7_T where
 x0 : List (Ty .op)
 x1 : Nat
 deriving Inhabited
def S.zmq7_R (a0 : List (Ty .op)) : DT S.zmq7_T :=
let y0 : Nat := 0 + a0.length
(.br (xdec (0 ≤ (List.replicate 0 (dflt .op)).length) && xdec (y0 ≤ 1048576))
(.leaf ⟨List.take 0 [] ++ a0, y0⟩)
.fail)
def S.zmq7 (a0 : List (Ty .op)) : Option S.zmq7_T := (S.zmq7_R a0).run
def S.zmq7_is (a0 : List (Ty .op)) : Bool := (S.zmq7 a0).isSome
def S.zmq7_o (a0 : List (Ty .op)) : S.zmq7_T := (S.zmq7 a0).getD default
def ret_zmq7 (b : Bool) (r : S.zmq7_T) : Ret := ⟨b, some (115, (⟨.op, r.x0⟩ : (t : ET) × List (Ty t))), [(false, [C.own 5 .op false 0 r.x1])]⟩
def g_zmq7 : Con
 | [(false, [.sl (some false) false .op a0])] => some (ret_zmq7 (S.zmq7_is a0) (S.zmq7_o a0))
 | _ => none
theorem raw_zmq7 (a0 : List (Ty .op)) : evR2 cx_zmq7 (hdI cx_zmq7 (find []) [] none 0) none Try.f121 121 (some 115) [(false, [.sl (some false) false .op a0])] some = (S.zmq7_R a0).go (ret_zmq7 true) := by kernel_rfl
theorem bs_zmq7 : loopsIn Try.f121 [] = [] := by kernel_rfl
theorem zmq7_ok : Stands Try.prog tyTab 121 g_zmq7 := by
 refine stands3 (L := find []) (n := 0) (hints := []) (cx_ok rfl) rdy_zmq7 ⟨by kernel_rfl, by kernel_rfl, by kernel_rfl⟩ bs_zmq7 nilB (fun das r hG hr => ?_)
 unfold g_zmq7 at hG
 split at hG
 ·rename_i a0
  injection hG with hG; subst hG
  exact ⟨(some 115), true, win default ((raw_zmq7 a0).trans (DT.go_run _ _)) hr⟩
 ·cases hG
def g_zdr2 : Con := fun das => match das with | [(false, [.sl _ _ t2 l])] => if e : t2 = .op then some (ret_zmq7 (S.zmq7_is (e ▸ l)) (S.zmq7_o (e ▸ l))) else none | _ => none
theorem zdr2_ok : Stands Try.prog tyTab 121 g_zdr2 := nil_split (t := .op) (r := fun l => ret_zmq7 (S.zmq7_is l) (S.zmq7_o l)) zzud_ok zmq7_ok (r0 := ret_zzud true (S.zzud_o)) (by kernel_rfl) ⟨by kernel_rfl, by kernel_rfl, fun nm => by kernel_rfl⟩ (fun l => rfl)
abbrev cx_r8same : Cx := mkCx2 tyTab [] [] [(81, 4, { keep := [0, 1, 5], acc := [] })] []
theorem rdy_r8same : Ready Try.prog tyTab [] [] [] := ⟨noneG2, noneI2, noneF2⟩
structure S.r8same_4_V where
 t5_ : Int
def S.r8same_4_R (qA : List (Ty .op)) (qE : List (Ty .op)) (v : S.r8same_4_V) : DT (Option Nat × S.r8same_4_V) :=
let y0 : Bool := xdec (v.t5_ < (↑qA.length : Int))
let y1 : Bool := xdec (0 ≤ v.t5_)
let y2 : Ty .op := qA.getD v.t5_.toNat (dflt .op)
let y3 : Ty .op := qE.getD v.t5_.toNat (dflt .op)
let y4 : Val := y2.v
let y5 : Val := y3.v
(.br (y0)
(.br (y1 && y0)
(.br (y1 && xdec (v.t5_ < (↑qE.length : Int)))
(.br (bif xeqI y2.code y3.code && (xeqI y2.arg y3.arg && (xeqI y4.kind y5.kind && (xeqI y4.n y5.n && xdec (y4.s = y5.s)))) then false else true)
(.leaf (some 0, v))
(.leaf (none, ⟨xwrap .i64 (v.t5_ + 1)⟩)))
.fail)
.fail)
(.leaf (some 1, v)))
def S.r8same_4_r (qA : List (Ty .op)) (qE : List (Ty .op)) (v : S.r8same_4_V) : Option (Option Nat × S.r8same_4_V) := (S.r8same_4_R qA qE v).run
def S.r8same_4_j (qA : List (Ty .op)) (qE : List (Ty .op)) (v : S.r8same_4_V) (j : Nat) : Bool := Lp_j (S.r8same_4_r qA qE) v j
def S.r8same_4_v (qA : List (Ty .op)) (qE : List (Ty .op)) (v : S.r8same_4_V) : S.r8same_4_V := Lp_v (S.r8same_4_r qA qE) v
def mk_r8same_4 (qC : Option Bool) (qD : Bool) (qA : List (Ty .op)) (qF : Option Bool) (qG : Bool) (qE : List (Ty .op)) (v : S.r8same_4_V) : St := ⟨(V.v false [C.d (.sl qC qD .op qA)] :: (V.v false [C.d (.sl qF qG .op qE)] :: (vs 3 ((cV v.t5_) :: (vs 20 []))))), (ns 7 []), 0⟩
def ex_r8same_4 (qC : Option Bool) (qD : Bool) (qA : List (Ty .op)) (qF : Option Bool) (qG : Bool) (qE : List (Ty .op)) (j : Nat) (v : S.r8same_4_V) : Ex × St := match j with
 | 0 => (Ex.ret, ⟨(vs 4 (V.v false [C.d (.sc (.bool false))] :: (vs 21 []))), (ns 21 []), 0⟩)
 | 1 => (Ex.exit 0, ⟨(vs 26 []), (ns 11 []), 0⟩)
 | _ => (.ret, ⟨[], [], 0⟩)
def T1_r8same_4 : V → V → V → Tree
 | V.v false [C.d (.sl qC qD .op qA)], V.v false [C.d (.sl qF qG .op qE)], V.v false [C.d (.sc (.int .i64 t5_))] => exT (fun j => ex_r8same_4 qC qD qA qF qG qE j (S.r8same_4_v qA qE ⟨t5_⟩)) (S.r8same_4_j qA qE ⟨t5_⟩) [0, 1]
 | _, _, _ => .bad
def T_r8same_4 (st : St) : Tree := bif okSt 26 7 0 [] st then T1_r8same_4 (st.env.getD 0 .any) (st.env.getD 1 .any) (st.env.getD 5 .any) else .bad
def b_r8same_4 : Code := loopBy Try.f81 4
theorem rnd_r8same_4 (qC : Option Bool) (qD : Bool) (qA : List (Ty .op)) (qF : Option Bool) (qG : Bool) (qE : List (Ty .op)) (v : S.r8same_4_V) : round2 cx_r8same (hdI cx_r8same (find []) [] none 0) 81 b_r8same_4 [] 7 [4] (mk_r8same_4 qC qD qA qF qG qE v) = (S.r8same_4_R qA qE v).go (roundOut (mk_r8same_4 qC qD qA qF qG qE) (ex_r8same_4 qC qD qA qF qG qE)) := by kernel_rfl
theorem bs_r8same_4 : loopsOf b_r8same_4 ++ loopsInl [] = [] := by kernel_rfl
theorem ci_r8same_4 (qC : Option Bool) (qD : Bool) (qA : List (Ty .op)) (qF : Option Bool) (qG : Bool) (qE : List (Ty .op)) : ∀ v j v2, Lp (S.r8same_4_r qA qE) v = some (j, v2) → Circles Try.prog cx_r8same b_r8same_4 (mk_r8same_4 qC qD qA qF qG qE v) (ex_r8same_4 qC qD qA qF qG qE j v2).1 (ex_r8same_4 qC qD qA qF qG qE j v2).2 :=
 loop_ok2 (L := find []) (n := 0) (hints := [(81, 4, { keep := [0, 1, 5], acc := [] })]) (cx_ok rfl) rdy_r8same bs_r8same_4 nilB (fun v => (rnd_r8same_4 qC qD qA qF qG qE v).trans (DT.go_run _ _)) (by intro j v; unfold ex_r8same_4; split <;> rfl)
theorem mke_r8same_4 (qC : Option Bool) (qD : Bool) (qA : List (Ty .op)) (qF : Option Bool) (qG : Bool) (qE : List (Ty .op)) (v : S.r8same_4_V) : mk_r8same_4 qC qD qA qF qG qE v = ⟨envOf 26 [(0, V.v false [C.d (.sl qC qD .op qA)]), (1, V.v false [C.d (.sl qF qG .op qE)]), (5, (cV v.t5_))], heapOf 7 [], 0⟩ := by kernel_rfl
theorem lo1_r8same_4 (e0 : V) (e1 : V) (e5 : V)  e st2 (h : (T1_r8same_4 e0 e1 e5).eval = some (e, st2)) : Circles Try.prog cx_r8same b_r8same_4 ⟨envOf 26 [(0, e0), (1, e1), (5, e5)], heapOf 7 [], 0⟩ e st2 := by
 unfold T1_r8same_4 at h
 split at h
 ·have := loop_tree (mk := mk_r8same_4 _ _ _ _ _ _) (ci_r8same_4 _ _ _ _ _ _) _ _ e st2 h
  rw [mke_r8same_4] at this
  exact this
 ·cases h
theorem lok_r8same_4 : LoopOk Try.prog cx_r8same b_r8same_4 T_r8same_4 := by
 intro st e st2 h
 unfold T_r8same_4 at h
 cases hk : okSt 26 7 0 [] st with
 | false => rw [hk] at h; cases h
 | true =>
  rw [hk] at h
  exact circles_keep (ks := [0, 1, 5]) hk (lo1_r8same_4 _ _ _ e st2 h)
structure S.r8same_T where
 x0 : Bool
 deriving Inhabited
def S.r8same_R (a0 : List (Ty .op)) (a1 : List (Ty .op)) : DT S.r8same_T :=
let y0 : S.r8same_4_V := { t5_ := 0 : S.r8same_4_V }
(.br (xneI (↑a0.length : Int) (↑a1.length : Int))
(.leaf ⟨false⟩)
(.br (S.r8same_4_j a0 a1 y0 0)
(.leaf ⟨false⟩)
(.br (S.r8same_4_j a0 a1 y0 1)
(.leaf ⟨true⟩)
.fail)))
def S.r8same (a0 : List (Ty .op)) (a1 : List (Ty .op)) : Option S.r8same_T := (S.r8same_R a0 a1).run
def S.r8same_is (a0 : List (Ty .op)) (a1 : List (Ty .op)) : Bool := (S.r8same a0 a1).isSome
def S.r8same_o (a0 : List (Ty .op)) (a1 : List (Ty .op)) : S.r8same_T := (S.r8same a0 a1).getD default
def ret_r8same (b : Bool) (r : S.r8same_T) : Ret := ⟨b, none, [(false, [C.d (.sc (.bool r.x0))])]⟩
def g_r8same : Con
 | [(false, [.sl a0n a0f .op a0]), (false, [.sl a1n a1f .op a1])] => some (ret_r8same (S.r8same_is a0 a1) (S.r8same_o a0 a1))
 | _ => none
theorem raw_r8same (a0n : Option Bool) (a0f : Bool) (a0 : List (Ty .op)) (a1n : Option Bool) (a1f : Bool) (a1 : List (Ty .op)) : evR2 cx_r8same (hdI cx_r8same (find [(4, T_r8same_4)]) [] none 0) none Try.f81 81 none [(false, [.sl a0n a0f .op a0]), (false, [.sl a1n a1f .op a1])] some = (S.r8same_R a0 a1).go (ret_r8same true) := by kernel_rfl
theorem bs_r8same : loopsIn Try.f81 [] = [b_r8same_4] := by kernel_rfl
theorem r8same_ok : Stands Try.prog tyTab 81 g_r8same := by
 refine stands3 (L := find [(4, T_r8same_4)]) (n := 0) (hints := [(81, 4, { keep := [0, 1, 5], acc := [] })]) (cx_ok rfl) rdy_r8same ⟨by kernel_rfl, by kernel_rfl, by kernel_rfl⟩ bs_r8same (consB (fun T h => by have e : T_r8same_4 = T := Option.some.inj (show some T_r8same_4 = some T from h); exact e ▸ lok_r8same_4) nilB) (fun das r hG hr => ?_)
 unfold g_r8same at hG
 split at hG
 ·rename_i a0n a0f a0 a1n a1f a1
  injection hG with hG; subst hG
  exact ⟨none, true, win default ((raw_r8same a0n a0f a0 a1n a1f a1).trans (DT.go_run _ _)) hr⟩
 ·cases hG
abbrev cx_zzvx : Cx := mkCx2 tyTab [(50, g_zydq)] [] [(34, 4, { keep := [0, 3], acc := [] })] []
theorem rdy_zzvx : Ready Try.prog tyTab [(50, g_zydq)] [] [] := ⟨consG2 zydq_ok (noneG2), noneI2, noneF2⟩
structure S.zzvx_4_V where
 t3_ : Int
def S.zzvx_4_R (qA : List (Ty .query)) (v : S.zzvx_4_V) : DT (Option Nat × S.zzvx_4_V) :=
let y0 : Bool := xdec (v.t3_ < (↑qA.length : Int))
let y1 : List Step := (qA.getD v.t3_.toNat (dflt .query)).steps
(.br (y0)
(.br (xdec (0 ≤ v.t3_) && y0)
(.br (S.zydq_is y1)
(.br (xnot (S.zydq_o y1).x0)
(.leaf (some 0, v))
(.leaf (none, ⟨xwrap .i64 (v.t3_ + 1)⟩)))
.fail)
.fail)
(.leaf (some 1, v)))
def S.zzvx_4_r (qA : List (Ty .query)) (v : S.zzvx_4_V) : Option (Option Nat × S.zzvx_4_V) := (S.zzvx_4_R qA v).run
def S.zzvx_4_j (qA : List (Ty .query)) (v : S.zzvx_4_V) (j : Nat) : Bool := Lp_j (S.zzvx_4_r qA) v j
def S.zzvx_4_v (qA : List (Ty .query)) (v : S.zzvx_4_V) : S.zzvx_4_V := Lp_v (S.zzvx_4_r qA) v
def mk_zzvx_4 (qC : Option Bool) (qD : Bool) (qA : List (Ty .query)) (v : S.zzvx_4_V) : St := ⟨(V.v false [C.d (.sl qC qD .query qA)] :: (V.any :: (V.any :: ((cV v.t3_) :: (vs 17 []))))), (ns 5 []), 0⟩
def ex_zzvx_4 (qC : Option Bool) (qD : Bool) (qA : List (Ty .query)) (j : Nat) (v : S.zzvx_4_V) : Ex × St := match j with
 | 0 => (Ex.ret, ⟨(V.any :: (V.any :: (V.v false [C.d (.sc (.bool false))] :: (vs 18 [])))), (ns 18 []), 0⟩)
 | 1 => (Ex.exit 0, ⟨(vs 21 []), (ns 9 []), 0⟩)
 | _ => (.ret, ⟨[], [], 0⟩)
def T1_zzvx_4 : V → V → Tree
 | V.v false [C.d (.sl qC qD .query qA)], V.v false [C.d (.sc (.int .i64 t3_))] => exT (fun j => ex_zzvx_4 qC qD qA j (S.zzvx_4_v qA ⟨t3_⟩)) (S.zzvx_4_j qA ⟨t3_⟩) [0, 1]
 | _, _ => .bad
def T_zzvx_4 (st : St) : Tree := bif okSt 21 5 0 [] st then T1_zzvx_4 (st.env.getD 0 .any) (st.env.getD 3 .any) else .bad
def b_zzvx_4 : Code := loopBy Try.f34 4
theorem rnd_zzvx_4 (qC : Option Bool) (qD : Bool) (qA : List (Ty .query)) (v : S.zzvx_4_V) : round2 cx_zzvx (hdI cx_zzvx (find []) [] none 0) 34 b_zzvx_4 [] 5 [2] (mk_zzvx_4 qC qD qA v) = (S.zzvx_4_R qA v).go (roundOut (mk_zzvx_4 qC qD qA) (ex_zzvx_4 qC qD qA)) := by kernel_rfl
theorem bs_zzvx_4 : loopsOf b_zzvx_4 ++ loopsInl [] = [] := by kernel_rfl
theorem ci_zzvx_4 (qC : Option Bool) (qD : Bool) (qA : List (Ty .query)) : ∀ v j v2, Lp (S.zzvx_4_r qA) v = some (j, v2) → Circles Try.prog cx_zzvx b_zzvx_4 (mk_zzvx_4 qC qD qA v) (ex_zzvx_4 qC qD qA j v2).1 (ex_zzvx_4 qC qD qA j v2).2 :=
 loop_ok2 (L := find []) (n := 0) (hints := [(34, 4, { keep := [0, 3], acc := [] })]) (cx_ok rfl) rdy_zzvx bs_zzvx_4 nilB (fun v => (rnd_zzvx_4 qC qD qA v).trans (DT.go_run _ _)) (by intro j v; unfold ex_zzvx_4; split <;> rfl)
theorem mke_zzvx_4 (qC : Option Bool) (qD : Bool) (qA : List (Ty .query)) (v : S.zzvx_4_V) : mk_zzvx_4 qC qD qA v = ⟨envOf 21 [(0, V.v false [C.d (.sl qC qD .query qA)]), (3, (cV v.t3_))], heapOf 5 [], 0⟩ := by kernel_rfl
theorem lo1_zzvx_4 (e0 : V) (e3 : V)  e st2 (h : (T1_zzvx_4 e0 e3).eval = some (e, st2)) : Circles Try.prog cx_zzvx b_zzvx_4 ⟨envOf 21 [(0, e0), (3, e3)], heapOf 5 [], 0⟩ e st2 := by
 unfold T1_zzvx_4 at h
 split at h
 ·have := loop_tree (mk := mk_zzvx_4 _ _ _) (ci_zzvx_4 _ _ _) _ _ e st2 h
  rw [mke_zzvx_4] at this
  exact this
 ·cases h
theorem lok_zzvx_4 : LoopOk Try.prog cx_zzvx b_zzvx_4 T_zzvx_4 := by
 intro st e st2 h
 unfold T_zzvx_4 at h
 cases hk : okSt 21 5 0 [] st with
 | false => rw [hk] at h; cases h
 | true =>
  rw [hk] at h
  exact circles_keep (ks := [0, 3]) hk (lo1_zzvx_4 _ _ e st2 h)
structure S.zzvx_T where
 x0 : Bool
 deriving Inhabited
def S.zzvx_R (a0 : List (Ty .query)) : DT S.zzvx_T :=
let y0 : S.zzvx_4_V := { t3_ := 0 : S.zzvx_4_V }
(.br (xdec ((↑a0.length : Int) > 6))
(.leaf ⟨false⟩)
(.br (S.zzvx_4_j a0 y0 0)
(.leaf ⟨false⟩)
(.br (S.zzvx_4_j a0 y0 1)
(.leaf ⟨true⟩)
.fail)))
def S.zzvx (a0 : List (Ty .query)) : Option S.zzvx_T := (S.zzvx_R a0).run
def S.zzvx_is (a0 : List (Ty .query)) : Bool := (S.zzvx a0).isSome
def S.zzvx_o (a0 : List (Ty .query)) : S.zzvx_T := (S.zzvx a0).getD default
def ret_zzvx (b : Bool) (r : S.zzvx_T) : Ret := ⟨b, none, [(false, [C.d (.sc (.bool r.x0))])]⟩
def g_zzvx : Con
 | [(false, [.sl a0n a0f .query a0])] => some (ret_zzvx (S.zzvx_is a0) (S.zzvx_o a0))
 | _ => none
theorem raw_zzvx (a0n : Option Bool) (a0f : Bool) (a0 : List (Ty .query)) : evR2 cx_zzvx (hdI cx_zzvx (find [(4, T_zzvx_4)]) [] none 0) none Try.f34 34 none [(false, [.sl a0n a0f .query a0])] some = (S.zzvx_R a0).go (ret_zzvx true) := by kernel_rfl
theorem bs_zzvx : loopsIn Try.f34 [] = [b_zzvx_4] := by kernel_rfl
theorem zzvx_ok : Stands Try.prog tyTab 34 g_zzvx := by
 refine stands3 (L := find [(4, T_zzvx_4)]) (n := 0) (hints := [(34, 4, { keep := [0, 3], acc := [] })]) (cx_ok rfl) rdy_zzvx ⟨by kernel_rfl, by kernel_rfl, by kernel_rfl⟩ bs_zzvx (consB (fun T h => by have e : T_zzvx_4 = T := Option.some.inj (show some T_zzvx_4 = some T from h); exact e ▸ lok_zzvx_4) nilB) (fun das r hG hr => ?_)
 unfold g_zzvx at hG
 split at hG
 ·rename_i a0n a0f a0
  injection hG with hG; subst hG
  exact ⟨none, true, win default ((raw_zzvx a0n a0f a0).trans (DT.go_run _ _)) hr⟩
 ·cases hG
abbrev cx_z6mj : Cx := mkCx2 tyTab [(37, g_zzsx)] [] [(35, 4, { keep := [0, 3], acc := [] })] []
theorem rdy_z6mj : Ready Try.prog tyTab [(37, g_zzsx)] [] [] := ⟨consG2 zzsx_ok (noneG2), noneI2, noneF2⟩
structure S.z6mj_4_V where
 t3_ : Int
def S.z6mj_4_R (qA : List (Ty .pred)) (v : S.z6mj_4_V) : DT (Option Nat × S.z6mj_4_V) :=
let y0 : Bool := xdec (v.t3_ < (↑qA.length : Int))
let y1 : List Opn := (qA.getD v.t3_.toNat (dflt .pred)).ifs
(.br (y0)
(.br (xdec (0 ≤ v.t3_) && y0)
(.br (S.zzsx_is y1)
(.br (xnot (S.zzsx_o y1).x0)
(.leaf (some 0, v))
(.leaf (none, ⟨xwrap .i64 (v.t3_ + 1)⟩)))
.fail)
.fail)
(.leaf (some 1, v)))
def S.z6mj_4_r (qA : List (Ty .pred)) (v : S.z6mj_4_V) : Option (Option Nat × S.z6mj_4_V) := (S.z6mj_4_R qA v).run
def S.z6mj_4_j (qA : List (Ty .pred)) (v : S.z6mj_4_V) (j : Nat) : Bool := Lp_j (S.z6mj_4_r qA) v j
def S.z6mj_4_v (qA : List (Ty .pred)) (v : S.z6mj_4_V) : S.z6mj_4_V := Lp_v (S.z6mj_4_r qA) v
def mk_z6mj_4 (qC : Option Bool) (qD : Bool) (qA : List (Ty .pred)) (v : S.z6mj_4_V) : St := ⟨(V.v false [C.d (.sl qC qD .pred qA)] :: (V.any :: (V.any :: ((cV v.t3_) :: (vs 18 []))))), (ns 5 []), 0⟩
def ex_z6mj_4 (qC : Option Bool) (qD : Bool) (qA : List (Ty .pred)) (j : Nat) (v : S.z6mj_4_V) : Ex × St := match j with
 | 0 => (Ex.ret, ⟨(V.any :: (V.any :: (V.v false [C.d (.sc (.bool false))] :: (vs 19 [])))), (ns 19 []), 0⟩)
 | 1 => (Ex.exit 0, ⟨(vs 22 []), (ns 9 []), 0⟩)
 | _ => (.ret, ⟨[], [], 0⟩)
def T1_z6mj_4 : V → V → Tree
 | V.v false [C.d (.sl qC qD .pred qA)], V.v false [C.d (.sc (.int .i64 t3_))] => exT (fun j => ex_z6mj_4 qC qD qA j (S.z6mj_4_v qA ⟨t3_⟩)) (S.z6mj_4_j qA ⟨t3_⟩) [0, 1]
 | _, _ => .bad
def T_z6mj_4 (st : St) : Tree := bif okSt 22 5 0 [] st then T1_z6mj_4 (st.env.getD 0 .any) (st.env.getD 3 .any) else .bad
def b_z6mj_4 : Code := loopBy Try.f35 4
theorem rnd_z6mj_4 (qC : Option Bool) (qD : Bool) (qA : List (Ty .pred)) (v : S.z6mj_4_V) : round2 cx_z6mj (hdI cx_z6mj (find []) [] none 0) 35 b_z6mj_4 [] 5 [2] (mk_z6mj_4 qC qD qA v) = (S.z6mj_4_R qA v).go (roundOut (mk_z6mj_4 qC qD qA) (ex_z6mj_4 qC qD qA)) := by kernel_rfl
theorem bs_z6mj_4 : loopsOf b_z6mj_4 ++ loopsInl [] = [] := by kernel_rfl
theorem ci_z6mj_4 (qC : Option Bool) (qD : Bool) (qA : List (Ty .pred)) : ∀ v j v2, Lp (S.z6mj_4_r qA) v = some (j, v2) → Circles Try.prog cx_z6mj b_z6mj_4 (mk_z6mj_4 qC qD qA v) (ex_z6mj_4 qC qD qA j v2).1 (ex_z6mj_4 qC qD qA j v2).2 :=
 loop_ok2 (L := find []) (n := 0) (hints := [(35, 4, { keep := [0, 3], acc := [] })]) (cx_ok rfl) rdy_z6mj bs_z6mj_4 nilB (fun v => (rnd_z6mj_4 qC qD qA v).trans (DT.go_run _ _)) (by intro j v; unfold ex_z6mj_4; split <;> rfl)
theorem mke_z6mj_4 (qC : Option Bool) (qD : Bool) (qA : List (Ty .pred)) (v : S.z6mj_4_V) : mk_z6mj_4 qC qD qA v = ⟨envOf 22 [(0, V.v false [C.d (.sl qC qD .pred qA)]), (3, (cV v.t3_))], heapOf 5 [], 0⟩ := by kernel_rfl
theorem lo1_z6mj_4 (e0 : V) (e3 : V)  e st2 (h : (T1_z6mj_4 e0 e3).eval = some (e, st2)) : Circles Try.prog cx_z6mj b_z6mj_4 ⟨envOf 22 [(0, e0), (3, e3)], heapOf 5 [], 0⟩ e st2 := by
 unfold T1_z6mj_4 at h
 split at h
 ·have := loop_tree (mk := mk_z6mj_4 _ _ _) (ci_z6mj_4 _ _ _) _ _ e st2 h
  rw [mke_z6mj_4] at this
  exact this
 ·cases h
theorem lok_z6mj_4 : LoopOk Try.prog cx_z6mj b_z6mj_4 T_z6mj_4 := by
 intro st e st2 h
 unfold T_z6mj_4 at h
 cases hk : okSt 22 5 0 [] st with
 | false => rw [hk] at h; cases h
 | true =>
  rw [hk] at h
  exact circles_keep (ks := [0, 3]) hk (lo1_z6mj_4 _ _ e st2 h)
structure S.z6mj_T where
 x0 : Bool
 deriving Inhabited
def S.z6mj_R (a0 : List (Ty .pred)) : DT S.z6mj_T :=
let y0 : S.z6mj_4_V := { t3_ := 0 : S.z6mj_4_V }
(.br (xdec ((↑a0.length : Int) > 40))
(.leaf ⟨false⟩)
(.br (S.z6mj_4_j a0 y0 0)
(.leaf ⟨false⟩)
(.br (S.z6mj_4_j a0 y0 1)
(.leaf ⟨true⟩)
.fail)))
def S.z6mj (a0 : List (Ty .pred)) : Option S.z6mj_T := (S.z6mj_R a0).run
def S.z6mj_is (a0 : List (Ty .pred)) : Bool := (S.z6mj a0).isSome
def S.z6mj_o (a0 : List (Ty .pred)) : S.z6mj_T := (S.z6mj a0).getD default
def ret_z6mj (b : Bool) (r : S.z6mj_T) : Ret := ⟨b, none, [(false, [C.d (.sc (.bool r.x0))])]⟩
def g_z6mj : Con
 | [(false, [.sl a0n a0f .pred a0])] => some (ret_z6mj (S.z6mj_is a0) (S.z6mj_o a0))
 | _ => none
theorem raw_z6mj (a0n : Option Bool) (a0f : Bool) (a0 : List (Ty .pred)) : evR2 cx_z6mj (hdI cx_z6mj (find [(4, T_z6mj_4)]) [] none 0) none Try.f35 35 none [(false, [.sl a0n a0f .pred a0])] some = (S.z6mj_R a0).go (ret_z6mj true) := by kernel_rfl
theorem bs_z6mj : loopsIn Try.f35 [] = [b_z6mj_4] := by kernel_rfl
theorem z6mj_ok : Stands Try.prog tyTab 35 g_z6mj := by
 refine stands3 (L := find [(4, T_z6mj_4)]) (n := 0) (hints := [(35, 4, { keep := [0, 3], acc := [] })]) (cx_ok rfl) rdy_z6mj ⟨by kernel_rfl, by kernel_rfl, by kernel_rfl⟩ bs_z6mj (consB (fun T h => by have e : T_z6mj_4 = T := Option.some.inj (show some T_z6mj_4 = some T from h); exact e ▸ lok_z6mj_4) nilB) (fun das r hG hr => ?_)
 unfold g_z6mj at hG
 split at hG
 ·rename_i a0n a0f a0
  injection hG with hG; subst hG
  exact ⟨none, true, win default ((raw_z6mj a0n a0f a0).trans (DT.go_run _ _)) hr⟩
 ·cases hG
abbrev cx_zhje : Cx := mkCx2 tyTab [(81, g_r8same)] [] [(38, 4, { keep := [0, 1, 5], acc := [] })] []
theorem rdy_zhje : Ready Try.prog tyTab [(81, g_r8same)] [] [] := ⟨consG2 r8same_ok (noneG2), noneI2, noneF2⟩
structure S.zhje_4_V where
 t5_ : Int
def S.zhje_4_R (qA : List (Ty .pred)) (qE : List (Ty .pred)) (v : S.zhje_4_V) : DT (Option Nat × S.zhje_4_V) :=
let y0 : Bool := xdec (v.t5_ < (↑qA.length : Int))
let y1 : Bool := xdec (0 ≤ v.t5_)
let y2 : Bool := y1 && y0
let y3 : Bool := y1 && xdec (v.t5_ < (↑qE.length : Int))
let y4 : Ty .pred := qA.getD v.t5_.toNat (dflt .pred)
let y5 : List Opn := y4.ifs
let y6 : Ty .pred := qE.getD v.t5_.toNat (dflt .pred)
let y7 : List Opn := y6.ifs
(.br (y0)
(.br (y2)
(.br (y3)
(.br (S.r8same_is y5 y7)
(.br (xnot (S.r8same_o y5 y7).x0)
(.leaf (some 0, v))
(.br (y2)
(.br (y3)
(.br (xnot (xdec (y4.name = y6.name)))
(.leaf (some 0, v))
(.leaf (none, ⟨xwrap .i64 (v.t5_ + 1)⟩)))
.fail)
.fail))
.fail)
.fail)
.fail)
(.leaf (some 1, v)))
def S.zhje_4_r (qA : List (Ty .pred)) (qE : List (Ty .pred)) (v : S.zhje_4_V) : Option (Option Nat × S.zhje_4_V) := (S.zhje_4_R qA qE v).run
def S.zhje_4_j (qA : List (Ty .pred)) (qE : List (Ty .pred)) (v : S.zhje_4_V) (j : Nat) : Bool := Lp_j (S.zhje_4_r qA qE) v j
def S.zhje_4_v (qA : List (Ty .pred)) (qE : List (Ty .pred)) (v : S.zhje_4_V) : S.zhje_4_V := Lp_v (S.zhje_4_r qA qE) v
def mk_zhje_4 (qC : Option Bool) (qD : Bool) (qA : List (Ty .pred)) (qF : Option Bool) (qG : Bool) (qE : List (Ty .pred)) (v : S.zhje_4_V) : St := ⟨(V.v false [C.d (.sl qC qD .pred qA)] :: (V.v false [C.d (.sl qF qG .pred qE)] :: (vs 3 ((cV v.t5_) :: (vs 38 []))))), (ns 7 []), 0⟩
def ex_zhje_4 (qC : Option Bool) (qD : Bool) (qA : List (Ty .pred)) (qF : Option Bool) (qG : Bool) (qE : List (Ty .pred)) (j : Nat) (v : S.zhje_4_V) : Ex × St := match j with
 | 0 => (Ex.ret, ⟨(vs 4 (V.v false [C.d (.sc (.bool false))] :: (vs 39 []))), (ns 39 []), 0⟩)
 | 1 => (Ex.exit 0, ⟨(vs 44 []), (ns 11 []), 0⟩)
 | _ => (.ret, ⟨[], [], 0⟩)
def T1_zhje_4 : V → V → V → Tree
 | V.v false [C.d (.sl qC qD .pred qA)], V.v false [C.d (.sl qF qG .pred qE)], V.v false [C.d (.sc (.int .i64 t5_))] => exT (fun j => ex_zhje_4 qC qD qA qF qG qE j (S.zhje_4_v qA qE ⟨t5_⟩)) (S.zhje_4_j qA qE ⟨t5_⟩) [0, 1]
 | _, _, _ => .bad
def T_zhje_4 (st : St) : Tree := bif okSt 44 7 0 [] st then T1_zhje_4 (st.env.getD 0 .any) (st.env.getD 1 .any) (st.env.getD 5 .any) else .bad
def b_zhje_4 : Code := loopBy Try.f38 4
theorem rnd_zhje_4 (qC : Option Bool) (qD : Bool) (qA : List (Ty .pred)) (qF : Option Bool) (qG : Bool) (qE : List (Ty .pred)) (v : S.zhje_4_V) : round2 cx_zhje (hdI cx_zhje (find []) [] none 0) 38 b_zhje_4 [] 7 [4] (mk_zhje_4 qC qD qA qF qG qE v) = (S.zhje_4_R qA qE v).go (roundOut (mk_zhje_4 qC qD qA qF qG qE) (ex_zhje_4 qC qD qA qF qG qE)) := by kernel_rfl
theorem bs_zhje_4 : loopsOf b_zhje_4 ++ loopsInl [] = [] := by kernel_rfl
theorem ci_zhje_4 (qC : Option Bool) (qD : Bool) (qA : List (Ty .pred)) (qF : Option Bool) (qG : Bool) (qE : List (Ty .pred)) : ∀ v j v2, Lp (S.zhje_4_r qA qE) v = some (j, v2) → Circles Try.prog cx_zhje b_zhje_4 (mk_zhje_4 qC qD qA qF qG qE v) (ex_zhje_4 qC qD qA qF qG qE j v2).1 (ex_zhje_4 qC qD qA qF qG qE j v2).2 :=
 loop_ok2 (L := find []) (n := 0) (hints := [(38, 4, { keep := [0, 1, 5], acc := [] })]) (cx_ok rfl) rdy_zhje bs_zhje_4 nilB (fun v => (rnd_zhje_4 qC qD qA qF qG qE v).trans (DT.go_run _ _)) (by intro j v; unfold ex_zhje_4; split <;> rfl)
theorem mke_zhje_4 (qC : Option Bool) (qD : Bool) (qA : List (Ty .pred)) (qF : Option Bool) (qG : Bool) (qE : List (Ty .pred)) (v : S.zhje_4_V) : mk_zhje_4 qC qD qA qF qG qE v = ⟨envOf 44 [(0, V.v false [C.d (.sl qC qD .pred qA)]), (1, V.v false [C.d (.sl qF qG .pred qE)]), (5, (cV v.t5_))], heapOf 7 [], 0⟩ := by kernel_rfl
theorem lo1_zhje_4 (e0 : V) (e1 : V) (e5 : V)  e st2 (h : (T1_zhje_4 e0 e1 e5).eval = some (e, st2)) : Circles Try.prog cx_zhje b_zhje_4 ⟨envOf 44 [(0, e0), (1, e1), (5, e5)], heapOf 7 [], 0⟩ e st2 := by
 unfold T1_zhje_4 at h
 split at h
 ·have := loop_tree (mk := mk_zhje_4 _ _ _ _ _ _) (ci_zhje_4 _ _ _ _ _ _) _ _ e st2 h
  rw [mke_zhje_4] at this
  exact this
 ·cases h
theorem lok_zhje_4 : LoopOk Try.prog cx_zhje b_zhje_4 T_zhje_4 := by
 intro st e st2 h
 unfold T_zhje_4 at h
 cases hk : okSt 44 7 0 [] st with
 | false => rw [hk] at h; cases h
 | true =>
  rw [hk] at h
  exact circles_keep (ks := [0, 1, 5]) hk (lo1_zhje_4 _ _ _ e st2 h)
structure S.zhje_T where
 x0 : Bool
 deriving Inhabited
def S.zhje_R (a0 : List (Ty .pred)) (a1 : List (Ty .pred)) : DT S.zhje_T :=
let y0 : S.zhje_4_V := { t5_ := 0 : S.zhje_4_V }
(.br (xneI (↑a0.length : Int) (↑a1.length : Int))
(.leaf ⟨false⟩)
(.br (S.zhje_4_j a0 a1 y0 0)
(.leaf ⟨false⟩)
(.br (S.zhje_4_j a0 a1 y0 1)
(.leaf ⟨true⟩)
.fail)))
def S.zhje (a0 : List (Ty .pred)) (a1 : List (Ty .pred)) : Option S.zhje_T := (S.zhje_R a0 a1).run
def S.zhje_is (a0 : List (Ty .pred)) (a1 : List (Ty .pred)) : Bool := (S.zhje a0 a1).isSome
def S.zhje_o (a0 : List (Ty .pred)) (a1 : List (Ty .pred)) : S.zhje_T := (S.zhje a0 a1).getD default
def ret_zhje (b : Bool) (r : S.zhje_T) : Ret := ⟨b, none, [(false, [C.d (.sc (.bool r.x0))])]⟩
def g_zhje : Con
 | [(false, [.sl a0n a0f .pred a0]), (false, [.sl a1n a1f .pred a1])] => some (ret_zhje (S.zhje_is a0 a1) (S.zhje_o a0 a1))
 | _ => none
theorem raw_zhje (a0n : Option Bool) (a0f : Bool) (a0 : List (Ty .pred)) (a1n : Option Bool) (a1f : Bool) (a1 : List (Ty .pred)) : evR2 cx_zhje (hdI cx_zhje (find [(4, T_zhje_4)]) [] none 0) none Try.f38 38 none [(false, [.sl a0n a0f .pred a0]), (false, [.sl a1n a1f .pred a1])] some = (S.zhje_R a0 a1).go (ret_zhje true) := by kernel_rfl
theorem bs_zhje : loopsIn Try.f38 [] = [b_zhje_4] := by kernel_rfl
theorem zhje_ok : Stands Try.prog tyTab 38 g_zhje := by
 refine stands3 (L := find [(4, T_zhje_4)]) (n := 0) (hints := [(38, 4, { keep := [0, 1, 5], acc := [] })]) (cx_ok rfl) rdy_zhje ⟨by kernel_rfl, by kernel_rfl, by kernel_rfl⟩ bs_zhje (consB (fun T h => by have e : T_zhje_4 = T := Option.some.inj (show some T_zhje_4 = some T from h); exact e ▸ lok_zhje_4) nilB) (fun das r hG hr => ?_)
 unfold g_zhje at hG
 split at hG
 ·rename_i a0n a0f a0 a1n a1f a1
  injection hG with hG; subst hG
  exact ⟨none, true, win default ((raw_zhje a0n a0f a0 a1n a1f a1).trans (DT.go_run _ _)) hr⟩
 ·cases hG
abbrev cx_zgtf : Cx := mkCx2 tyTab [] [] [(41, 4, { keep := [0, 1, 5], acc := [] })] []
theorem rdy_zgtf : Ready Try.prog tyTab [] [] [] := ⟨noneG2, noneI2, noneF2⟩
structure S.zgtf_4_V where
 t5_ : Int
def S.zgtf_4_R (qA : List (Ty .bool)) (qE : List (Ty .bool)) (v : S.zgtf_4_V) : DT (Option Nat × S.zgtf_4_V) :=
let y0 : Bool := xdec (v.t5_ < (↑qA.length : Int))
let y1 : Bool := xdec (0 ≤ v.t5_)
(.br (y0)
(.br (y1 && y0)
(.br (y1 && xdec (v.t5_ < (↑qE.length : Int)))
(.br (bif qA.getD v.t5_.toNat (dflt .bool) == qE.getD v.t5_.toNat (dflt .bool) then false else true)
(.leaf (some 0, v))
(.leaf (none, ⟨xwrap .i64 (v.t5_ + 1)⟩)))
.fail)
.fail)
(.leaf (some 1, v)))
def S.zgtf_4_r (qA : List (Ty .bool)) (qE : List (Ty .bool)) (v : S.zgtf_4_V) : Option (Option Nat × S.zgtf_4_V) := (S.zgtf_4_R qA qE v).run
def S.zgtf_4_j (qA : List (Ty .bool)) (qE : List (Ty .bool)) (v : S.zgtf_4_V) (j : Nat) : Bool := Lp_j (S.zgtf_4_r qA qE) v j
def S.zgtf_4_v (qA : List (Ty .bool)) (qE : List (Ty .bool)) (v : S.zgtf_4_V) : S.zgtf_4_V := Lp_v (S.zgtf_4_r qA qE) v
def mk_zgtf_4 (qC : Option Bool) (qD : Bool) (qA : List (Ty .bool)) (qF : Option Bool) (qG : Bool) (qE : List (Ty .bool)) (v : S.zgtf_4_V) : St := ⟨(V.v false [C.d (.sl qC qD .bool qA)] :: (V.v false [C.d (.sl qF qG .bool qE)] :: (vs 3 ((cV v.t5_) :: (vs 20 []))))), (ns 7 []), 0⟩
def ex_zgtf_4 (qC : Option Bool) (qD : Bool) (qA : List (Ty .bool)) (qF : Option Bool) (qG : Bool) (qE : List (Ty .bool)) (j : Nat) (v : S.zgtf_4_V) : Ex × St := match j with
 | 0 => (Ex.ret, ⟨(vs 4 (V.v false [C.d (.sc (.bool false))] :: (vs 21 []))), (ns 21 []), 0⟩)
 | 1 => (Ex.exit 0, ⟨(vs 26 []), (ns 11 []), 0⟩)
 | _ => (.ret, ⟨[], [], 0⟩)
def T1_zgtf_4 : V → V → V → Tree
 | V.v false [C.d (.sl qC qD .bool qA)], V.v false [C.d (.sl qF qG .bool qE)], V.v false [C.d (.sc (.int .i64 t5_))] => exT (fun j => ex_zgtf_4 qC qD qA qF qG qE j (S.zgtf_4_v qA qE ⟨t5_⟩)) (S.zgtf_4_j qA qE ⟨t5_⟩) [0, 1]
 | _, _, _ => .bad
def T_zgtf_4 (st : St) : Tree := bif okSt 26 7 0 [] st then T1_zgtf_4 (st.env.getD 0 .any) (st.env.getD 1 .any) (st.env.getD 5 .any) else .bad
def b_zgtf_4 : Code := loopBy Try.f41 4
theorem rnd_zgtf_4 (qC : Option Bool) (qD : Bool) (qA : List (Ty .bool)) (qF : Option Bool) (qG : Bool) (qE : List (Ty .bool)) (v : S.zgtf_4_V) : round2 cx_zgtf (hdI cx_zgtf (find []) [] none 0) 41 b_zgtf_4 [] 7 [4] (mk_zgtf_4 qC qD qA qF qG qE v) = (S.zgtf_4_R qA qE v).go (roundOut (mk_zgtf_4 qC qD qA qF qG qE) (ex_zgtf_4 qC qD qA qF qG qE)) := by kernel_rfl
theorem bs_zgtf_4 : loopsOf b_zgtf_4 ++ loopsInl [] = [] := by kernel_rfl
theorem ci_zgtf_4 (qC : Option Bool) (qD : Bool) (qA : List (Ty .bool)) (qF : Option Bool) (qG : Bool) (qE : List (Ty .bool)) : ∀ v j v2, Lp (S.zgtf_4_r qA qE) v = some (j, v2) → Circles Try.prog cx_zgtf b_zgtf_4 (mk_zgtf_4 qC qD qA qF qG qE v) (ex_zgtf_4 qC qD qA qF qG qE j v2).1 (ex_zgtf_4 qC qD qA qF qG qE j v2).2 :=
 loop_ok2 (L := find []) (n := 0) (hints := [(41, 4, { keep := [0, 1, 5], acc := [] })]) (cx_ok rfl) rdy_zgtf bs_zgtf_4 nilB (fun v => (rnd_zgtf_4 qC qD qA qF qG qE v).trans (DT.go_run _ _)) (by intro j v; unfold ex_zgtf_4; split <;> rfl)
theorem mke_zgtf_4 (qC : Option Bool) (qD : Bool) (qA : List (Ty .bool)) (qF : Option Bool) (qG : Bool) (qE : List (Ty .bool)) (v : S.zgtf_4_V) : mk_zgtf_4 qC qD qA qF qG qE v = ⟨envOf 26 [(0, V.v false [C.d (.sl qC qD .bool qA)]), (1, V.v false [C.d (.sl qF qG .bool qE)]), (5, (cV v.t5_))], heapOf 7 [], 0⟩ := by kernel_rfl
theorem lo1_zgtf_4 (e0 : V) (e1 : V) (e5 : V)  e st2 (h : (T1_zgtf_4 e0 e1 e5).eval = some (e, st2)) : Circles Try.prog cx_zgtf b_zgtf_4 ⟨envOf 26 [(0, e0), (1, e1), (5, e5)], heapOf 7 [], 0⟩ e st2 := by
 unfold T1_zgtf_4 at h
 split at h
 ·have := loop_tree (mk := mk_zgtf_4 _ _ _ _ _ _) (ci_zgtf_4 _ _ _ _ _ _) _ _ e st2 h
  rw [mke_zgtf_4] at this
  exact this
 ·cases h
theorem lok_zgtf_4 : LoopOk Try.prog cx_zgtf b_zgtf_4 T_zgtf_4 := by
 intro st e st2 h
 unfold T_zgtf_4 at h
 cases hk : okSt 26 7 0 [] st with
 | false => rw [hk] at h; cases h
 | true =>
  rw [hk] at h
  exact circles_keep (ks := [0, 1, 5]) hk (lo1_zgtf_4 _ _ _ e st2 h)
structure S.zgtf_T where
 x0 : Bool
 deriving Inhabited
def S.zgtf_R (a0 : List (Ty .bool)) (a1 : List (Ty .bool)) : DT S.zgtf_T :=
let y0 : S.zgtf_4_V := { t5_ := 0 : S.zgtf_4_V }
(.br (xneI (↑a0.length : Int) (↑a1.length : Int))
(.leaf ⟨false⟩)
(.br (S.zgtf_4_j a0 a1 y0 0)
(.leaf ⟨false⟩)
(.br (S.zgtf_4_j a0 a1 y0 1)
(.leaf ⟨true⟩)
.fail)))
def S.zgtf (a0 : List (Ty .bool)) (a1 : List (Ty .bool)) : Option S.zgtf_T := (S.zgtf_R a0 a1).run
def S.zgtf_is (a0 : List (Ty .bool)) (a1 : List (Ty .bool)) : Bool := (S.zgtf a0 a1).isSome
def S.zgtf_o (a0 : List (Ty .bool)) (a1 : List (Ty .bool)) : S.zgtf_T := (S.zgtf a0 a1).getD default
def ret_zgtf (b : Bool) (r : S.zgtf_T) : Ret := ⟨b, none, [(false, [C.d (.sc (.bool r.x0))])]⟩
def g_zgtf : Con
 | [(false, [.sl a0n a0f .bool a0]), (false, [.sl a1n a1f .bool a1])] => some (ret_zgtf (S.zgtf_is a0 a1) (S.zgtf_o a0 a1))
 | _ => none
theorem raw_zgtf (a0n : Option Bool) (a0f : Bool) (a0 : List (Ty .bool)) (a1n : Option Bool) (a1f : Bool) (a1 : List (Ty .bool)) : evR2 cx_zgtf (hdI cx_zgtf (find [(4, T_zgtf_4)]) [] none 0) none Try.f41 41 none [(false, [.sl a0n a0f .bool a0]), (false, [.sl a1n a1f .bool a1])] some = (S.zgtf_R a0 a1).go (ret_zgtf true) := by kernel_rfl
theorem bs_zgtf : loopsIn Try.f41 [] = [b_zgtf_4] := by kernel_rfl
theorem zgtf_ok : Stands Try.prog tyTab 41 g_zgtf := by
 refine stands3 (L := find [(4, T_zgtf_4)]) (n := 0) (hints := [(41, 4, { keep := [0, 1, 5], acc := [] })]) (cx_ok rfl) rdy_zgtf ⟨by kernel_rfl, by kernel_rfl, by kernel_rfl⟩ bs_zgtf (consB (fun T h => by have e : T_zgtf_4 = T := Option.some.inj (show some T_zgtf_4 = some T from h); exact e ▸ lok_zgtf_4) nilB) (fun das r hG hr => ?_)
 unfold g_zgtf at hG
 split at hG
 ·rename_i a0n a0f a0 a1n a1f a1
  injection hG with hG; subst hG
  exact ⟨none, true, win default ((raw_zgtf a0n a0f a0 a1n a1f a1).trans (DT.go_run _ _)) hr⟩
 ·cases hG
abbrev cx_zcq4 : Cx := mkCx2 tyTab [(81, g_r8same)] [] [(46, 2, { keep := [0, 3, 5], acc := [] })] []
theorem rdy_zcq4 : Ready Try.prog tyTab [(81, g_r8same)] [] [] := ⟨consG2 r8same_ok (noneG2), noneI2, noneF2⟩
structure S.zcq4_2_V where
 t5_ : Int
def S.zcq4_2_R (qA : List (Ty .pred)) (qH : ByteArray) (qI : List (Ty .op)) (v : S.zcq4_2_V) : DT (Option Nat × S.zcq4_2_V) :=
let y0 : Bool := xdec (v.t5_ < (↑qA.length : Int))
let y1 : Bool := xdec (0 ≤ v.t5_) && y0
let y2 : Ty .pred := qA.getD v.t5_.toNat (dflt .pred)
let y3 : List Opn := y2.ifs
let y4 : Int := xwrap .i64 (v.t5_ + 1)
(.br (y0)
(.br (y1)
(.br (S.r8same_is y3 qI)
(.br ((S.r8same_o y3 qI).x0)
(.br (y1)
(.br (xdec (y2.name = qH))
(.leaf (some 0, v))
(.leaf (none, ⟨y4⟩)))
.fail)
(.leaf (none, ⟨y4⟩)))
.fail)
.fail)
(.leaf (some 1, v)))
def S.zcq4_2_r (qA : List (Ty .pred)) (qH : ByteArray) (qI : List (Ty .op)) (v : S.zcq4_2_V) : Option (Option Nat × S.zcq4_2_V) := (S.zcq4_2_R qA qH qI v).run
def S.zcq4_2_j (qA : List (Ty .pred)) (qH : ByteArray) (qI : List (Ty .op)) (v : S.zcq4_2_V) (j : Nat) : Bool := Lp_j (S.zcq4_2_r qA qH qI) v j
def S.zcq4_2_v (qA : List (Ty .pred)) (qH : ByteArray) (qI : List (Ty .op)) (v : S.zcq4_2_V) : S.zcq4_2_V := Lp_v (S.zcq4_2_r qA qH qI) v
def mk_zcq4_2 (qC : Option Bool) (qD : Bool) (qA : List (Ty .pred)) (qH : ByteArray) (qJ : Option Bool) (qK : Bool) (qI : List (Ty .op)) (v : S.zcq4_2_V) : St := ⟨(V.v false [C.d (.sl qC qD .pred qA)] :: (V.any :: (V.any :: (V.v false [C.ptr 0 0] :: (V.any :: ((cV v.t5_) :: (vs 27 []))))))), [some (Blk.box 26 [C.d (.sc (.str qH)), C.d (.sl qJ qK .op qI)]), none, none], 0⟩
def ex_zcq4_2 (qC : Option Bool) (qD : Bool) (qA : List (Ty .pred)) (qH : ByteArray) (qJ : Option Bool) (qK : Bool) (qI : List (Ty .op)) (j : Nat) (v : S.zcq4_2_V) : Ex × St := match j with
 | 0 => (Ex.ret, ⟨(vs 4 ((cV v.t5_) :: (vs 28 []))), (some (Blk.box 26 [C.d (.sc (.str qH)), C.d (.sl qJ qK .op qI)]) :: (ns 28 [])), 0⟩)
 | 1 => (Ex.exit 0, ⟨(vs 33 []), (some (Blk.box 26 [C.d (.sc (.str qH)), C.d (.sl qJ qK .op qI)]) :: (ns 6 [])), 0⟩)
 | _ => (.ret, ⟨[], [], 0⟩)
def T1_zcq4_2 : V → V → V → Option Blk → Tree
 | V.v false [C.d (.sl qC qD .pred qA)], V.v false [C.ptr 0 0], V.v false [C.d (.sc (.int .i64 t5_))], some (Blk.box 26 [C.d (.sc (.str qH)), C.d (.sl qJ qK .op qI)]) => exT (fun j => ex_zcq4_2 qC qD qA qH qJ qK qI j (S.zcq4_2_v qA qH qI ⟨t5_⟩)) (S.zcq4_2_j qA qH qI ⟨t5_⟩) [0, 1]
 | _, _, _, _ => .bad
def T_zcq4_2 (st : St) : Tree := bif okSt 33 3 0 [0] st then T1_zcq4_2 (st.env.getD 0 .any) (st.env.getD 3 .any) (st.env.getD 5 .any) (lk st.heap 0) else .bad
def b_zcq4_2 : Code := loopBy Try.f46 2
theorem rnd_zcq4_2 (qC : Option Bool) (qD : Bool) (qA : List (Ty .pred)) (qH : ByteArray) (qJ : Option Bool) (qK : Bool) (qI : List (Ty .op)) (v : S.zcq4_2_V) : round2 cx_zcq4 (hdI cx_zcq4 (find []) [] none 0) 46 b_zcq4_2 [] 3 [4] (mk_zcq4_2 qC qD qA qH qJ qK qI v) = (S.zcq4_2_R qA qH qI v).go (roundOut (mk_zcq4_2 qC qD qA qH qJ qK qI) (ex_zcq4_2 qC qD qA qH qJ qK qI)) := by kernel_rfl
theorem bs_zcq4_2 : loopsOf b_zcq4_2 ++ loopsInl [] = [] := by kernel_rfl
theorem ci_zcq4_2 (qC : Option Bool) (qD : Bool) (qA : List (Ty .pred)) (qH : ByteArray) (qJ : Option Bool) (qK : Bool) (qI : List (Ty .op)) : ∀ v j v2, Lp (S.zcq4_2_r qA qH qI) v = some (j, v2) → Circles Try.prog cx_zcq4 b_zcq4_2 (mk_zcq4_2 qC qD qA qH qJ qK qI v) (ex_zcq4_2 qC qD qA qH qJ qK qI j v2).1 (ex_zcq4_2 qC qD qA qH qJ qK qI j v2).2 :=
 loop_ok2 (L := find []) (n := 0) (hints := [(46, 2, { keep := [0, 3, 5], acc := [] })]) (cx_ok rfl) rdy_zcq4 bs_zcq4_2 nilB (fun v => (rnd_zcq4_2 qC qD qA qH qJ qK qI v).trans (DT.go_run _ _)) (by intro j v; unfold ex_zcq4_2; split <;> rfl)
theorem mke_zcq4_2 (qC : Option Bool) (qD : Bool) (qA : List (Ty .pred)) (qH : ByteArray) (qJ : Option Bool) (qK : Bool) (qI : List (Ty .op)) (v : S.zcq4_2_V) : mk_zcq4_2 qC qD qA qH qJ qK qI v = ⟨envOf 33 [(0, V.v false [C.d (.sl qC qD .pred qA)]), (3, V.v false [C.ptr 0 0]), (5, (cV v.t5_))], heapOf 3 [(0, some (Blk.box 26 [C.d (.sc (.str qH)), C.d (.sl qJ qK .op qI)]))], 0⟩ := by kernel_rfl
theorem lo1_zcq4_2 (e0 : V) (e3 : V) (e5 : V) (h0 : Option Blk) e st2 (h : (T1_zcq4_2 e0 e3 e5 h0).eval = some (e, st2)) : Circles Try.prog cx_zcq4 b_zcq4_2 ⟨envOf 33 [(0, e0), (3, e3), (5, e5)], heapOf 3 [(0, h0)], 0⟩ e st2 := by
 unfold T1_zcq4_2 at h
 split at h
 ·have := loop_tree (mk := mk_zcq4_2 _ _ _ _ _ _ _) (ci_zcq4_2 _ _ _ _ _ _ _) _ _ e st2 h
  rw [mke_zcq4_2] at this
  exact this
 ·cases h
theorem lok_zcq4_2 : LoopOk Try.prog cx_zcq4 b_zcq4_2 T_zcq4_2 := by
 intro st e st2 h
 unfold T_zcq4_2 at h
 cases hk : okSt 33 3 0 [0] st with
 | false => rw [hk] at h; cases h
 | true =>
  rw [hk] at h
  exact circles_keep (ks := [0, 3, 5]) hk (lo1_zcq4_2 _ _ _ _ e st2 h)
structure S.zcq4_T where
 x0 : Int
 deriving Inhabited
def S.zcq4_R (a0 : List (Ty .pred)) (a1_0 : ByteArray) (a1_1 : List (Ty .op)) : DT S.zcq4_T :=
let y0 : S.zcq4_2_V := { t5_ := 0 : S.zcq4_2_V }
(.br (S.zcq4_2_j a0 a1_0 a1_1 y0 0)
(.leaf ⟨(S.zcq4_2_v a0 a1_0 a1_1 y0).t5_⟩)
(.br (S.zcq4_2_j a0 a1_0 a1_1 y0 1)
(.leaf ⟨-1⟩)
.fail))
def S.zcq4 (a0 : List (Ty .pred)) (a1_0 : ByteArray) (a1_1 : List (Ty .op)) : Option S.zcq4_T := (S.zcq4_R a0 a1_0 a1_1).run
def S.zcq4_is (a0 : List (Ty .pred)) (a1_0 : ByteArray) (a1_1 : List (Ty .op)) : Bool := (S.zcq4 a0 a1_0 a1_1).isSome
def S.zcq4_o (a0 : List (Ty .pred)) (a1_0 : ByteArray) (a1_1 : List (Ty .op)) : S.zcq4_T := (S.zcq4 a0 a1_0 a1_1).getD default
def ret_zcq4 (b : Bool) (r : S.zcq4_T) : Ret := ⟨b, none, [(false, [C.d (.sc (.int .i64 r.x0))])]⟩
def g_zcq4 : Con
 | [(false, [.sl a0n a0f .pred a0]), (true, [.sc (.str a1_0), .sl a1_1n a1_1f .op a1_1])] => some (ret_zcq4 (S.zcq4_is a0 a1_0 a1_1) (S.zcq4_o a0 a1_0 a1_1))
 | _ => none
theorem raw_zcq4 (a0n : Option Bool) (a0f : Bool) (a0 : List (Ty .pred)) (a1_0 : ByteArray) (a1_1n : Option Bool) (a1_1f : Bool) (a1_1 : List (Ty .op)) : evR2 cx_zcq4 (hdI cx_zcq4 (find [(2, T_zcq4_2)]) [] none 0) none Try.f46 46 none [(false, [.sl a0n a0f .pred a0]), (true, [.sc (.str a1_0), .sl a1_1n a1_1f .op a1_1])] some = (S.zcq4_R a0 a1_0 a1_1).go (ret_zcq4 true) := by kernel_rfl
theorem bs_zcq4 : loopsIn Try.f46 [] = [b_zcq4_2] := by kernel_rfl
theorem zcq4_ok : Stands Try.prog tyTab 46 g_zcq4 := by
 refine stands3 (L := find [(2, T_zcq4_2)]) (n := 0) (hints := [(46, 2, { keep := [0, 3, 5], acc := [] })]) (cx_ok rfl) rdy_zcq4 ⟨by kernel_rfl, by kernel_rfl, by kernel_rfl⟩ bs_zcq4 (consB (fun T h => by have e : T_zcq4_2 = T := Option.some.inj (show some T_zcq4_2 = some T from h); exact e ▸ lok_zcq4_2) nilB) (fun das r hG hr => ?_)
 unfold g_zcq4 at hG
 split at hG
 ·rename_i a0n a0f a0 a1_0 a1_1n a1_1f a1_1
  injection hG with hG; subst hG
  exact ⟨none, true, win default ((raw_zcq4 a0n a0f a0 a1_0 a1_1n a1_1f a1_1).trans (DT.go_run _ _)) hr⟩
 ·cases hG
end
end Go.Eng
