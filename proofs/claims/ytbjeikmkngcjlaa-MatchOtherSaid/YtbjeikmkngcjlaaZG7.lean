/- Contracts, laid by program. -/
import Derived.Test.YtbjeikmkngcjlaaZG5
set_option linter.unusedVariables false
namespace Go.Eng
noncomputable section
open Go Go.Eng Go.Proofs Go.Eng.Tab
abbrev cx_zisi : Cx := mkCx2 tyTab [] [] [(132, 4, { keep := [0, 1, 12, 13], acc := [] })] []
theorem rdy_zisi : Ready Try.prog tyTab [] [] [] := ⟨noneG2, noneI2, noneF2⟩
structure S.zisi_4_V where
 t13_ : Int
def S.zisi_4_R (qA : List (Ty .run)) (qB : List (Ty .run)) (qC : Int) (v : S.zisi_4_V) : DT (Option Nat × S.zisi_4_V) :=
let y0 : Bool := xdec (0 ≤ v.t13_)
let y1 : Ty .run := qA.getD v.t13_.toNat (dflt .run)
let y2 : Ty .run := qB.getD v.t13_.toNat (dflt .run)
(.br (xdec (v.t13_ < qC))
(.br (y0 && xdec (v.t13_ < (↑qA.length : Int)))
(.br (y0 && xdec (v.t13_ < (↑qB.length : Int)))
(.br (bif xeqI y1.first y2.first && (xeqI y1.at_ y2.at_ && (xeqI y1.step y2.step && (xeqI y1.n y2.n && (xeqI y1.many y2.many && (xeqI y1.agg y2.agg && xeqB y1.bad y2.bad))))) then false
else true)
(.leaf (some 0, v))
(.leaf (none, ⟨xwrap .i64 (v.t13_ + 1)⟩)))
.fail)
.fail)
(.leaf (some 1, v)))
def S.zisi_4_r (qA : List (Ty .run)) (qB : List (Ty .run)) (qC : Int) (v : S.zisi_4_V) : Option (Option Nat × S.zisi_4_V) := (S.zisi_4_R qA qB qC v).run
def S.zisi_4_j (qA : List (Ty .run)) (qB : List (Ty .run)) (qC : Int) (v : S.zisi_4_V) (j : Nat) : Bool := Lp_j (S.zisi_4_r qA qB qC) v j
def S.zisi_4_v (qA : List (Ty .run)) (qB : List (Ty .run)) (qC : Int) (v : S.zisi_4_V) : S.zisi_4_V := Lp_v (S.zisi_4_r qA qB qC) v
def mk_zisi_4 (qD : Option Bool) (qE : Bool) (qA : List (Ty .run)) (qF : Option Bool) (qG : Bool) (qB : List (Ty .run)) (qC : Int) (v : S.zisi_4_V) : St := ⟨(V.v false [C.d (.sl qD qE .run qA)] :: (V.v false [C.d (.sl qF qG .run qB)] :: (vs 10 ((cV qC) :: ((cV v.t13_) :: (vs 12 [])))))), (ns 9 []), 0⟩
def ex_zisi_4 (qD : Option Bool) (qE : Bool) (qA : List (Ty .run)) (qF : Option Bool) (qG : Bool) (qB : List (Ty .run)) (qC : Int) (j : Nat) (v : S.zisi_4_V) : Ex × St := match j with
 | 0 => (Ex.ret, ⟨(vs 4 (V.v false [C.d (.sc (.bool false))] :: (vs 21 []))), (ns 22 []), 0⟩)
 | 1 => (Ex.exit 0, ⟨(vs 26 []), (ns 10 []), 0⟩)
 | _ => (.ret, ⟨[], [], 0⟩)
def T1_zisi_4 : V → V → V → V → Tree
 | V.v false [C.d (.sl qD qE .run qA)], V.v false [C.d (.sl qF qG .run qB)], V.v false [C.d (.sc (.int .i64 qC))], V.v false [C.d (.sc (.int .i64 t13_))] => exT (fun j => ex_zisi_4 qD qE qA qF qG qB qC j (S.zisi_4_v qA qB qC ⟨t13_⟩)) (S.zisi_4_j qA qB qC ⟨t13_⟩) [0, 1]
 | _, _, _, _ => .bad
def T_zisi_4 (st : St) : Tree := bif okSt 26 9 0 [] st then T1_zisi_4 (st.env.getD 0 .any) (st.env.getD 1 .any) (st.env.getD 12 .any) (st.env.getD 13 .any) else .bad
def b_zisi_4 : Code := loopBy Try.f132 4
theorem rnd_zisi_4 (qD : Option Bool) (qE : Bool) (qA : List (Ty .run)) (qF : Option Bool) (qG : Bool) (qB : List (Ty .run)) (qC : Int) (v : S.zisi_4_V) : round2 cx_zisi (hdI cx_zisi (find []) [] none 0) 132 b_zisi_4 [] 9 [4] (mk_zisi_4 qD qE qA qF qG qB qC v) = (S.zisi_4_R qA qB qC v).go (roundOut (mk_zisi_4 qD qE qA qF qG qB qC) (ex_zisi_4 qD qE qA qF qG qB qC)) := by kernel_rfl
theorem bs_zisi_4 : loopsOf b_zisi_4 ++ loopsInl [] = [] := by kernel_rfl
theorem ci_zisi_4 (qD : Option Bool) (qE : Bool) (qA : List (Ty .run)) (qF : Option Bool) (qG : Bool) (qB : List (Ty .run)) (qC : Int) : ∀ v j v2, Lp (S.zisi_4_r qA qB qC) v = some (j, v2) → Circles Try.prog cx_zisi b_zisi_4 (mk_zisi_4 qD qE qA qF qG qB qC v) (ex_zisi_4 qD qE qA qF qG qB qC j v2).1 (ex_zisi_4 qD qE qA qF qG qB qC j v2).2 :=
 loop_ok2 (L := find []) (n := 0) (hints := [(132, 4, { keep := [0, 1, 12, 13], acc := [] })]) (cx_ok rfl) rdy_zisi bs_zisi_4 nilB (fun v => (rnd_zisi_4 qD qE qA qF qG qB qC v).trans (DT.go_run _ _)) (by intro j v; unfold ex_zisi_4; split <;> rfl)
theorem mke_zisi_4 (qD : Option Bool) (qE : Bool) (qA : List (Ty .run)) (qF : Option Bool) (qG : Bool) (qB : List (Ty .run)) (qC : Int) (v : S.zisi_4_V) : mk_zisi_4 qD qE qA qF qG qB qC v = ⟨envOf 26 [(0, V.v false [C.d (.sl qD qE .run qA)]), (1, V.v false [C.d (.sl qF qG .run qB)]), (12, (cV qC)), (13, (cV v.t13_))], heapOf 9 [], 0⟩ := by kernel_rfl
theorem lo1_zisi_4 (e0 : V) (e1 : V) (e12 : V) (e13 : V)  e st2 (h : (T1_zisi_4 e0 e1 e12 e13).eval = some (e, st2)) : Circles Try.prog cx_zisi b_zisi_4 ⟨envOf 26 [(0, e0), (1, e1), (12, e12), (13, e13)], heapOf 9 [], 0⟩ e st2 := by
 unfold T1_zisi_4 at h
 split at h
 ·have := loop_tree (mk := mk_zisi_4 _ _ _ _ _ _ _) (ci_zisi_4 _ _ _ _ _ _ _) _ _ e st2 h
  rw [mke_zisi_4] at this
  exact this
 ·cases h
theorem lok_zisi_4 : LoopOk Try.prog cx_zisi b_zisi_4 T_zisi_4 := by
 intro st e st2 h
 unfold T_zisi_4 at h
 cases hk : okSt 26 9 0 [] st with
 | false => rw [hk] at h; cases h
 | true =>
  rw [hk] at h
  exact circles_keep (ks := [0, 1, 12, 13]) hk (lo1_zisi_4 _ _ _ _ e st2 h)
structure S.zisi_T where
 x0 : Bool
 deriving Inhabited
def S.zisi_R (a0 : List (Ty .run)) (a1 : List (Ty .run)) : DT S.zisi_T :=
let y0 : Int := (↑a0.length : Int)
let y1 : S.zisi_4_V := { t13_ := 0 : S.zisi_4_V }
(.br (xneI y0 (↑a1.length : Int))
(.leaf ⟨false⟩)
(.br (S.zisi_4_j a0 a1 y0 y1 0)
(.leaf ⟨false⟩)
(.br (S.zisi_4_j a0 a1 y0 y1 1)
(.leaf ⟨true⟩)
.fail)))
def S.zisi (a0 : List (Ty .run)) (a1 : List (Ty .run)) : Option S.zisi_T := (S.zisi_R a0 a1).run
def S.zisi_is (a0 : List (Ty .run)) (a1 : List (Ty .run)) : Bool := (S.zisi a0 a1).isSome
def S.zisi_o (a0 : List (Ty .run)) (a1 : List (Ty .run)) : S.zisi_T := (S.zisi a0 a1).getD default
def ret_zisi (b : Bool) (r : S.zisi_T) : Ret := ⟨b, none, [(false, [C.d (.sc (.bool r.x0))])]⟩
def g_zisi : Con
 | [(false, [.sl a0n a0f .run a0]), (false, [.sl a1n a1f .run a1])] => some (ret_zisi (S.zisi_is a0 a1) (S.zisi_o a0 a1))
 | _ => none
theorem raw_zisi (a0n : Option Bool) (a0f : Bool) (a0 : List (Ty .run)) (a1n : Option Bool) (a1f : Bool) (a1 : List (Ty .run)) : evR2 cx_zisi (hdI cx_zisi (find [(4, T_zisi_4)]) [] none 0) none Try.f132 132 none [(false, [.sl a0n a0f .run a0]), (false, [.sl a1n a1f .run a1])] some = (S.zisi_R a0 a1).go (ret_zisi true) := by kernel_rfl
theorem bs_zisi : loopsIn Try.f132 [] = [b_zisi_4] := by kernel_rfl
theorem zisi_ok : Stands Try.prog tyTab 132 g_zisi := by
 refine stands3 (L := find [(4, T_zisi_4)]) (n := 0) (hints := [(132, 4, { keep := [0, 1, 12, 13], acc := [] })]) (cx_ok rfl) rdy_zisi ⟨by kernel_rfl, by kernel_rfl, by kernel_rfl⟩ bs_zisi (consB (fun T h => by have e : T_zisi_4 = T := Option.some.inj (show some T_zisi_4 = some T from h); exact e ▸ lok_zisi_4) nilB) (fun das r hG hr => ?_)
 unfold g_zisi at hG
 split at hG
 ·rename_i a0n a0f a0 a1n a1f a1
  injection hG with hG; subst hG
  exact ⟨none, true, win default ((raw_zisi a0n a0f a0 a1n a1f a1).trans (DT.go_run _ _)) hr⟩
 ·cases hG
abbrev cx_zypm : Cx := mkCx2 tyTab [(123, g_zbrd)] [] [] []
theorem rdy_zypm : Ready Try.prog tyTab [(123, g_zbrd)] [] [] := ⟨consG2 zbrd_ok (noneG2), noneI2, noneF2⟩
structure S.zypm_T where
 x0 : Bool
 deriving Inhabited
def S.zypm_R (a0_0 : ByteArray) (a0_1 : List (Ty .op)) (a0_2 : Int) (a0_3 : Int) (a0_4 : Bool) (a0_5 : ByteArray) (a0_6 : List (Ty .op)) (a1_0 : ByteArray) (a1_1 : List (Ty .op)) (a1_2 : Int) (a1_3 : Int) (a1_4 : Bool) (a1_5 : ByteArray) (a1_6 : List (Ty .op)) : DT S.zypm_T :=
(.br (xdec (a0_0 = a1_0))
(.br (xdec (a0_5 = a1_5))
(.br (a0_4 == a1_4)
(.br (xeqI a0_2 a1_2)
(.br (xeqI a0_3 a1_3)
(.br (S.zbrd_is a0_1 a1_1)
(.br ((S.zbrd_o a0_1 a1_1).x0)
(.br (S.zbrd_is a0_6 a1_6)
(.leaf ⟨(S.zbrd_o a0_6 a1_6).x0⟩)
.fail)
(.leaf ⟨false⟩))
.fail)
(.leaf ⟨false⟩))
(.leaf ⟨false⟩))
(.leaf ⟨false⟩))
(.leaf ⟨false⟩))
(.leaf ⟨false⟩))
def S.zypm (a0_0 : ByteArray) (a0_1 : List (Ty .op)) (a0_2 : Int) (a0_3 : Int) (a0_4 : Bool) (a0_5 : ByteArray) (a0_6 : List (Ty .op)) (a1_0 : ByteArray) (a1_1 : List (Ty .op)) (a1_2 : Int) (a1_3 : Int) (a1_4 : Bool) (a1_5 : ByteArray) (a1_6 : List (Ty .op)) : Option S.zypm_T := (S.zypm_R a0_0 a0_1 a0_2 a0_3 a0_4 a0_5 a0_6 a1_0 a1_1 a1_2 a1_3 a1_4 a1_5 a1_6).run
def S.zypm_is (a0_0 : ByteArray) (a0_1 : List (Ty .op)) (a0_2 : Int) (a0_3 : Int) (a0_4 : Bool) (a0_5 : ByteArray) (a0_6 : List (Ty .op)) (a1_0 : ByteArray) (a1_1 : List (Ty .op)) (a1_2 : Int) (a1_3 : Int) (a1_4 : Bool) (a1_5 : ByteArray) (a1_6 : List (Ty .op)) : Bool := (S.zypm a0_0 a0_1 a0_2 a0_3 a0_4 a0_5 a0_6 a1_0 a1_1 a1_2 a1_3 a1_4 a1_5 a1_6).isSome
def S.zypm_o (a0_0 : ByteArray) (a0_1 : List (Ty .op)) (a0_2 : Int) (a0_3 : Int) (a0_4 : Bool) (a0_5 : ByteArray) (a0_6 : List (Ty .op)) (a1_0 : ByteArray) (a1_1 : List (Ty .op)) (a1_2 : Int) (a1_3 : Int) (a1_4 : Bool) (a1_5 : ByteArray) (a1_6 : List (Ty .op)) : S.zypm_T := (S.zypm a0_0 a0_1 a0_2 a0_3 a0_4 a0_5 a0_6 a1_0 a1_1 a1_2 a1_3 a1_4 a1_5 a1_6).getD default
def ret_zypm (b : Bool) (r : S.zypm_T) : Ret := ⟨b, none, [(false, [C.d (.sc (.bool r.x0))])]⟩
def g_zypm : Con
 | [(true, [.sc (.str a0_0), .sl a0_1n a0_1f .op a0_1, .sc (.int .i64 a0_2), .sc (.int .i64 a0_3), .sc (.bool a0_4), .sc (.str a0_5), .sl a0_6n a0_6f .op a0_6]), (true, [.sc (.str a1_0), .sl a1_1n a1_1f .op a1_1, .sc (.int .i64 a1_2), .sc (.int .i64 a1_3), .sc (.bool a1_4), .sc (.str a1_5), .sl a1_6n a1_6f .op a1_6])] => some (ret_zypm (S.zypm_is a0_0 a0_1 a0_2 a0_3 a0_4 a0_5 a0_6 a1_0 a1_1 a1_2 a1_3 a1_4 a1_5 a1_6) (S.zypm_o a0_0 a0_1 a0_2 a0_3 a0_4 a0_5 a0_6 a1_0 a1_1 a1_2 a1_3 a1_4 a1_5 a1_6))
 | _ => none
theorem raw_zypm (a0_0 : ByteArray) (a0_1n : Option Bool) (a0_1f : Bool) (a0_1 : List (Ty .op)) (a0_2 : Int) (a0_3 : Int) (a0_4 : Bool) (a0_5 : ByteArray) (a0_6n : Option Bool) (a0_6f : Bool) (a0_6 : List (Ty .op)) (a1_0 : ByteArray) (a1_1n : Option Bool) (a1_1f : Bool) (a1_1 : List (Ty .op)) (a1_2 : Int) (a1_3 : Int) (a1_4 : Bool) (a1_5 : ByteArray) (a1_6n : Option Bool) (a1_6f : Bool) (a1_6 : List (Ty .op)) : evR2 cx_zypm (hdI cx_zypm (find []) [] none 0) none Try.f158 158 none [(true, [.sc (.str a0_0), .sl a0_1n a0_1f .op a0_1, .sc (.int .i64 a0_2), .sc (.int .i64 a0_3), .sc (.bool a0_4), .sc (.str a0_5), .sl a0_6n a0_6f .op a0_6]), (true, [.sc (.str a1_0), .sl a1_1n a1_1f .op a1_1, .sc (.int .i64 a1_2), .sc (.int .i64 a1_3), .sc (.bool a1_4), .sc (.str a1_5), .sl a1_6n a1_6f .op a1_6])] some = (S.zypm_R a0_0 a0_1 a0_2 a0_3 a0_4 a0_5 a0_6 a1_0 a1_1 a1_2 a1_3 a1_4 a1_5 a1_6).go (ret_zypm true) := by kernel_rfl
theorem bs_zypm : loopsIn Try.f158 [] = [] := by kernel_rfl
theorem zypm_ok : Stands Try.prog tyTab 158 g_zypm := by
 refine stands3 (L := find []) (n := 0) (hints := []) (cx_ok rfl) rdy_zypm ⟨by kernel_rfl, by kernel_rfl, by kernel_rfl⟩ bs_zypm nilB (fun das r hG hr => ?_)
 unfold g_zypm at hG
 split at hG
 ·rename_i a0_0 a0_1n a0_1f a0_1 a0_2 a0_3 a0_4 a0_5 a0_6n a0_6f a0_6 a1_0 a1_1n a1_1f a1_1 a1_2 a1_3 a1_4 a1_5 a1_6n a1_6f a1_6
  injection hG with hG; subst hG
  exact ⟨none, true, win default ((raw_zypm a0_0 a0_1n a0_1f a0_1 a0_2 a0_3 a0_4 a0_5 a0_6n a0_6f a0_6 a1_0 a1_1n a1_1f a1_1 a1_2 a1_3 a1_4 a1_5 a1_6n a1_6f a1_6).trans (DT.go_run _ _)) hr⟩
 ·cases hG
abbrev cx_z4fy : Cx := mkCx2 tyTab [(158, g_zypm)] [] [(157, 4, { keep := [1, 2, 15, 16, 17], acc := [] })] []
theorem rdy_z4fy : Ready Try.prog tyTab [(158, g_zypm)] [] [] := ⟨consG2 zypm_ok (noneG2), noneI2, noneF2⟩
structure S.z4fy_4_V where
 t17_ : Int
def S.z4fy_4_R (qB : List (Ty .step)) (qH : List (Ty .step)) (qI : Int) (v : S.z4fy_4_V) : DT (Option Nat × S.z4fy_4_V) :=
let y0 : Bool := xdec (0 ≤ v.t17_)
let y1 : Ty .step := qH.getD v.t17_.toNat (dflt .step)
let y2 : ByteArray := y1.name
let y3 : List Opn := y1.ifs
let y4 : Int := y1.min
let y5 : Int := y1.max
let y6 : Bool := y1.guard
let y7 : ByteArray := y1.notName
let y8 : List Opn := y1.notIf
let y9 : Ty .step := qB.getD v.t17_.toNat (dflt .step)
let y10 : ByteArray := y9.name
let y11 : List Opn := y9.ifs
let y12 : Int := y9.min
let y13 : Int := y9.max
let y14 : Bool := y9.guard
let y15 : ByteArray := y9.notName
let y16 : List Opn := y9.notIf
(.br (xdec (v.t17_ < qI))
(.br (y0 && xdec (v.t17_ < (↑qH.length : Int)))
(.br (y0 && xdec (v.t17_ < (↑qB.length : Int)))
(.br (S.zypm_is y2 y3 y4 y5 y6 y7 y8 y10 y11 y12 y13 y14 y15 y16)
(.br (xnot (S.zypm_o y2 y3 y4 y5 y6 y7 y8 y10 y11 y12 y13 y14 y15 y16).x0)
(.leaf (some 0, v))
(.leaf (none, ⟨xwrap .i64 (v.t17_ + 1)⟩)))
.fail)
.fail)
.fail)
(.leaf (some 1, v)))
def S.z4fy_4_r (qB : List (Ty .step)) (qH : List (Ty .step)) (qI : Int) (v : S.z4fy_4_V) : Option (Option Nat × S.z4fy_4_V) := (S.z4fy_4_R qB qH qI v).run
def S.z4fy_4_j (qB : List (Ty .step)) (qH : List (Ty .step)) (qI : Int) (v : S.z4fy_4_V) (j : Nat) : Bool := Lp_j (S.z4fy_4_r qB qH qI) v j
def S.z4fy_4_v (qB : List (Ty .step)) (qH : List (Ty .step)) (qI : Int) (v : S.z4fy_4_V) : S.z4fy_4_V := Lp_v (S.z4fy_4_r qB qH qI) v
def mk_z4fy_4 (qF : Option Bool) (qG : Bool) (qB : List (Ty .step)) (qJ : Option Bool) (qK : Bool) (qH : List (Ty .step)) (qI : Int) (v : S.z4fy_4_V) : St := ⟨(V.any :: (V.v false [C.d (.sl qF qG .step qB)] :: (V.v false [C.d (D.fn 158 [] [])] :: (vs 12 (V.v false [C.d (.sl qJ qK .step qH)] :: ((cV qI) :: ((cV v.t17_) :: (vs 14 [])))))))), (ns 9 []), 0⟩
def ex_z4fy_4 (qF : Option Bool) (qG : Bool) (qB : List (Ty .step)) (qJ : Option Bool) (qK : Bool) (qH : List (Ty .step)) (qI : Int) (j : Nat) (v : S.z4fy_4_V) : Ex × St := match j with
 | 0 => (Ex.ret, ⟨(vs 6 (V.v false [C.d (.sc (.bool false))] :: (vs 25 []))), (ns 13 (some
  (Blk.box 47
   [C.d (.sc (.str (qH.getD v.t17_.toNat (dflt .step)).name)), C.d (.sl none false .op (qH.getD v.t17_.toNat (dflt .step)).ifs),
    (cI (qH.getD v.t17_.toNat (dflt .step)).min), (cI (qH.getD v.t17_.toNat (dflt .step)).max),
    C.d (.sc (.bool (qH.getD v.t17_.toNat (dflt .step)).guard)), C.d (.sc (.str (qH.getD v.t17_.toNat (dflt .step)).notName)),
    C.d (.sl none false .op (qH.getD v.t17_.toNat (dflt .step)).notIf)]) :: (ns 6 (some
  (Blk.box 47
   [C.d (.sc (.str (qB.getD v.t17_.toNat (dflt .step)).name)), C.d (.sl none false .op (qB.getD v.t17_.toNat (dflt .step)).ifs),
    (cI (qB.getD v.t17_.toNat (dflt .step)).min), (cI (qB.getD v.t17_.toNat (dflt .step)).max),
    C.d (.sc (.bool (qB.getD v.t17_.toNat (dflt .step)).guard)), C.d (.sc (.str (qB.getD v.t17_.toNat (dflt .step)).notName)),
    C.d (.sl none false .op (qB.getD v.t17_.toNat (dflt .step)).notIf)]) :: (ns 7 []))))), 0⟩)
 | 1 => (Ex.exit 0, ⟨(vs 32 []), (ns 10 []), 0⟩)
 | _ => (.ret, ⟨[], [], 0⟩)
def T1_z4fy_4 : V → V → V → V → V → Tree
 | V.v false [C.d (.sl qF qG .step qB)], V.v false [C.d (D.fn 158 [] [])], V.v false [C.d (.sl qJ qK .step qH)], V.v false [C.d (.sc (.int .i64 qI))], V.v false [C.d (.sc (.int .i64 t17_))] => exT (fun j => ex_z4fy_4 qF qG qB qJ qK qH qI j (S.z4fy_4_v qB qH qI ⟨t17_⟩)) (S.z4fy_4_j qB qH qI ⟨t17_⟩) [0, 1]
 | _, _, _, _, _ => .bad
def T_z4fy_4 (st : St) : Tree := bif okSt 32 9 0 [] st then T1_z4fy_4 (st.env.getD 1 .any) (st.env.getD 2 .any) (st.env.getD 15 .any) (st.env.getD 16 .any) (st.env.getD 17 .any) else .bad
def b_z4fy_4 : Code := loopBy Try.f157 4
theorem rnd_z4fy_4 (qF : Option Bool) (qG : Bool) (qB : List (Ty .step)) (qJ : Option Bool) (qK : Bool) (qH : List (Ty .step)) (qI : Int) (v : S.z4fy_4_V) : round2 cx_z4fy (hdI cx_z4fy (find []) [] none 0) 157 b_z4fy_4 [] 9 [6] (mk_z4fy_4 qF qG qB qJ qK qH qI v) = (S.z4fy_4_R qB qH qI v).go (roundOut (mk_z4fy_4 qF qG qB qJ qK qH qI) (ex_z4fy_4 qF qG qB qJ qK qH qI)) := by kernel_rfl
theorem bs_z4fy_4 : loopsOf b_z4fy_4 ++ loopsInl [] = [] := by kernel_rfl
theorem ci_z4fy_4 (qF : Option Bool) (qG : Bool) (qB : List (Ty .step)) (qJ : Option Bool) (qK : Bool) (qH : List (Ty .step)) (qI : Int) : ∀ v j v2, Lp (S.z4fy_4_r qB qH qI) v = some (j, v2) → Circles Try.prog cx_z4fy b_z4fy_4 (mk_z4fy_4 qF qG qB qJ qK qH qI v) (ex_z4fy_4 qF qG qB qJ qK qH qI j v2).1 (ex_z4fy_4 qF qG qB qJ qK qH qI j v2).2 :=
 loop_ok2 (L := find []) (n := 0) (hints := [(157, 4, { keep := [1, 2, 15, 16, 17], acc := [] })]) (cx_ok rfl) rdy_z4fy bs_z4fy_4 nilB (fun v => (rnd_z4fy_4 qF qG qB qJ qK qH qI v).trans (DT.go_run _ _)) (by intro j v; unfold ex_z4fy_4; split <;> rfl)
theorem mke_z4fy_4 (qF : Option Bool) (qG : Bool) (qB : List (Ty .step)) (qJ : Option Bool) (qK : Bool) (qH : List (Ty .step)) (qI : Int) (v : S.z4fy_4_V) : mk_z4fy_4 qF qG qB qJ qK qH qI v = ⟨envOf 32 [(1, V.v false [C.d (.sl qF qG .step qB)]), (2, V.v false [C.d (D.fn 158 [] [])]), (15, V.v false [C.d (.sl qJ qK .step qH)]), (16, (cV qI)), (17, (cV v.t17_))], heapOf 9 [], 0⟩ := by kernel_rfl
theorem lo1_z4fy_4 (e1 : V) (e2 : V) (e15 : V) (e16 : V) (e17 : V)  e st2 (h : (T1_z4fy_4 e1 e2 e15 e16 e17).eval = some (e, st2)) : Circles Try.prog cx_z4fy b_z4fy_4 ⟨envOf 32 [(1, e1), (2, e2), (15, e15), (16, e16), (17, e17)], heapOf 9 [], 0⟩ e st2 := by
 unfold T1_z4fy_4 at h
 split at h
 ·have := loop_tree (mk := mk_z4fy_4 _ _ _ _ _ _ _) (ci_z4fy_4 _ _ _ _ _ _ _) _ _ e st2 h
  rw [mke_z4fy_4] at this
  exact this
 ·cases h
theorem lok_z4fy_4 : LoopOk Try.prog cx_z4fy b_z4fy_4 T_z4fy_4 := by
 intro st e st2 h
 unfold T_z4fy_4 at h
 cases hk : okSt 32 9 0 [] st with
 | false => rw [hk] at h; cases h
 | true =>
  rw [hk] at h
  exact circles_keep (ks := [1, 2, 15, 16, 17]) hk (lo1_z4fy_4 _ _ _ _ _ e st2 h)
structure S.z4fy_T where
 x0 : Bool
 deriving Inhabited
def S.z4fy_R (a0 : List (Ty .step)) (a1 : List (Ty .step)) : DT S.z4fy_T :=
let y0 : Int := (↑a0.length : Int)
let y1 : S.z4fy_4_V := { t17_ := 0 : S.z4fy_4_V }
(.br (xneI y0 (↑a1.length : Int))
(.leaf ⟨false⟩)
(.br (S.z4fy_4_j a1 a0 y0 y1 0)
(.leaf ⟨false⟩)
(.br (S.z4fy_4_j a1 a0 y0 y1 1)
(.leaf ⟨true⟩)
.fail)))
def S.z4fy (a0 : List (Ty .step)) (a1 : List (Ty .step)) : Option S.z4fy_T := (S.z4fy_R a0 a1).run
def S.z4fy_is (a0 : List (Ty .step)) (a1 : List (Ty .step)) : Bool := (S.z4fy a0 a1).isSome
def S.z4fy_o (a0 : List (Ty .step)) (a1 : List (Ty .step)) : S.z4fy_T := (S.z4fy a0 a1).getD default
def ret_z4fy (b : Bool) (r : S.z4fy_T) : Ret := ⟨b, none, [(false, [C.d (.sc (.bool r.x0))])]⟩
def g_z4fy : Con
 | [(false, [.sl a0n a0f .step a0]), (false, [.sl a1n a1f .step a1]), (false, [.fn 158 [] []])] => some (ret_z4fy (S.z4fy_is a0 a1) (S.z4fy_o a0 a1))
 | _ => none
theorem raw_z4fy (a0n : Option Bool) (a0f : Bool) (a0 : List (Ty .step)) (a1n : Option Bool) (a1f : Bool) (a1 : List (Ty .step)) : evR2 cx_z4fy (hdI cx_z4fy (find [(4, T_z4fy_4)]) [] none 0) none Try.f157 157 none [(false, [.sl a0n a0f .step a0]), (false, [.sl a1n a1f .step a1]), (false, [.fn 158 [] []])] some = (S.z4fy_R a0 a1).go (ret_z4fy true) := by kernel_rfl
theorem bs_z4fy : loopsIn Try.f157 [] = [b_z4fy_4] := by kernel_rfl
theorem z4fy_ok : Stands Try.prog tyTab 157 g_z4fy := by
 refine stands3 (L := find [(4, T_z4fy_4)]) (n := 0) (hints := [(157, 4, { keep := [1, 2, 15, 16, 17], acc := [] })]) (cx_ok rfl) rdy_z4fy ⟨by kernel_rfl, by kernel_rfl, by kernel_rfl⟩ bs_z4fy (consB (fun T h => by have e : T_z4fy_4 = T := Option.some.inj (show some T_z4fy_4 = some T from h); exact e ▸ lok_z4fy_4) nilB) (fun das r hG hr => ?_)
 unfold g_z4fy at hG
 split at hG
 ·rename_i a0n a0f a0 a1n a1f a1
  injection hG with hG; subst hG
  exact ⟨none, true, win default ((raw_z4fy a0n a0f a0 a1n a1f a1).trans (DT.go_run _ _)) hr⟩
 ·cases hG
abbrev cx_zvst : Cx := mkCx2 tyTab [(157, g_z4fy), (158, g_zypm)] [] [] []
theorem rdy_zvst : Ready Try.prog tyTab [(157, g_z4fy), (158, g_zypm)] [] [] := ⟨consG2 z4fy_ok (consG2 zypm_ok (noneG2)), noneI2, noneF2⟩
structure S.zvst_T where
 x0 : Bool
 deriving Inhabited
def S.zvst_R (a0_0 : List (Ty .step)) (a0_1 : Int) (a0_2 : Int) (a0_3 : Int) (a0_4 : Int) (a1_0 : List (Ty .step)) (a1_1 : Int) (a1_2 : Int) (a1_3 : Int) (a1_4 : Int) : DT S.zvst_T :=
(.br (xeqI a0_2 a1_2)
(.br (xeqI a0_3 a1_3)
(.br (xeqI a0_4 a1_4)
(.br (xeqI a0_1 a1_1)
(.br (S.z4fy_is a0_0 a1_0)
(.leaf ⟨(S.z4fy_o a0_0 a1_0).x0⟩)
.fail)
(.leaf ⟨false⟩))
(.leaf ⟨false⟩))
(.leaf ⟨false⟩))
(.leaf ⟨false⟩))
def S.zvst (a0_0 : List (Ty .step)) (a0_1 : Int) (a0_2 : Int) (a0_3 : Int) (a0_4 : Int) (a1_0 : List (Ty .step)) (a1_1 : Int) (a1_2 : Int) (a1_3 : Int) (a1_4 : Int) : Option S.zvst_T := (S.zvst_R a0_0 a0_1 a0_2 a0_3 a0_4 a1_0 a1_1 a1_2 a1_3 a1_4).run
def S.zvst_is (a0_0 : List (Ty .step)) (a0_1 : Int) (a0_2 : Int) (a0_3 : Int) (a0_4 : Int) (a1_0 : List (Ty .step)) (a1_1 : Int) (a1_2 : Int) (a1_3 : Int) (a1_4 : Int) : Bool := (S.zvst a0_0 a0_1 a0_2 a0_3 a0_4 a1_0 a1_1 a1_2 a1_3 a1_4).isSome
def S.zvst_o (a0_0 : List (Ty .step)) (a0_1 : Int) (a0_2 : Int) (a0_3 : Int) (a0_4 : Int) (a1_0 : List (Ty .step)) (a1_1 : Int) (a1_2 : Int) (a1_3 : Int) (a1_4 : Int) : S.zvst_T := (S.zvst a0_0 a0_1 a0_2 a0_3 a0_4 a1_0 a1_1 a1_2 a1_3 a1_4).getD default
def ret_zvst (b : Bool) (r : S.zvst_T) : Ret := ⟨b, none, [(false, [C.d (.sc (.bool r.x0))])]⟩
def g_zvst : Con
 | [(true, [.sl a0_0n a0_0f .step a0_0, .sc (.int .i64 a0_1), .sc (.int .i64 a0_2), .sc (.int .i64 a0_3), .sc (.int .i64 a0_4)]), (true, [.sl a1_0n a1_0f .step a1_0, .sc (.int .i64 a1_1), .sc (.int .i64 a1_2), .sc (.int .i64 a1_3), .sc (.int .i64 a1_4)])] => some (ret_zvst (S.zvst_is a0_0 a0_1 a0_2 a0_3 a0_4 a1_0 a1_1 a1_2 a1_3 a1_4) (S.zvst_o a0_0 a0_1 a0_2 a0_3 a0_4 a1_0 a1_1 a1_2 a1_3 a1_4))
 | _ => none
theorem raw_zvst (a0_0n : Option Bool) (a0_0f : Bool) (a0_0 : List (Ty .step)) (a0_1 : Int) (a0_2 : Int) (a0_3 : Int) (a0_4 : Int) (a1_0n : Option Bool) (a1_0f : Bool) (a1_0 : List (Ty .step)) (a1_1 : Int) (a1_2 : Int) (a1_3 : Int) (a1_4 : Int) : evR2 cx_zvst (hdI cx_zvst (find []) [] none 0) none Try.f131 131 none [(true, [.sl a0_0n a0_0f .step a0_0, .sc (.int .i64 a0_1), .sc (.int .i64 a0_2), .sc (.int .i64 a0_3), .sc (.int .i64 a0_4)]), (true, [.sl a1_0n a1_0f .step a1_0, .sc (.int .i64 a1_1), .sc (.int .i64 a1_2), .sc (.int .i64 a1_3), .sc (.int .i64 a1_4)])] some = (S.zvst_R a0_0 a0_1 a0_2 a0_3 a0_4 a1_0 a1_1 a1_2 a1_3 a1_4).go (ret_zvst true) := by kernel_rfl
theorem bs_zvst : loopsIn Try.f131 [] = [] := by kernel_rfl
theorem zvst_ok : Stands Try.prog tyTab 131 g_zvst := by
 refine stands3 (L := find []) (n := 0) (hints := []) (cx_ok rfl) rdy_zvst ⟨by kernel_rfl, by kernel_rfl, by kernel_rfl⟩ bs_zvst nilB (fun das r hG hr => ?_)
 unfold g_zvst at hG
 split at hG
 ·rename_i a0_0n a0_0f a0_0 a0_1 a0_2 a0_3 a0_4 a1_0n a1_0f a1_0 a1_1 a1_2 a1_3 a1_4
  injection hG with hG; subst hG
  exact ⟨none, true, win default ((raw_zvst a0_0n a0_0f a0_0 a0_1 a0_2 a0_3 a0_4 a1_0n a1_0f a1_0 a1_1 a1_2 a1_3 a1_4).trans (DT.go_run _ _)) hr⟩
 ·cases hG
abbrev cx_zi5w : Cx := mkCx2 tyTab [(131, g_zvst), (132, g_zisi)] [] [] []
theorem rdy_zi5w : Ready Try.prog tyTab [(131, g_zvst), (132, g_zisi)] [] [] := ⟨consG2 zvst_ok (consG2 zisi_ok (noneG2)), noneI2, noneF2⟩
structure S.zi5w_T where
 x0 : Bool
 deriving Inhabited
def S.zi5w_R (a0_0 : List (Ty .step)) (a0_1 : Int) (a0_2 : Int) (a0_3 : Int) (a0_4 : Int) (a0_5 : List (Ty .run)) (a0_6 : Int) (a1_0 : List (Ty .step)) (a1_1 : Int) (a1_2 : Int) (a1_3 : Int) (a1_4 : Int) (a1_5 : List (Ty .run)) (a1_6 : Int) : DT S.zi5w_T :=
(.br (S.zvst_is a0_0 a0_1 a0_2 a0_3 a0_4 a1_0 a1_1 a1_2 a1_3 a1_4)
(.br ((S.zvst_o a0_0 a0_1 a0_2 a0_3 a0_4 a1_0 a1_1 a1_2 a1_3 a1_4).x0)
(.br (xeqI a0_6 a1_6)
(.br (S.zisi_is a0_5 a1_5)
(.leaf ⟨(S.zisi_o a0_5 a1_5).x0⟩)
.fail)
(.leaf ⟨false⟩))
(.leaf ⟨false⟩))
.fail)
def S.zi5w (a0_0 : List (Ty .step)) (a0_1 : Int) (a0_2 : Int) (a0_3 : Int) (a0_4 : Int) (a0_5 : List (Ty .run)) (a0_6 : Int) (a1_0 : List (Ty .step)) (a1_1 : Int) (a1_2 : Int) (a1_3 : Int) (a1_4 : Int) (a1_5 : List (Ty .run)) (a1_6 : Int) : Option S.zi5w_T := (S.zi5w_R a0_0 a0_1 a0_2 a0_3 a0_4 a0_5 a0_6 a1_0 a1_1 a1_2 a1_3 a1_4 a1_5 a1_6).run
def S.zi5w_is (a0_0 : List (Ty .step)) (a0_1 : Int) (a0_2 : Int) (a0_3 : Int) (a0_4 : Int) (a0_5 : List (Ty .run)) (a0_6 : Int) (a1_0 : List (Ty .step)) (a1_1 : Int) (a1_2 : Int) (a1_3 : Int) (a1_4 : Int) (a1_5 : List (Ty .run)) (a1_6 : Int) : Bool := (S.zi5w a0_0 a0_1 a0_2 a0_3 a0_4 a0_5 a0_6 a1_0 a1_1 a1_2 a1_3 a1_4 a1_5 a1_6).isSome
def S.zi5w_o (a0_0 : List (Ty .step)) (a0_1 : Int) (a0_2 : Int) (a0_3 : Int) (a0_4 : Int) (a0_5 : List (Ty .run)) (a0_6 : Int) (a1_0 : List (Ty .step)) (a1_1 : Int) (a1_2 : Int) (a1_3 : Int) (a1_4 : Int) (a1_5 : List (Ty .run)) (a1_6 : Int) : S.zi5w_T := (S.zi5w a0_0 a0_1 a0_2 a0_3 a0_4 a0_5 a0_6 a1_0 a1_1 a1_2 a1_3 a1_4 a1_5 a1_6).getD default
def ret_zi5w (b : Bool) (r : S.zi5w_T) : Ret := ⟨b, none, [(false, [C.d (.sc (.bool r.x0))])]⟩
def g_zi5w : Con
 | [(true, [.sl a0_0n a0_0f .step a0_0, .sc (.int .i64 a0_1), .sc (.int .i64 a0_2), .sc (.int .i64 a0_3), .sc (.int .i64 a0_4), .sl a0_5n a0_5f .run a0_5, .sc (.int .i64 a0_6)]), (true, [.sl a1_0n a1_0f .step a1_0, .sc (.int .i64 a1_1), .sc (.int .i64 a1_2), .sc (.int .i64 a1_3), .sc (.int .i64 a1_4), .sl a1_5n a1_5f .run a1_5, .sc (.int .i64 a1_6)])] => some (ret_zi5w (S.zi5w_is a0_0 a0_1 a0_2 a0_3 a0_4 a0_5 a0_6 a1_0 a1_1 a1_2 a1_3 a1_4 a1_5 a1_6) (S.zi5w_o a0_0 a0_1 a0_2 a0_3 a0_4 a0_5 a0_6 a1_0 a1_1 a1_2 a1_3 a1_4 a1_5 a1_6))
 | _ => none
theorem raw_zi5w (a0_0n : Option Bool) (a0_0f : Bool) (a0_0 : List (Ty .step)) (a0_1 : Int) (a0_2 : Int) (a0_3 : Int) (a0_4 : Int) (a0_5n : Option Bool) (a0_5f : Bool) (a0_5 : List (Ty .run)) (a0_6 : Int) (a1_0n : Option Bool) (a1_0f : Bool) (a1_0 : List (Ty .step)) (a1_1 : Int) (a1_2 : Int) (a1_3 : Int) (a1_4 : Int) (a1_5n : Option Bool) (a1_5f : Bool) (a1_5 : List (Ty .run)) (a1_6 : Int) : evR2 cx_zi5w (hdI cx_zi5w (find []) [] none 0) none Try.f98 98 none [(true, [.sl a0_0n a0_0f .step a0_0, .sc (.int .i64 a0_1), .sc (.int .i64 a0_2), .sc (.int .i64 a0_3), .sc (.int .i64 a0_4), .sl a0_5n a0_5f .run a0_5, .sc (.int .i64 a0_6)]), (true, [.sl a1_0n a1_0f .step a1_0, .sc (.int .i64 a1_1), .sc (.int .i64 a1_2), .sc (.int .i64 a1_3), .sc (.int .i64 a1_4), .sl a1_5n a1_5f .run a1_5, .sc (.int .i64 a1_6)])] some = (S.zi5w_R a0_0 a0_1 a0_2 a0_3 a0_4 a0_5 a0_6 a1_0 a1_1 a1_2 a1_3 a1_4 a1_5 a1_6).go (ret_zi5w true) := by kernel_rfl
theorem bs_zi5w : loopsIn Try.f98 [] = [] := by kernel_rfl
theorem zi5w_ok : Stands Try.prog tyTab 98 g_zi5w := by
 refine stands3 (L := find []) (n := 0) (hints := []) (cx_ok rfl) rdy_zi5w ⟨by kernel_rfl, by kernel_rfl, by kernel_rfl⟩ bs_zi5w nilB (fun das r hG hr => ?_)
 unfold g_zi5w at hG
 split at hG
 ·rename_i a0_0n a0_0f a0_0 a0_1 a0_2 a0_3 a0_4 a0_5n a0_5f a0_5 a0_6 a1_0n a1_0f a1_0 a1_1 a1_2 a1_3 a1_4 a1_5n a1_5f a1_5 a1_6
  injection hG with hG; subst hG
  exact ⟨none, true, win default ((raw_zi5w a0_0n a0_0f a0_0 a0_1 a0_2 a0_3 a0_4 a0_5n a0_5f a0_5 a0_6 a1_0n a1_0f a1_0 a1_1 a1_2 a1_3 a1_4 a1_5n a1_5f a1_5 a1_6).trans (DT.go_run _ _)) hr⟩
 ·cases hG
abbrev cx_zqwq : Cx := mkCx2 tyTab [] [] [(81, 4, { keep := [0, 1, 5], acc := [] })] []
theorem rdy_zqwq : Ready Try.prog tyTab [] [] [] := ⟨noneG2, noneI2, noneF2⟩
structure S.zqwq_4_V where
 t5_ : Int
def S.zqwq_4_R (qA : List (Ty .op)) (qB : List (Ty .op)) (v : S.zqwq_4_V) : DT (Option Nat × S.zqwq_4_V) :=
let y0 : Bool := xdec (v.t5_ < (↑qA.length : Int))
let y1 : Bool := xdec (0 ≤ v.t5_)
let y2 : Ty .op := qA.getD v.t5_.toNat (dflt .op)
let y3 : Ty .op := qB.getD v.t5_.toNat (dflt .op)
let y4 : Val := y2.v
let y5 : Val := y3.v
(.br (y0)
(.br (y1 && y0)
(.br (y1 && xdec (v.t5_ < (↑qB.length : Int)))
(.br (bif xeqI y2.code y3.code && (xeqI y2.arg y3.arg && (xeqI y4.kind y5.kind && (xeqI y4.n y5.n && xdec (y4.s = y5.s)))) then false else true)
(.leaf (some 0, v))
(.leaf (none, ⟨xwrap .i64 (v.t5_ + 1)⟩)))
.fail)
.fail)
(.leaf (some 1, v)))
def S.zqwq_4_r (qA : List (Ty .op)) (qB : List (Ty .op)) (v : S.zqwq_4_V) : Option (Option Nat × S.zqwq_4_V) := (S.zqwq_4_R qA qB v).run
def S.zqwq_4_j (qA : List (Ty .op)) (qB : List (Ty .op)) (v : S.zqwq_4_V) (j : Nat) : Bool := Lp_j (S.zqwq_4_r qA qB) v j
def S.zqwq_4_v (qA : List (Ty .op)) (qB : List (Ty .op)) (v : S.zqwq_4_V) : S.zqwq_4_V := Lp_v (S.zqwq_4_r qA qB) v
def mk_zqwq_4 (qD : Option Bool) (qE : Bool) (qA : List (Ty .op)) (qF : Option Bool) (qG : Bool) (qB : List (Ty .op)) (v : S.zqwq_4_V) : St := ⟨(V.v false [C.d (.sl qD qE .op qA)] :: (V.v false [C.d (.sl qF qG .op qB)] :: (vs 3 ((cV v.t5_) :: (vs 20 []))))), (ns 7 []), 0⟩
def ex_zqwq_4 (qD : Option Bool) (qE : Bool) (qA : List (Ty .op)) (qF : Option Bool) (qG : Bool) (qB : List (Ty .op)) (j : Nat) (v : S.zqwq_4_V) : Ex × St := match j with
 | 0 => (Ex.ret, ⟨(vs 4 (V.v false [C.d (.sc (.bool false))] :: (vs 21 []))), (ns 21 []), 0⟩)
 | 1 => (Ex.exit 0, ⟨(vs 26 []), (ns 11 []), 0⟩)
 | _ => (.ret, ⟨[], [], 0⟩)
def T1_zqwq_4 : V → V → V → Tree
 | V.v false [C.d (.sl qD qE .op qA)], V.v false [C.d (.sl qF qG .op qB)], V.v false [C.d (.sc (.int .i64 t5_))] => exT (fun j => ex_zqwq_4 qD qE qA qF qG qB j (S.zqwq_4_v qA qB ⟨t5_⟩)) (S.zqwq_4_j qA qB ⟨t5_⟩) [0, 1]
 | _, _, _ => .bad
def T_zqwq_4 (st : St) : Tree := bif okSt 26 7 0 [] st then T1_zqwq_4 (st.env.getD 0 .any) (st.env.getD 1 .any) (st.env.getD 5 .any) else .bad
def b_zqwq_4 : Code := loopBy Try.f81 4
theorem rnd_zqwq_4 (qD : Option Bool) (qE : Bool) (qA : List (Ty .op)) (qF : Option Bool) (qG : Bool) (qB : List (Ty .op)) (v : S.zqwq_4_V) : round2 cx_zqwq (hdI cx_zqwq (find []) [] none 0) 81 b_zqwq_4 [] 7 [4] (mk_zqwq_4 qD qE qA qF qG qB v) = (S.zqwq_4_R qA qB v).go (roundOut (mk_zqwq_4 qD qE qA qF qG qB) (ex_zqwq_4 qD qE qA qF qG qB)) := by kernel_rfl
theorem bs_zqwq_4 : loopsOf b_zqwq_4 ++ loopsInl [] = [] := by kernel_rfl
theorem ci_zqwq_4 (qD : Option Bool) (qE : Bool) (qA : List (Ty .op)) (qF : Option Bool) (qG : Bool) (qB : List (Ty .op)) : ∀ v j v2, Lp (S.zqwq_4_r qA qB) v = some (j, v2) → Circles Try.prog cx_zqwq b_zqwq_4 (mk_zqwq_4 qD qE qA qF qG qB v) (ex_zqwq_4 qD qE qA qF qG qB j v2).1 (ex_zqwq_4 qD qE qA qF qG qB j v2).2 :=
 loop_ok2 (L := find []) (n := 0) (hints := [(81, 4, { keep := [0, 1, 5], acc := [] })]) (cx_ok rfl) rdy_zqwq bs_zqwq_4 nilB (fun v => (rnd_zqwq_4 qD qE qA qF qG qB v).trans (DT.go_run _ _)) (by intro j v; unfold ex_zqwq_4; split <;> rfl)
theorem mke_zqwq_4 (qD : Option Bool) (qE : Bool) (qA : List (Ty .op)) (qF : Option Bool) (qG : Bool) (qB : List (Ty .op)) (v : S.zqwq_4_V) : mk_zqwq_4 qD qE qA qF qG qB v = ⟨envOf 26 [(0, V.v false [C.d (.sl qD qE .op qA)]), (1, V.v false [C.d (.sl qF qG .op qB)]), (5, (cV v.t5_))], heapOf 7 [], 0⟩ := by kernel_rfl
theorem lo1_zqwq_4 (e0 : V) (e1 : V) (e5 : V)  e st2 (h : (T1_zqwq_4 e0 e1 e5).eval = some (e, st2)) : Circles Try.prog cx_zqwq b_zqwq_4 ⟨envOf 26 [(0, e0), (1, e1), (5, e5)], heapOf 7 [], 0⟩ e st2 := by
 unfold T1_zqwq_4 at h
 split at h
 ·have := loop_tree (mk := mk_zqwq_4 _ _ _ _ _ _) (ci_zqwq_4 _ _ _ _ _ _) _ _ e st2 h
  rw [mke_zqwq_4] at this
  exact this
 ·cases h
theorem lok_zqwq_4 : LoopOk Try.prog cx_zqwq b_zqwq_4 T_zqwq_4 := by
 intro st e st2 h
 unfold T_zqwq_4 at h
 cases hk : okSt 26 7 0 [] st with
 | false => rw [hk] at h; cases h
 | true =>
  rw [hk] at h
  exact circles_keep (ks := [0, 1, 5]) hk (lo1_zqwq_4 _ _ _ e st2 h)
structure S.zqwq_T where
 x0 : Bool
 deriving Inhabited
def S.zqwq_R (a0 : List (Ty .op)) (a1 : List (Ty .op)) : DT S.zqwq_T :=
let y0 : S.zqwq_4_V := { t5_ := 0 : S.zqwq_4_V }
(.br (xneI (↑a0.length : Int) (↑a1.length : Int))
(.leaf ⟨false⟩)
(.br (S.zqwq_4_j a0 a1 y0 0)
(.leaf ⟨false⟩)
(.br (S.zqwq_4_j a0 a1 y0 1)
(.leaf ⟨true⟩)
.fail)))
def S.zqwq (a0 : List (Ty .op)) (a1 : List (Ty .op)) : Option S.zqwq_T := (S.zqwq_R a0 a1).run
def S.zqwq_is (a0 : List (Ty .op)) (a1 : List (Ty .op)) : Bool := (S.zqwq a0 a1).isSome
def S.zqwq_o (a0 : List (Ty .op)) (a1 : List (Ty .op)) : S.zqwq_T := (S.zqwq a0 a1).getD default
def ret_zqwq (b : Bool) (r : S.zqwq_T) : Ret := ⟨b, none, [(false, [C.d (.sc (.bool r.x0))])]⟩
def g_zqwq : Con
 | [(false, [.sl a0n a0f .op a0]), (false, [.sl a1n a1f .op a1])] => some (ret_zqwq (S.zqwq_is a0 a1) (S.zqwq_o a0 a1))
 | _ => none
theorem raw_zqwq (a0n : Option Bool) (a0f : Bool) (a0 : List (Ty .op)) (a1n : Option Bool) (a1f : Bool) (a1 : List (Ty .op)) : evR2 cx_zqwq (hdI cx_zqwq (find [(4, T_zqwq_4)]) [] none 0) none Try.f81 81 none [(false, [.sl a0n a0f .op a0]), (false, [.sl a1n a1f .op a1])] some = (S.zqwq_R a0 a1).go (ret_zqwq true) := by kernel_rfl
theorem bs_zqwq : loopsIn Try.f81 [] = [b_zqwq_4] := by kernel_rfl
theorem zqwq_ok : Stands Try.prog tyTab 81 g_zqwq := by
 refine stands3 (L := find [(4, T_zqwq_4)]) (n := 0) (hints := [(81, 4, { keep := [0, 1, 5], acc := [] })]) (cx_ok rfl) rdy_zqwq ⟨by kernel_rfl, by kernel_rfl, by kernel_rfl⟩ bs_zqwq (consB (fun T h => by have e : T_zqwq_4 = T := Option.some.inj (show some T_zqwq_4 = some T from h); exact e ▸ lok_zqwq_4) nilB) (fun das r hG hr => ?_)
 unfold g_zqwq at hG
 split at hG
 ·rename_i a0n a0f a0 a1n a1f a1
  injection hG with hG; subst hG
  exact ⟨none, true, win default ((raw_zqwq a0n a0f a0 a1n a1f a1).trans (DT.go_run _ _)) hr⟩
 ·cases hG
abbrev cx_zix7 : Cx := mkCx2 tyTab [(81, g_zqwq)] [] [(103, 4, { keep := [2, 3, 5], acc := [] })] []
theorem rdy_zix7 : Ready Try.prog tyTab [(81, g_zqwq)] [] [] := ⟨consG2 zqwq_ok (noneG2), noneI2, noneF2⟩
structure S.zix7_4_V where
 t5_ : Int
def S.zix7_4_R (qL : List (Ty .step)) (qM : List (Ty .step)) (v : S.zix7_4_V) : DT (Option Nat × S.zix7_4_V) :=
let y0 : Bool := xdec (v.t5_ < (↑qL.length : Int))
let y1 : Bool := xdec (0 ≤ v.t5_)
let y2 : Ty .step := qL.getD v.t5_.toNat (dflt .step)
let y3 : List Opn := y2.ifs
let y4 : Ty .step := qM.getD v.t5_.toNat (dflt .step)
let y5 : List Opn := y4.ifs
let y6 : List Opn := y2.notIf
let y7 : List Opn := y4.notIf
(.br (y0)
(.br (y1 && y0)
(.br (y1 && xdec (v.t5_ < (↑qM.length : Int)))
(.br (S.zqwq_is y3 y5)
(.br (S.zqwq_is y6 y7)
(.br (xnot (S.zqwq_o y3 y5).x0)
(.leaf (some 0, v))
(.br (xnot (S.zqwq_o y6 y7).x0)
(.leaf (some 0, v))
(.br (xnot (xdec (y2.name = y4.name)))
(.leaf (some 0, v))
(.br (xneI y2.min y4.min)
(.leaf (some 0, v))
(.br (xneI y2.max y4.max)
(.leaf (some 0, v))
(.br (bif y2.guard == y4.guard then false else true)
(.leaf (some 0, v))
(.br (xnot (xdec (y2.notName = y4.notName)))
(.leaf (some 0, v))
(.leaf (none, ⟨xwrap .i64 (v.t5_ + 1)⟩)))))))))
.fail)
.fail)
.fail)
.fail)
(.leaf (some 1, v)))
def S.zix7_4_r (qL : List (Ty .step)) (qM : List (Ty .step)) (v : S.zix7_4_V) : Option (Option Nat × S.zix7_4_V) := (S.zix7_4_R qL qM v).run
def S.zix7_4_j (qL : List (Ty .step)) (qM : List (Ty .step)) (v : S.zix7_4_V) (j : Nat) : Bool := Lp_j (S.zix7_4_r qL qM) v j
def S.zix7_4_v (qL : List (Ty .step)) (qM : List (Ty .step)) (v : S.zix7_4_V) : S.zix7_4_V := Lp_v (S.zix7_4_r qL qM) v
def mk_zix7_4 (qN : Option Bool) (qO : Bool) (qL : List (Ty .step)) (qP : Int) (qQ : Int) (qR : Int) (qS : Int) (qT : Option Bool) (qU : Bool) (qM : List (Ty .step)) (qV : Int) (qW : Int) (qX : Int) (qY : Int) (v : S.zix7_4_V) : St := ⟨(V.any :: (V.any :: (V.v false [C.ptr 0 0] :: (V.v false [C.ptr 1 0] :: (V.any :: ((cV v.t5_) :: (vs 107 []))))))), (some (Blk.box 45 [C.d (.sl qN qO .step qL), (cI qP), (cI qQ), (cI qR), (cI qS)]) :: (some (Blk.box 45 [C.d (.sl qT qU .step qM), (cI qV), (cI qW), (cI qX), (cI qY)]) :: (ns 37 []))), 0⟩
def ex_zix7_4 (qN : Option Bool) (qO : Bool) (qL : List (Ty .step)) (qP : Int) (qQ : Int) (qR : Int) (qS : Int) (qT : Option Bool) (qU : Bool) (qM : List (Ty .step)) (qV : Int) (qW : Int) (qX : Int) (qY : Int) (j : Nat) (v : S.zix7_4_V) : Ex × St := match j with
 | 0 => (Ex.ret, ⟨(vs 4 (V.v false [C.d (.sc (.bool false))] :: (vs 108 []))), (some
  (Blk.box 45
   [C.d (.sl qN qO .step qL), (cI qP), (cI qQ), (cI qR),
    (cI qS)]) :: (some
  (Blk.box 45
   [C.d (.sl qT qU .step qM), (cI qV), (cI qW), (cI qX),
    (cI qY)]) :: (ns 47 (some
  (Blk.box 47
   [C.d (.sc (.str (qL.getD v.t5_.toNat (dflt .step)).name)), C.d (.sl none false .op (qL.getD v.t5_.toNat (dflt .step)).ifs),
    (cI (qL.getD v.t5_.toNat (dflt .step)).min), (cI (qL.getD v.t5_.toNat (dflt .step)).max),
    C.d (.sc (.bool (qL.getD v.t5_.toNat (dflt .step)).guard)), C.d (.sc (.str (qL.getD v.t5_.toNat (dflt .step)).notName)),
    C.d (.sl none false .op (qL.getD v.t5_.toNat (dflt .step)).notIf)]) :: (ns 6 (some
  (Blk.box 47
   [C.d (.sc (.str (qM.getD v.t5_.toNat (dflt .step)).name)), C.d (.sl none false .op (qM.getD v.t5_.toNat (dflt .step)).ifs),
    (cI (qM.getD v.t5_.toNat (dflt .step)).min), (cI (qM.getD v.t5_.toNat (dflt .step)).max),
    C.d (.sc (.bool (qM.getD v.t5_.toNat (dflt .step)).guard)), C.d (.sc (.str (qM.getD v.t5_.toNat (dflt .step)).notName)),
    C.d (.sl none false .op (qM.getD v.t5_.toNat (dflt .step)).notIf)]) :: (ns 55 []))))))), 0⟩)
 | 1 => (Ex.exit 0, ⟨(vs 113 []), (some
  (Blk.box 45
   [C.d (.sl qN qO .step qL), (cI qP), (cI qQ), (cI qR),
    (cI qS)]) :: (some
  (Blk.box 45
   [C.d (.sl qT qU .step qM), (cI qV), (cI qW), (cI qX),
    (cI qY)]) :: (ns 42 []))), 0⟩)
 | _ => (.ret, ⟨[], [], 0⟩)
def T1_zix7_4 : V → V → V → Option Blk → Option Blk → Tree
 | V.v false [C.ptr 0 0], V.v false [C.ptr 1 0], V.v false [C.d (.sc (.int .i64 t5_))], some (Blk.box 45 [C.d (.sl qN qO .step qL), C.d (.sc (.int .i64 qP)), C.d (.sc (.int .i64 qQ)), C.d (.sc (.int .i64 qR)), C.d (.sc (.int .i64 qS))]), some (Blk.box 45 [C.d (.sl qT qU .step qM), C.d (.sc (.int .i64 qV)), C.d (.sc (.int .i64 qW)), C.d (.sc (.int .i64 qX)), C.d (.sc (.int .i64 qY))]) => exT (fun j => ex_zix7_4 qN qO qL qP qQ qR qS qT qU qM qV qW qX qY j (S.zix7_4_v qL qM ⟨t5_⟩)) (S.zix7_4_j qL qM ⟨t5_⟩) [0, 1]
 | _, _, _, _, _ => .bad
def T_zix7_4 (st : St) : Tree := bif okSt 113 39 0 [0, 1] st then T1_zix7_4 (st.env.getD 2 .any) (st.env.getD 3 .any) (st.env.getD 5 .any) (lk st.heap 0) (lk st.heap 1) else .bad
def b_zix7_4 : Code := loopBy Try.f103 4
theorem rnd_zix7_4 (qN : Option Bool) (qO : Bool) (qL : List (Ty .step)) (qP : Int) (qQ : Int) (qR : Int) (qS : Int) (qT : Option Bool) (qU : Bool) (qM : List (Ty .step)) (qV : Int) (qW : Int) (qX : Int) (qY : Int) (v : S.zix7_4_V) : round2 cx_zix7 (hdI cx_zix7 (find []) [] none 0) 103 b_zix7_4 [] 39 [4] (mk_zix7_4 qN qO qL qP qQ qR qS qT qU qM qV qW qX qY v) = (S.zix7_4_R qL qM v).go (roundOut (mk_zix7_4 qN qO qL qP qQ qR qS qT qU qM qV qW qX qY) (ex_zix7_4 qN qO qL qP qQ qR qS qT qU qM qV qW qX qY)) := by kernel_rfl
theorem bs_zix7_4 : loopsOf b_zix7_4 ++ loopsInl [] = [] := by kernel_rfl
theorem ci_zix7_4 (qN : Option Bool) (qO : Bool) (qL : List (Ty .step)) (qP : Int) (qQ : Int) (qR : Int) (qS : Int) (qT : Option Bool) (qU : Bool) (qM : List (Ty .step)) (qV : Int) (qW : Int) (qX : Int) (qY : Int) : ∀ v j v2, Lp (S.zix7_4_r qL qM) v = some (j, v2) → Circles Try.prog cx_zix7 b_zix7_4 (mk_zix7_4 qN qO qL qP qQ qR qS qT qU qM qV qW qX qY v) (ex_zix7_4 qN qO qL qP qQ qR qS qT qU qM qV qW qX qY j v2).1 (ex_zix7_4 qN qO qL qP qQ qR qS qT qU qM qV qW qX qY j v2).2 :=
 loop_ok2 (L := find []) (n := 0) (hints := [(103, 4, { keep := [2, 3, 5], acc := [] })]) (cx_ok rfl) rdy_zix7 bs_zix7_4 nilB (fun v => (rnd_zix7_4 qN qO qL qP qQ qR qS qT qU qM qV qW qX qY v).trans (DT.go_run _ _)) (by intro j v; unfold ex_zix7_4; split <;> rfl)
theorem mke_zix7_4 (qN : Option Bool) (qO : Bool) (qL : List (Ty .step)) (qP : Int) (qQ : Int) (qR : Int) (qS : Int) (qT : Option Bool) (qU : Bool) (qM : List (Ty .step)) (qV : Int) (qW : Int) (qX : Int) (qY : Int) (v : S.zix7_4_V) : mk_zix7_4 qN qO qL qP qQ qR qS qT qU qM qV qW qX qY v = ⟨envOf 113 [(2, V.v false [C.ptr 0 0]), (3, V.v false [C.ptr 1 0]), (5, (cV v.t5_))], heapOf 39 [(0, some
 (Blk.box 45
  [C.d (.sl qN qO .step qL), (cI qP), (cI qQ), (cI qR),
   (cI qS)])), (1, some
 (Blk.box 45
  [C.d (.sl qT qU .step qM), (cI qV), (cI qW), (cI qX),
   (cI qY)]))], 0⟩ := by kernel_rfl
theorem lo1_zix7_4 (e2 : V) (e3 : V) (e5 : V) (h0 : Option Blk) (h1 : Option Blk) e st2 (h : (T1_zix7_4 e2 e3 e5 h0 h1).eval = some (e, st2)) : Circles Try.prog cx_zix7 b_zix7_4 ⟨envOf 113 [(2, e2), (3, e3), (5, e5)], heapOf 39 [(0, h0), (1, h1)], 0⟩ e st2 := by
 unfold T1_zix7_4 at h
 split at h
 ·have := loop_tree (mk := mk_zix7_4 _ _ _ _ _ _ _ _ _ _ _ _ _ _) (ci_zix7_4 _ _ _ _ _ _ _ _ _ _ _ _ _ _) _ _ e st2 h
  rw [mke_zix7_4] at this
  exact this
 ·cases h
theorem lok_zix7_4 : LoopOk Try.prog cx_zix7 b_zix7_4 T_zix7_4 := by
 intro st e st2 h
 unfold T_zix7_4 at h
 cases hk : okSt 113 39 0 [0, 1] st with
 | false => rw [hk] at h; cases h
 | true =>
  rw [hk] at h
  exact circles_keep (ks := [2, 3, 5]) hk (lo1_zix7_4 _ _ _ _ _ e st2 h)
structure S.zix7_T where
 x0 : Bool
 deriving Inhabited
def S.zix7_R (a0_0 : List (Ty .step)) (a0_1 : Int) (a0_2 : Int) (a0_3 : Int) (a0_4 : Int) (a1_0 : List (Ty .step)) (a1_1 : Int) (a1_2 : Int) (a1_3 : Int) (a1_4 : Int) : DT S.zix7_T :=
let y0 : S.zix7_4_V := { t5_ := 0 : S.zix7_4_V }
(.br (xneI (↑a0_0.length : Int) (↑a1_0.length : Int))
(.leaf ⟨false⟩)
(.br (xneI a0_1 a1_1)
(.leaf ⟨false⟩)
(.br (xneI a0_2 a1_2)
(.leaf ⟨false⟩)
(.br (xneI a0_3 a1_3)
(.leaf ⟨false⟩)
(.br (xneI a0_4 a1_4)
(.leaf ⟨false⟩)
(.br (S.zix7_4_j a0_0 a1_0 y0 0)
(.leaf ⟨false⟩)
(.br (S.zix7_4_j a0_0 a1_0 y0 1)
(.leaf ⟨true⟩)
.fail)))))))
def S.zix7 (a0_0 : List (Ty .step)) (a0_1 : Int) (a0_2 : Int) (a0_3 : Int) (a0_4 : Int) (a1_0 : List (Ty .step)) (a1_1 : Int) (a1_2 : Int) (a1_3 : Int) (a1_4 : Int) : Option S.zix7_T := (S.zix7_R a0_0 a0_1 a0_2 a0_3 a0_4 a1_0 a1_1 a1_2 a1_3 a1_4).run
def S.zix7_is (a0_0 : List (Ty .step)) (a0_1 : Int) (a0_2 : Int) (a0_3 : Int) (a0_4 : Int) (a1_0 : List (Ty .step)) (a1_1 : Int) (a1_2 : Int) (a1_3 : Int) (a1_4 : Int) : Bool := (S.zix7 a0_0 a0_1 a0_2 a0_3 a0_4 a1_0 a1_1 a1_2 a1_3 a1_4).isSome
def S.zix7_o (a0_0 : List (Ty .step)) (a0_1 : Int) (a0_2 : Int) (a0_3 : Int) (a0_4 : Int) (a1_0 : List (Ty .step)) (a1_1 : Int) (a1_2 : Int) (a1_3 : Int) (a1_4 : Int) : S.zix7_T := (S.zix7 a0_0 a0_1 a0_2 a0_3 a0_4 a1_0 a1_1 a1_2 a1_3 a1_4).getD default
def ret_zix7 (b : Bool) (r : S.zix7_T) : Ret := ⟨b, none, [(false, [C.d (.sc (.bool r.x0))])]⟩
def g_zix7 : Con
 | [(true, [.sl a0_0n a0_0f .step a0_0, .sc (.int .i64 a0_1), .sc (.int .i64 a0_2), .sc (.int .i64 a0_3), .sc (.int .i64 a0_4)]), (true, [.sl a1_0n a1_0f .step a1_0, .sc (.int .i64 a1_1), .sc (.int .i64 a1_2), .sc (.int .i64 a1_3), .sc (.int .i64 a1_4)])] => some (ret_zix7 (S.zix7_is a0_0 a0_1 a0_2 a0_3 a0_4 a1_0 a1_1 a1_2 a1_3 a1_4) (S.zix7_o a0_0 a0_1 a0_2 a0_3 a0_4 a1_0 a1_1 a1_2 a1_3 a1_4))
 | _ => none
theorem raw_zix7 (a0_0n : Option Bool) (a0_0f : Bool) (a0_0 : List (Ty .step)) (a0_1 : Int) (a0_2 : Int) (a0_3 : Int) (a0_4 : Int) (a1_0n : Option Bool) (a1_0f : Bool) (a1_0 : List (Ty .step)) (a1_1 : Int) (a1_2 : Int) (a1_3 : Int) (a1_4 : Int) : evR2 cx_zix7 (hdI cx_zix7 (find [(4, T_zix7_4)]) [] none 0) none Try.f103 103 none [(true, [.sl a0_0n a0_0f .step a0_0, .sc (.int .i64 a0_1), .sc (.int .i64 a0_2), .sc (.int .i64 a0_3), .sc (.int .i64 a0_4)]), (true, [.sl a1_0n a1_0f .step a1_0, .sc (.int .i64 a1_1), .sc (.int .i64 a1_2), .sc (.int .i64 a1_3), .sc (.int .i64 a1_4)])] some = (S.zix7_R a0_0 a0_1 a0_2 a0_3 a0_4 a1_0 a1_1 a1_2 a1_3 a1_4).go (ret_zix7 true) := by kernel_rfl
theorem bs_zix7 : loopsIn Try.f103 [] = [b_zix7_4] := by kernel_rfl
theorem zix7_ok : Stands Try.prog tyTab 103 g_zix7 := by
 refine stands3 (L := find [(4, T_zix7_4)]) (n := 0) (hints := [(103, 4, { keep := [2, 3, 5], acc := [] })]) (cx_ok rfl) rdy_zix7 ⟨by kernel_rfl, by kernel_rfl, by kernel_rfl⟩ bs_zix7 (consB (fun T h => by have e : T_zix7_4 = T := Option.some.inj (show some T_zix7_4 = some T from h); exact e ▸ lok_zix7_4) nilB) (fun das r hG hr => ?_)
 unfold g_zix7 at hG
 split at hG
 ·rename_i a0_0n a0_0f a0_0 a0_1 a0_2 a0_3 a0_4 a1_0n a1_0f a1_0 a1_1 a1_2 a1_3 a1_4
  injection hG with hG; subst hG
  exact ⟨none, true, win default ((raw_zix7 a0_0n a0_0f a0_0 a0_1 a0_2 a0_3 a0_4 a1_0n a1_0f a1_0 a1_1 a1_2 a1_3 a1_4).trans (DT.go_run _ _)) hr⟩
 ·cases hG
abbrev cx_z2yo : Cx := mkCx2 tyTab [(103, g_zix7)] [] [(59, 5, { keep := [2, 3, 6], acc := [] })] []
theorem rdy_z2yo : Ready Try.prog tyTab [(103, g_zix7)] [] [] := ⟨consG2 zix7_ok (noneG2), noneI2, noneF2⟩
structure S.z2yo_5_V where
 t6_ : Int
def S.z2yo_5_R (qZ : List (Ty .run)) (rA : List (Ty .run)) (v : S.z2yo_5_V) : DT (Option Nat × S.z2yo_5_V) :=
let y0 : Bool := xdec (v.t6_ < (↑qZ.length : Int))
let y1 : Bool := xdec (0 ≤ v.t6_)
let y2 : Ty .run := qZ.getD v.t6_.toNat (dflt .run)
let y3 : Ty .run := rA.getD v.t6_.toNat (dflt .run)
(.br (y0)
(.br (y1 && y0)
(.br (y1 && xdec (v.t6_ < (↑rA.length : Int)))
(.br (bif xeqI y2.first y3.first && (xeqI y2.at_ y3.at_ && (xeqI y2.step y3.step && (xeqI y2.n y3.n && (xeqI y2.many y3.many && (xeqI y2.agg y3.agg && xeqB y2.bad y3.bad))))) then false
else true)
(.leaf (some 0, v))
(.leaf (none, ⟨xwrap .i64 (v.t6_ + 1)⟩)))
.fail)
.fail)
(.leaf (some 1, v)))
def S.z2yo_5_r (qZ : List (Ty .run)) (rA : List (Ty .run)) (v : S.z2yo_5_V) : Option (Option Nat × S.z2yo_5_V) := (S.z2yo_5_R qZ rA v).run
def S.z2yo_5_j (qZ : List (Ty .run)) (rA : List (Ty .run)) (v : S.z2yo_5_V) (j : Nat) : Bool := Lp_j (S.z2yo_5_r qZ rA) v j
def S.z2yo_5_v (qZ : List (Ty .run)) (rA : List (Ty .run)) (v : S.z2yo_5_V) : S.z2yo_5_V := Lp_v (S.z2yo_5_r qZ rA) v
def mk_z2yo_5 (qN : Option Bool) (qO : Bool) (qL : List (Ty .step)) (qP : Int) (qQ : Int) (qR : Int) (qS : Int) (rB : Option Bool) (rC : Bool) (qZ : List (Ty .run)) (rD : Int) (qT : Option Bool) (qU : Bool) (qM : List (Ty .step)) (qV : Int) (qW : Int) (qX : Int) (qY : Int) (rE : Option Bool) (rF : Bool) (rA : List (Ty .run)) (rG : Int) (v : S.z2yo_5_V) : St := ⟨(V.any :: (V.any :: (V.v false [C.ptr 0 0] :: (V.v false [C.ptr 1 0] :: (V.any :: (V.any :: ((cV v.t6_) :: (vs 41 [])))))))), (some (Blk.box 71 [C.d (.sl qN qO .step qL), (cI qP), (cI qQ), (cI qR), (cI qS), C.d (.sl rB rC .run qZ), (cI rD)]) :: (some (Blk.box 71 [C.d (.sl qT qU .step qM), (cI qV), (cI qW), (cI qX), (cI qY), C.d (.sl rE rF .run rA), (cI rG)]) :: (ns 26 []))), 0⟩
def ex_z2yo_5 (qN : Option Bool) (qO : Bool) (qL : List (Ty .step)) (qP : Int) (qQ : Int) (qR : Int) (qS : Int) (rB : Option Bool) (rC : Bool) (qZ : List (Ty .run)) (rD : Int) (qT : Option Bool) (qU : Bool) (qM : List (Ty .step)) (qV : Int) (qW : Int) (qX : Int) (qY : Int) (rE : Option Bool) (rF : Bool) (rA : List (Ty .run)) (rG : Int) (j : Nat) (v : S.z2yo_5_V) : Ex × St := match j with
 | 0 => (Ex.ret, ⟨(vs 4 (V.v false [C.d (.sc (.bool false))] :: (vs 43 []))), (some
  (Blk.box 71
   [C.d (.sl qN qO .step qL), (cI qP), (cI qQ), (cI qR),
    (cI qS), C.d (.sl rB rC .run qZ), (cI rD)]) :: (some
  (Blk.box 71
   [C.d (.sl qT qU .step qM), (cI qV), (cI qW), (cI qX),
    (cI qY), C.d (.sl rE rF .run rA), (cI rG)]) :: (ns 43 []))), 0⟩)
 | 1 => (Ex.exit 0, ⟨(vs 48 []), (some
  (Blk.box 71
   [C.d (.sl qN qO .step qL), (cI qP), (cI qQ), (cI qR),
    (cI qS), C.d (.sl rB rC .run qZ), (cI rD)]) :: (some
  (Blk.box 71
   [C.d (.sl qT qU .step qM), (cI qV), (cI qW), (cI qX),
    (cI qY), C.d (.sl rE rF .run rA), (cI rG)]) :: (ns 31 []))), 0⟩)
 | _ => (.ret, ⟨[], [], 0⟩)
def T1_z2yo_5 : V → V → V → Option Blk → Option Blk → Tree
 | V.v false [C.ptr 0 0], V.v false [C.ptr 1 0], V.v false [C.d (.sc (.int .i64 t6_))], some (Blk.box 71 [C.d (.sl qN qO .step qL), C.d (.sc (.int .i64 qP)), C.d (.sc (.int .i64 qQ)), C.d (.sc (.int .i64 qR)), C.d (.sc (.int .i64 qS)), C.d (.sl rB rC .run qZ), C.d (.sc (.int .i64 rD))]), some (Blk.box 71 [C.d (.sl qT qU .step qM), C.d (.sc (.int .i64 qV)), C.d (.sc (.int .i64 qW)), C.d (.sc (.int .i64 qX)), C.d (.sc (.int .i64 qY)), C.d (.sl rE rF .run rA), C.d (.sc (.int .i64 rG))]) => exT (fun j => ex_z2yo_5 qN qO qL qP qQ qR qS rB rC qZ rD qT qU qM qV qW qX qY rE rF rA rG j (S.z2yo_5_v qZ rA ⟨t6_⟩)) (S.z2yo_5_j qZ rA ⟨t6_⟩) [0, 1]
 | _, _, _, _, _ => .bad
def T_z2yo_5 (st : St) : Tree := bif okSt 48 28 0 [0, 1] st then T1_z2yo_5 (st.env.getD 2 .any) (st.env.getD 3 .any) (st.env.getD 6 .any) (lk st.heap 0) (lk st.heap 1) else .bad
def b_z2yo_5 : Code := loopBy Try.f59 5
theorem rnd_z2yo_5 (qN : Option Bool) (qO : Bool) (qL : List (Ty .step)) (qP : Int) (qQ : Int) (qR : Int) (qS : Int) (rB : Option Bool) (rC : Bool) (qZ : List (Ty .run)) (rD : Int) (qT : Option Bool) (qU : Bool) (qM : List (Ty .step)) (qV : Int) (qW : Int) (qX : Int) (qY : Int) (rE : Option Bool) (rF : Bool) (rA : List (Ty .run)) (rG : Int) (v : S.z2yo_5_V) : round2 cx_z2yo (hdI cx_z2yo (find []) [] none 0) 59 b_z2yo_5 [] 28 [4] (mk_z2yo_5 qN qO qL qP qQ qR qS rB rC qZ rD qT qU qM qV qW qX qY rE rF rA rG v) = (S.z2yo_5_R qZ rA v).go (roundOut (mk_z2yo_5 qN qO qL qP qQ qR qS rB rC qZ rD qT qU qM qV qW qX qY rE rF rA rG) (ex_z2yo_5 qN qO qL qP qQ qR qS rB rC qZ rD qT qU qM qV qW qX qY rE rF rA rG)) := by kernel_rfl
theorem bs_z2yo_5 : loopsOf b_z2yo_5 ++ loopsInl [] = [] := by kernel_rfl
theorem ci_z2yo_5 (qN : Option Bool) (qO : Bool) (qL : List (Ty .step)) (qP : Int) (qQ : Int) (qR : Int) (qS : Int) (rB : Option Bool) (rC : Bool) (qZ : List (Ty .run)) (rD : Int) (qT : Option Bool) (qU : Bool) (qM : List (Ty .step)) (qV : Int) (qW : Int) (qX : Int) (qY : Int) (rE : Option Bool) (rF : Bool) (rA : List (Ty .run)) (rG : Int) : ∀ v j v2, Lp (S.z2yo_5_r qZ rA) v = some (j, v2) → Circles Try.prog cx_z2yo b_z2yo_5 (mk_z2yo_5 qN qO qL qP qQ qR qS rB rC qZ rD qT qU qM qV qW qX qY rE rF rA rG v) (ex_z2yo_5 qN qO qL qP qQ qR qS rB rC qZ rD qT qU qM qV qW qX qY rE rF rA rG j v2).1 (ex_z2yo_5 qN qO qL qP qQ qR qS rB rC qZ rD qT qU qM qV qW qX qY rE rF rA rG j v2).2 :=
 loop_ok2 (L := find []) (n := 0) (hints := [(59, 5, { keep := [2, 3, 6], acc := [] })]) (cx_ok rfl) rdy_z2yo bs_z2yo_5 nilB (fun v => (rnd_z2yo_5 qN qO qL qP qQ qR qS rB rC qZ rD qT qU qM qV qW qX qY rE rF rA rG v).trans (DT.go_run _ _)) (by intro j v; unfold ex_z2yo_5; split <;> rfl)
theorem mke_z2yo_5 (qN : Option Bool) (qO : Bool) (qL : List (Ty .step)) (qP : Int) (qQ : Int) (qR : Int) (qS : Int) (rB : Option Bool) (rC : Bool) (qZ : List (Ty .run)) (rD : Int) (qT : Option Bool) (qU : Bool) (qM : List (Ty .step)) (qV : Int) (qW : Int) (qX : Int) (qY : Int) (rE : Option Bool) (rF : Bool) (rA : List (Ty .run)) (rG : Int) (v : S.z2yo_5_V) : mk_z2yo_5 qN qO qL qP qQ qR qS rB rC qZ rD qT qU qM qV qW qX qY rE rF rA rG v = ⟨envOf 48 [(2, V.v false [C.ptr 0 0]), (3, V.v false [C.ptr 1 0]), (6, (cV v.t6_))], heapOf 28 [(0, some
 (Blk.box 71
  [C.d (.sl qN qO .step qL), (cI qP), (cI qQ), (cI qR),
   (cI qS), C.d (.sl rB rC .run qZ), (cI rD)])), (1, some
 (Blk.box 71
  [C.d (.sl qT qU .step qM), (cI qV), (cI qW), (cI qX),
   (cI qY), C.d (.sl rE rF .run rA), (cI rG)]))], 0⟩ := by kernel_rfl
theorem lo1_z2yo_5 (e2 : V) (e3 : V) (e6 : V) (h0 : Option Blk) (h1 : Option Blk) e st2 (h : (T1_z2yo_5 e2 e3 e6 h0 h1).eval = some (e, st2)) : Circles Try.prog cx_z2yo b_z2yo_5 ⟨envOf 48 [(2, e2), (3, e3), (6, e6)], heapOf 28 [(0, h0), (1, h1)], 0⟩ e st2 := by
 unfold T1_z2yo_5 at h
 split at h
 ·have := loop_tree (mk := mk_z2yo_5 _ _ _ _ _ _ _ _ _ _ _ _ _ _ _ _ _ _ _ _ _ _) (ci_z2yo_5 _ _ _ _ _ _ _ _ _ _ _ _ _ _ _ _ _ _ _ _ _ _) _ _ e st2 h
  rw [mke_z2yo_5] at this
  exact this
 ·cases h
theorem lok_z2yo_5 : LoopOk Try.prog cx_z2yo b_z2yo_5 T_z2yo_5 := by
 intro st e st2 h
 unfold T_z2yo_5 at h
 cases hk : okSt 48 28 0 [0, 1] st with
 | false => rw [hk] at h; cases h
 | true =>
  rw [hk] at h
  exact circles_keep (ks := [2, 3, 6]) hk (lo1_z2yo_5 _ _ _ _ _ e st2 h)
structure S.z2yo_T where
 x0 : Bool
 deriving Inhabited
def S.z2yo_R (a0_0 : List (Ty .step)) (a0_1 : Int) (a0_2 : Int) (a0_3 : Int) (a0_4 : Int) (a0_5 : List (Ty .run)) (a0_6 : Int) (a1_0 : List (Ty .step)) (a1_1 : Int) (a1_2 : Int) (a1_3 : Int) (a1_4 : Int) (a1_5 : List (Ty .run)) (a1_6 : Int) : DT S.z2yo_T :=
let y0 : S.z2yo_5_V := { t6_ := 0 : S.z2yo_5_V }
(.br (S.zix7_is a0_0 a0_1 a0_2 a0_3 a0_4 a1_0 a1_1 a1_2 a1_3 a1_4)
(.br (xnot (S.zix7_o a0_0 a0_1 a0_2 a0_3 a0_4 a1_0 a1_1 a1_2 a1_3 a1_4).x0)
(.leaf ⟨false⟩)
(.br (xneI a0_6 a1_6)
(.leaf ⟨false⟩)
(.br (xneI (↑a0_5.length : Int) (↑a1_5.length : Int))
(.leaf ⟨false⟩)
(.br (S.z2yo_5_j a0_5 a1_5 y0 0)
(.leaf ⟨false⟩)
(.br (S.z2yo_5_j a0_5 a1_5 y0 1)
(.leaf ⟨true⟩)
.fail)))))
.fail)
def S.z2yo (a0_0 : List (Ty .step)) (a0_1 : Int) (a0_2 : Int) (a0_3 : Int) (a0_4 : Int) (a0_5 : List (Ty .run)) (a0_6 : Int) (a1_0 : List (Ty .step)) (a1_1 : Int) (a1_2 : Int) (a1_3 : Int) (a1_4 : Int) (a1_5 : List (Ty .run)) (a1_6 : Int) : Option S.z2yo_T := (S.z2yo_R a0_0 a0_1 a0_2 a0_3 a0_4 a0_5 a0_6 a1_0 a1_1 a1_2 a1_3 a1_4 a1_5 a1_6).run
def S.z2yo_is (a0_0 : List (Ty .step)) (a0_1 : Int) (a0_2 : Int) (a0_3 : Int) (a0_4 : Int) (a0_5 : List (Ty .run)) (a0_6 : Int) (a1_0 : List (Ty .step)) (a1_1 : Int) (a1_2 : Int) (a1_3 : Int) (a1_4 : Int) (a1_5 : List (Ty .run)) (a1_6 : Int) : Bool := (S.z2yo a0_0 a0_1 a0_2 a0_3 a0_4 a0_5 a0_6 a1_0 a1_1 a1_2 a1_3 a1_4 a1_5 a1_6).isSome
def S.z2yo_o (a0_0 : List (Ty .step)) (a0_1 : Int) (a0_2 : Int) (a0_3 : Int) (a0_4 : Int) (a0_5 : List (Ty .run)) (a0_6 : Int) (a1_0 : List (Ty .step)) (a1_1 : Int) (a1_2 : Int) (a1_3 : Int) (a1_4 : Int) (a1_5 : List (Ty .run)) (a1_6 : Int) : S.z2yo_T := (S.z2yo a0_0 a0_1 a0_2 a0_3 a0_4 a0_5 a0_6 a1_0 a1_1 a1_2 a1_3 a1_4 a1_5 a1_6).getD default
def ret_z2yo (b : Bool) (r : S.z2yo_T) : Ret := ⟨b, none, [(false, [C.d (.sc (.bool r.x0))])]⟩
def g_z2yo : Con
 | [(true, [.sl a0_0n a0_0f .step a0_0, .sc (.int .i64 a0_1), .sc (.int .i64 a0_2), .sc (.int .i64 a0_3), .sc (.int .i64 a0_4), .sl a0_5n a0_5f .run a0_5, .sc (.int .i64 a0_6)]), (true, [.sl a1_0n a1_0f .step a1_0, .sc (.int .i64 a1_1), .sc (.int .i64 a1_2), .sc (.int .i64 a1_3), .sc (.int .i64 a1_4), .sl a1_5n a1_5f .run a1_5, .sc (.int .i64 a1_6)])] => some (ret_z2yo (S.z2yo_is a0_0 a0_1 a0_2 a0_3 a0_4 a0_5 a0_6 a1_0 a1_1 a1_2 a1_3 a1_4 a1_5 a1_6) (S.z2yo_o a0_0 a0_1 a0_2 a0_3 a0_4 a0_5 a0_6 a1_0 a1_1 a1_2 a1_3 a1_4 a1_5 a1_6))
 | _ => none
theorem raw_z2yo (a0_0n : Option Bool) (a0_0f : Bool) (a0_0 : List (Ty .step)) (a0_1 : Int) (a0_2 : Int) (a0_3 : Int) (a0_4 : Int) (a0_5n : Option Bool) (a0_5f : Bool) (a0_5 : List (Ty .run)) (a0_6 : Int) (a1_0n : Option Bool) (a1_0f : Bool) (a1_0 : List (Ty .step)) (a1_1 : Int) (a1_2 : Int) (a1_3 : Int) (a1_4 : Int) (a1_5n : Option Bool) (a1_5f : Bool) (a1_5 : List (Ty .run)) (a1_6 : Int) : evR2 cx_z2yo (hdI cx_z2yo (find [(5, T_z2yo_5)]) [] none 0) none Try.f59 59 none [(true, [.sl a0_0n a0_0f .step a0_0, .sc (.int .i64 a0_1), .sc (.int .i64 a0_2), .sc (.int .i64 a0_3), .sc (.int .i64 a0_4), .sl a0_5n a0_5f .run a0_5, .sc (.int .i64 a0_6)]), (true, [.sl a1_0n a1_0f .step a1_0, .sc (.int .i64 a1_1), .sc (.int .i64 a1_2), .sc (.int .i64 a1_3), .sc (.int .i64 a1_4), .sl a1_5n a1_5f .run a1_5, .sc (.int .i64 a1_6)])] some = (S.z2yo_R a0_0 a0_1 a0_2 a0_3 a0_4 a0_5 a0_6 a1_0 a1_1 a1_2 a1_3 a1_4 a1_5 a1_6).go (ret_z2yo true) := by kernel_rfl
theorem bs_z2yo : loopsIn Try.f59 [] = [b_z2yo_5] := by kernel_rfl
theorem z2yo_ok : Stands Try.prog tyTab 59 g_z2yo := by
 refine stands3 (L := find [(5, T_z2yo_5)]) (n := 0) (hints := [(59, 5, { keep := [2, 3, 6], acc := [] })]) (cx_ok rfl) rdy_z2yo ⟨by kernel_rfl, by kernel_rfl, by kernel_rfl⟩ bs_z2yo (consB (fun T h => by have e : T_z2yo_5 = T := Option.some.inj (show some T_z2yo_5 = some T from h); exact e ▸ lok_z2yo_5) nilB) (fun das r hG hr => ?_)
 unfold g_z2yo at hG
 split at hG
 ·rename_i a0_0n a0_0f a0_0 a0_1 a0_2 a0_3 a0_4 a0_5n a0_5f a0_5 a0_6 a1_0n a1_0f a1_0 a1_1 a1_2 a1_3 a1_4 a1_5n a1_5f a1_5 a1_6
  injection hG with hG; subst hG
  exact ⟨none, true, win default ((raw_z2yo a0_0n a0_0f a0_0 a0_1 a0_2 a0_3 a0_4 a0_5n a0_5f a0_5 a0_6 a1_0n a1_0f a1_0 a1_1 a1_2 a1_3 a1_4 a1_5n a1_5f a1_5 a1_6).trans (DT.go_run _ _)) hr⟩
 ·cases hG
abbrev cx_zgwp : Cx := mkCx2 tyTab [(36, g_z6c2)] [] [(60, 4, { keep := [0, 5], acc := [] })] []
theorem rdy_zgwp : Ready Try.prog tyTab [(36, g_z6c2)] [] [] := ⟨consG2 z6c2_ok (noneG2), noneI2, noneF2⟩
structure S.zgwp_4_V where
 t5_ : Int
def S.zgwp_4_R (qA : List (Ty .evt)) (v : S.zgwp_4_V) : DT (Option Nat × S.zgwp_4_V) :=
let y0 : Bool := xdec (v.t5_ < (↑qA.length : Int))
let y1 : Ty .evt := qA.getD v.t5_.toNat (dflt .evt)
let y2 : ByteArray := y1.name
let y3 : List Val := y1.v
(.br (y0)
(.br (xdec (0 ≤ v.t5_) && y0)
(.br (S.z6c2_is y2 y3)
(.br (xnot (S.z6c2_o y2 y3).x0)
(.leaf (some 0, v))
(.leaf (none, ⟨xwrap .i64 (v.t5_ + 1)⟩)))
.fail)
.fail)
(.leaf (some 1, v)))
def S.zgwp_4_r (qA : List (Ty .evt)) (v : S.zgwp_4_V) : Option (Option Nat × S.zgwp_4_V) := (S.zgwp_4_R qA v).run
def S.zgwp_4_j (qA : List (Ty .evt)) (v : S.zgwp_4_V) (j : Nat) : Bool := Lp_j (S.zgwp_4_r qA) v j
def S.zgwp_4_v (qA : List (Ty .evt)) (v : S.zgwp_4_V) : S.zgwp_4_V := Lp_v (S.zgwp_4_r qA) v
def mk_zgwp_4 (qD : Option Bool) (qE : Bool) (qA : List (Ty .evt)) (v : S.zgwp_4_V) : St := ⟨(V.v false [C.d (.sl qD qE .evt qA)] :: (vs 4 ((cV v.t5_) :: (vs 18 [])))), (ns 6 []), 0⟩
def ex_zgwp_4 (qD : Option Bool) (qE : Bool) (qA : List (Ty .evt)) (j : Nat) (v : S.zgwp_4_V) : Ex × St := match j with
 | 0 => (Ex.ret, ⟨(vs 4 (V.v false [C.d (.sc (.bool false))] :: (vs 19 []))), (ns 19 []), 0⟩)
 | 1 => (Ex.exit 0, ⟨(vs 24 []), (ns 10 []), 0⟩)
 | _ => (.ret, ⟨[], [], 0⟩)
def T1_zgwp_4 : V → V → Tree
 | V.v false [C.d (.sl qD qE .evt qA)], V.v false [C.d (.sc (.int .i64 t5_))] => exT (fun j => ex_zgwp_4 qD qE qA j (S.zgwp_4_v qA ⟨t5_⟩)) (S.zgwp_4_j qA ⟨t5_⟩) [0, 1]
 | _, _ => .bad
def T_zgwp_4 (st : St) : Tree := bif okSt 24 6 0 [] st then T1_zgwp_4 (st.env.getD 0 .any) (st.env.getD 5 .any) else .bad
def b_zgwp_4 : Code := loopBy Try.f60 4
theorem rnd_zgwp_4 (qD : Option Bool) (qE : Bool) (qA : List (Ty .evt)) (v : S.zgwp_4_V) : round2 cx_zgwp (hdI cx_zgwp (find []) [] none 0) 60 b_zgwp_4 [] 6 [4] (mk_zgwp_4 qD qE qA v) = (S.zgwp_4_R qA v).go (roundOut (mk_zgwp_4 qD qE qA) (ex_zgwp_4 qD qE qA)) := by kernel_rfl
theorem bs_zgwp_4 : loopsOf b_zgwp_4 ++ loopsInl [] = [] := by kernel_rfl
theorem ci_zgwp_4 (qD : Option Bool) (qE : Bool) (qA : List (Ty .evt)) : ∀ v j v2, Lp (S.zgwp_4_r qA) v = some (j, v2) → Circles Try.prog cx_zgwp b_zgwp_4 (mk_zgwp_4 qD qE qA v) (ex_zgwp_4 qD qE qA j v2).1 (ex_zgwp_4 qD qE qA j v2).2 :=
 loop_ok2 (L := find []) (n := 0) (hints := [(60, 4, { keep := [0, 5], acc := [] })]) (cx_ok rfl) rdy_zgwp bs_zgwp_4 nilB (fun v => (rnd_zgwp_4 qD qE qA v).trans (DT.go_run _ _)) (by intro j v; unfold ex_zgwp_4; split <;> rfl)
theorem mke_zgwp_4 (qD : Option Bool) (qE : Bool) (qA : List (Ty .evt)) (v : S.zgwp_4_V) : mk_zgwp_4 qD qE qA v = ⟨envOf 24 [(0, V.v false [C.d (.sl qD qE .evt qA)]), (5, (cV v.t5_))], heapOf 6 [], 0⟩ := by kernel_rfl
theorem lo1_zgwp_4 (e0 : V) (e5 : V)  e st2 (h : (T1_zgwp_4 e0 e5).eval = some (e, st2)) : Circles Try.prog cx_zgwp b_zgwp_4 ⟨envOf 24 [(0, e0), (5, e5)], heapOf 6 [], 0⟩ e st2 := by
 unfold T1_zgwp_4 at h
 split at h
 ·have := loop_tree (mk := mk_zgwp_4 _ _ _) (ci_zgwp_4 _ _ _) _ _ e st2 h
  rw [mke_zgwp_4] at this
  exact this
 ·cases h
theorem lok_zgwp_4 : LoopOk Try.prog cx_zgwp b_zgwp_4 T_zgwp_4 := by
 intro st e st2 h
 unfold T_zgwp_4 at h
 cases hk : okSt 24 6 0 [] st with
 | false => rw [hk] at h; cases h
 | true =>
  rw [hk] at h
  exact circles_keep (ks := [0, 5]) hk (lo1_zgwp_4 _ _ e st2 h)
structure S.zgwp_T where
 x0 : Bool
 deriving Inhabited
def S.zgwp_R (a0 : List (Ty .evt)) (a1 : Int) : DT S.zgwp_T :=
let y0 : S.zgwp_4_V := { t5_ := 0 : S.zgwp_4_V }
(.br (xdec ((↑a0.length : Int) > a1))
(.leaf ⟨false⟩)
(.br (S.zgwp_4_j a0 y0 0)
(.leaf ⟨false⟩)
(.br (S.zgwp_4_j a0 y0 1)
(.leaf ⟨true⟩)
.fail)))
def S.zgwp (a0 : List (Ty .evt)) (a1 : Int) : Option S.zgwp_T := (S.zgwp_R a0 a1).run
def S.zgwp_is (a0 : List (Ty .evt)) (a1 : Int) : Bool := (S.zgwp a0 a1).isSome
def S.zgwp_o (a0 : List (Ty .evt)) (a1 : Int) : S.zgwp_T := (S.zgwp a0 a1).getD default
def ret_zgwp (b : Bool) (r : S.zgwp_T) : Ret := ⟨b, none, [(false, [C.d (.sc (.bool r.x0))])]⟩
def g_zgwp : Con
 | [(false, [.sl a0n a0f .evt a0]), (false, [.sc (.int .i64 a1)])] => some (ret_zgwp (S.zgwp_is a0 a1) (S.zgwp_o a0 a1))
 | _ => none
theorem raw_zgwp (a0n : Option Bool) (a0f : Bool) (a0 : List (Ty .evt)) (a1 : Int) : evR2 cx_zgwp (hdI cx_zgwp (find [(4, T_zgwp_4)]) [] none 0) none Try.f60 60 none [(false, [.sl a0n a0f .evt a0]), (false, [.sc (.int .i64 a1)])] some = (S.zgwp_R a0 a1).go (ret_zgwp true) := by kernel_rfl
theorem bs_zgwp : loopsIn Try.f60 [] = [b_zgwp_4] := by kernel_rfl
theorem zgwp_ok : Stands Try.prog tyTab 60 g_zgwp := by
 refine stands3 (L := find [(4, T_zgwp_4)]) (n := 0) (hints := [(60, 4, { keep := [0, 5], acc := [] })]) (cx_ok rfl) rdy_zgwp ⟨by kernel_rfl, by kernel_rfl, by kernel_rfl⟩ bs_zgwp (consB (fun T h => by have e : T_zgwp_4 = T := Option.some.inj (show some T_zgwp_4 = some T from h); exact e ▸ lok_zgwp_4) nilB) (fun das r hG hr => ?_)
 unfold g_zgwp at hG
 split at hG
 ·rename_i a0n a0f a0 a1
  injection hG with hG; subst hG
  exact ⟨none, true, win default ((raw_zgwp a0n a0f a0 a1).trans (DT.go_run _ _)) hr⟩
 ·cases hG
end
end Go.Eng
