/- Contracts, laid by program. -/
import Derived.Test.YtoohnjneocohnaaGreatZG5
set_option linter.unusedVariables false
namespace Go.Eng
noncomputable section
open Go Go.Eng Go.Proofs Go.Eng.Tab
abbrev cx_zisi : Cx := mkCx2 tyTab [] [] [(55, 4, { keep := [0, 1, 12, 13], acc := [] })] []
theorem rdy_zisi : Ready Tryz.prog tyTab [] [] [] := ⟨noneG2, noneI2, noneF2⟩
structure S.zisi_4_V where
 t13_ : Int
def S.zisi_4_R (qA qB : Lr) (qC : Int) (v : S.zisi_4_V) : DT (Option Nat × S.zisi_4_V) :=
let y0 : Bool := xdec (0 ≤ v.t13_)
let y1 : Ty .run := qA.getD v.t13_.toNat (dflt .run)
let y2 : Ty .run := qB.getD v.t13_.toNat (dflt .run)
(.br (xdec (v.t13_ < qC))
(.br (y0 && xdec (v.t13_ < (↑qA.length : Int)))
(.br (y0 && xdec (v.t13_ < (↑qB.length : Int)))
(.br (bif xeqI y1.first y2.first && (xeqI y1.at_ y2.at_ && (xeqI y1.step y2.step && (xeqI y1.n y2.n && (xeqI y1.many y2.many && (xeqI y1.agg y2.agg && xeqB y1.bad y2.bad))))) then false
else true)
(.leaf (some 0, v))
(.leaf (none, ⟨xwrap .i64 (v.t13_ + 1)⟩)))
.fail)
.fail)
(.leaf (some 1, v)))
def S.zisi_4_r (qA qB : Lr) (qC : Int) (v : S.zisi_4_V) : Option (Option Nat × S.zisi_4_V) := (S.zisi_4_R qA qB qC v).run
def S.zisi_4_j (qA qB : Lr) (qC : Int) (v : S.zisi_4_V) (j : Nat) : Bool := Lp_j (S.zisi_4_r qA qB qC) v j
def S.zisi_4_v (qA qB : Lr) (qC : Int) (v : S.zisi_4_V) : S.zisi_4_V := Lp_v (S.zisi_4_r qA qB qC) v
def mk_zisi_4 (qD : OBz) (qE : Bool) (qA : Lr) (qF : OBz) (qG : Bool) (qB : Lr) (qC : Int) (v : S.zisi_4_V) : St := ⟨(V.v false [C.d (.sl qD qE .run qA)] :: (V.v false [C.d (.sl qF qG .run qB)] :: (vs 10 ((cV qC) :: ((cV v.t13_) :: (vs 12 [])))))), (ns 9 []), 0⟩
def ex_zisi_4 (qD : OBz) (qE : Bool) (qA : Lr) (qF : OBz) (qG : Bool) (qB : Lr) (qC : Int) (j : Nat) (v : S.zisi_4_V) : Ex × St := match j with
 | 0 => (Ex.ret, ⟨(vs 4 (V.v false [cB false] :: (vs 21 []))), (ns 22 []), 0⟩)
 | 1 => (Ex.exit 0, ⟨(vs 26 []), (ns 10 []), 0⟩)
 | _ => (.ret, ⟨[], [], 0⟩)
def T1_zisi_4 : V → V → V → V → Tree
 | V.v false [C.d (.sl qD qE .run qA)], V.v false [C.d (.sl qF qG .run qB)], V.v false [C.d (.sc (.int .i64 qC))], V.v false [C.d (.sc (.int .i64 t13_))] => exT (fun j => ex_zisi_4 qD qE qA qF qG qB qC j (S.zisi_4_v qA qB qC ⟨t13_⟩)) (S.zisi_4_j qA qB qC ⟨t13_⟩) [0, 1]
 | _, _, _, _ => .bad
def T_zisi_4 (st : St) : Tree := bif okSt 26 9 0 [] st then T1_zisi_4 (st.env.getD 0 .any) (st.env.getD 1 .any) (st.env.getD 12 .any) (st.env.getD 13 .any) else .bad
def b_zisi_4 : Code := loopBy Tryz.f55 4
theorem rnd_zisi_4 (qD : OBz) (qE : Bool) (qA : Lr) (qF : OBz) (qG : Bool) (qB : Lr) (qC : Int) (v : S.zisi_4_V) : round2 cx_zisi (hdI cx_zisi (find []) [] none 0) 55 b_zisi_4 [] 9 [4] (mk_zisi_4 qD qE qA qF qG qB qC v) = (S.zisi_4_R qA qB qC v).go (roundOut (mk_zisi_4 qD qE qA qF qG qB qC) (ex_zisi_4 qD qE qA qF qG qB qC)) := by kernel_rfl
theorem bs_zisi_4 : loopsOf b_zisi_4 ++ loopsInl [] = [] := by kernel_rfl
theorem ci_zisi_4 (qD : OBz) (qE : Bool) (qA : Lr) (qF : OBz) (qG : Bool) (qB : Lr) (qC : Int) : ∀ v j v2, Lp (S.zisi_4_r qA qB qC) v = some (j, v2) → Circles Tryz.prog cx_zisi b_zisi_4 (mk_zisi_4 qD qE qA qF qG qB qC v) (ex_zisi_4 qD qE qA qF qG qB qC j v2).1 (ex_zisi_4 qD qE qA qF qG qB qC j v2).2 :=
 loop_ok2 (L := find []) (n := 0) (hints := [(55, 4, { keep := [0, 1, 12, 13], acc := [] })]) (cx_ok rfl) rdy_zisi bs_zisi_4 nilB (fun v => (rnd_zisi_4 qD qE qA qF qG qB qC v).trans (DT.go_run _ _)) (by intro j v; unfold ex_zisi_4; split <;> rfl)
theorem mke_zisi_4 (qD : OBz) (qE : Bool) (qA : Lr) (qF : OBz) (qG : Bool) (qB : Lr) (qC : Int) (v : S.zisi_4_V) : mk_zisi_4 qD qE qA qF qG qB qC v = ⟨envOf 26 [(0, V.v false [C.d (.sl qD qE .run qA)]), (1, V.v false [C.d (.sl qF qG .run qB)]), (12, (cV qC)), (13, (cV v.t13_))], heapOf 9 [], 0⟩ := by kernel_rfl
theorem lo1_zisi_4 (e0 e1 e12 e13 : V)  e st2 (h : (T1_zisi_4 e0 e1 e12 e13).eval = some (e, st2)) : Circles Tryz.prog cx_zisi b_zisi_4 ⟨envOf 26 [(0, e0), (1, e1), (12, e12), (13, e13)], heapOf 9 [], 0⟩ e st2 := by
 unfold T1_zisi_4 at h
 split at h
 ·have := loop_tree (mk := mk_zisi_4 _ _ _ _ _ _ _) (ci_zisi_4 _ _ _ _ _ _ _) _ _ e st2 h
  rw [mke_zisi_4] at this
  exact this
 ·cases h
theorem lok_zisi_4 : LoopOk Tryz.prog cx_zisi b_zisi_4 T_zisi_4 := by
 intro st e st2 h
 unfold T_zisi_4 at h
 cases hk : okSt 26 9 0 [] st with
 | false => rw [hk] at h; cases h
 | true =>
  rw [hk] at h
  exact circles_keep (ks := [0, 1, 12, 13]) hk (lo1_zisi_4 _ _ _ _ e st2 h)
structure S.zisi_T where
 x0 : Bool
 deriving Inhabited
def S.zisi_R (a0 a1 : Lr) : DT S.zisi_T :=
let y0 : Int := (↑a0.length : Int)
let y1 : S.zisi_4_V := { t13_ := 0 : S.zisi_4_V }
(.br (xneI y0 (↑a1.length : Int))
(.leaf ⟨false⟩)
(.br (S.zisi_4_j a0 a1 y0 y1 0)
(.leaf ⟨false⟩)
(.br (S.zisi_4_j a0 a1 y0 y1 1)
(.leaf ⟨true⟩)
.fail)))
def S.zisi (a0 a1 : Lr) : Option S.zisi_T := (S.zisi_R a0 a1).run
def S.zisi_is (a0 a1 : Lr) : Bool := (S.zisi a0 a1).isSome
def S.zisi_o (a0 a1 : Lr) : S.zisi_T := (S.zisi a0 a1).getD default
def ret_zisi (b : Bool) (r : S.zisi_T) : Ret := ⟨b, none, [(false, [cB r.x0])]⟩
def g_zisi : Con
 | [(false, [.sl a0n a0f .run a0]), (false, [.sl a1n a1f .run a1])] => some (ret_zisi (S.zisi_is a0 a1) (S.zisi_o a0 a1))
 | _ => none
theorem raw_zisi (a0n : OBz) (a0f : Bool) (a0 : Lr) (a1n : OBz) (a1f : Bool) (a1 : Lr) : evR2 cx_zisi (hdI cx_zisi (find [(4, T_zisi_4)]) [] none 0) none Tryz.f55 55 none [(false, [.sl a0n a0f .run a0]), (false, [.sl a1n a1f .run a1])] some = (S.zisi_R a0 a1).go (ret_zisi true) := by kernel_rfl
theorem bs_zisi : loopsIn Tryz.f55 [] = [b_zisi_4] := by kernel_rfl
theorem zisi_ok : Stands Tryz.prog tyTab 55 g_zisi := by
 refine stands3 (L := find [(4, T_zisi_4)]) (n := 0) (hints := [(55, 4, { keep := [0, 1, 12, 13], acc := [] })]) (cx_ok rfl) rdy_zisi ⟨by kernel_rfl, by kernel_rfl, by kernel_rfl⟩ bs_zisi (consB (fun T h => by have e : T_zisi_4 = T := Option.some.inj (show some T_zisi_4 = some T from h); exact e ▸ lok_zisi_4) nilB) (fun das r hG hr => ?_)
 unfold g_zisi at hG
 split at hG
 ·rename_i a0n a0f a0 a1n a1f a1
  injection hG with hG; subst hG
  exact ⟨none, true, win default ((raw_zisi a0n a0f a0 a1n a1f a1).trans (DT.go_run _ _)) hr⟩
 ·cases hG
abbrev cx_zypm : Cx := mkCx2 tyTab [(73, g_zbrd)] [] [] []
theorem rdy_zypm : Ready Tryz.prog tyTab [(73, g_zbrd)] [] [] := ⟨consG2 zbrd_ok (noneG2), noneI2, noneF2⟩
structure S.zypm_T where
 x0 : Bool
 deriving Inhabited
def S.zypm_R (a0_0 : ByteArray) (a0_1 : Lo) (a0_2 a0_3 : Int) (a0_4 : Bool) (a0_5 : ByteArray) (a0_6 : Lo) (a1_0 : ByteArray) (a1_1 : Lo) (a1_2 a1_3 : Int) (a1_4 : Bool) (a1_5 : ByteArray) (a1_6 : Lo) : DT S.zypm_T :=
(.br (xdec (a0_0 = a1_0))
(.br (xdec (a0_5 = a1_5))
(.br (a0_4 == a1_4)
(.br (xeqI a0_2 a1_2)
(.br (xeqI a0_3 a1_3)
(.br (S.zbrd_is a0_1 a1_1)
(.br ((S.zbrd_o a0_1 a1_1).x0)
(.br (S.zbrd_is a0_6 a1_6)
(.leaf ⟨(S.zbrd_o a0_6 a1_6).x0⟩)
.fail)
(.leaf ⟨false⟩))
.fail)
(.leaf ⟨false⟩))
(.leaf ⟨false⟩))
(.leaf ⟨false⟩))
(.leaf ⟨false⟩))
(.leaf ⟨false⟩))
def S.zypm (a0_0 : ByteArray) (a0_1 : Lo) (a0_2 a0_3 : Int) (a0_4 : Bool) (a0_5 : ByteArray) (a0_6 : Lo) (a1_0 : ByteArray) (a1_1 : Lo) (a1_2 a1_3 : Int) (a1_4 : Bool) (a1_5 : ByteArray) (a1_6 : Lo) : Option S.zypm_T := (S.zypm_R a0_0 a0_1 a0_2 a0_3 a0_4 a0_5 a0_6 a1_0 a1_1 a1_2 a1_3 a1_4 a1_5 a1_6).run
def S.zypm_is (a0_0 : ByteArray) (a0_1 : Lo) (a0_2 a0_3 : Int) (a0_4 : Bool) (a0_5 : ByteArray) (a0_6 : Lo) (a1_0 : ByteArray) (a1_1 : Lo) (a1_2 a1_3 : Int) (a1_4 : Bool) (a1_5 : ByteArray) (a1_6 : Lo) : Bool := (S.zypm a0_0 a0_1 a0_2 a0_3 a0_4 a0_5 a0_6 a1_0 a1_1 a1_2 a1_3 a1_4 a1_5 a1_6).isSome
def S.zypm_o (a0_0 : ByteArray) (a0_1 : Lo) (a0_2 a0_3 : Int) (a0_4 : Bool) (a0_5 : ByteArray) (a0_6 : Lo) (a1_0 : ByteArray) (a1_1 : Lo) (a1_2 a1_3 : Int) (a1_4 : Bool) (a1_5 : ByteArray) (a1_6 : Lo) : S.zypm_T := (S.zypm a0_0 a0_1 a0_2 a0_3 a0_4 a0_5 a0_6 a1_0 a1_1 a1_2 a1_3 a1_4 a1_5 a1_6).getD default
def ret_zypm (b : Bool) (r : S.zypm_T) : Ret := ⟨b, none, [(false, [cB r.x0])]⟩
def g_zypm : Con
 | [(true, [.sc (.str a0_0), .sl a0_1n a0_1f .op a0_1, .sc (.int .i64 a0_2), .sc (.int .i64 a0_3), .sc (.bool a0_4), .sc (.str a0_5), .sl a0_6n a0_6f .op a0_6]), (true, [.sc (.str a1_0), .sl a1_1n a1_1f .op a1_1, .sc (.int .i64 a1_2), .sc (.int .i64 a1_3), .sc (.bool a1_4), .sc (.str a1_5), .sl a1_6n a1_6f .op a1_6])] => some (ret_zypm (S.zypm_is a0_0 a0_1 a0_2 a0_3 a0_4 a0_5 a0_6 a1_0 a1_1 a1_2 a1_3 a1_4 a1_5 a1_6) (S.zypm_o a0_0 a0_1 a0_2 a0_3 a0_4 a0_5 a0_6 a1_0 a1_1 a1_2 a1_3 a1_4 a1_5 a1_6))
 | _ => none
theorem raw_zypm (a0_0 : ByteArray) (a0_1n : OBz) (a0_1f : Bool) (a0_1 : Lo) (a0_2 a0_3 : Int) (a0_4 : Bool) (a0_5 : ByteArray) (a0_6n : OBz) (a0_6f : Bool) (a0_6 : Lo) (a1_0 : ByteArray) (a1_1n : OBz) (a1_1f : Bool) (a1_1 : Lo) (a1_2 a1_3 : Int) (a1_4 : Bool) (a1_5 : ByteArray) (a1_6n : OBz) (a1_6f : Bool) (a1_6 : Lo) : evR2 cx_zypm (hdI cx_zypm (find []) [] none 0) none Tryz.f69 69 none [(true, [.sc (.str a0_0), .sl a0_1n a0_1f .op a0_1, dI a0_2, dI a0_3, .sc (.bool a0_4), .sc (.str a0_5), .sl a0_6n a0_6f .op a0_6]), (true, [.sc (.str a1_0), .sl a1_1n a1_1f .op a1_1, dI a1_2, dI a1_3, .sc (.bool a1_4), .sc (.str a1_5), .sl a1_6n a1_6f .op a1_6])] some = (S.zypm_R a0_0 a0_1 a0_2 a0_3 a0_4 a0_5 a0_6 a1_0 a1_1 a1_2 a1_3 a1_4 a1_5 a1_6).go (ret_zypm true) := by kernel_rfl
theorem bs_zypm : loopsIn Tryz.f69 [] = [] := by kernel_rfl
theorem zypm_ok : Stands Tryz.prog tyTab 69 g_zypm := by
 refine stands3 (L := find []) (n := 0) (hints := []) (cx_ok rfl) rdy_zypm ⟨by kernel_rfl, by kernel_rfl, by kernel_rfl⟩ bs_zypm nilB (fun das r hG hr => ?_)
 unfold g_zypm at hG
 split at hG
 ·rename_i a0_0 a0_1n a0_1f a0_1 a0_2 a0_3 a0_4 a0_5 a0_6n a0_6f a0_6 a1_0 a1_1n a1_1f a1_1 a1_2 a1_3 a1_4 a1_5 a1_6n a1_6f a1_6
  injection hG with hG; subst hG
  exact ⟨none, true, win default ((raw_zypm a0_0 a0_1n a0_1f a0_1 a0_2 a0_3 a0_4 a0_5 a0_6n a0_6f a0_6 a1_0 a1_1n a1_1f a1_1 a1_2 a1_3 a1_4 a1_5 a1_6n a1_6f a1_6).trans (DT.go_run _ _)) hr⟩
 ·cases hG
abbrev cx_z4fy : Cx := mkCx2 tyTab [(69, g_zypm)] [] [(68, 4, { keep := [1, 2, 15, 16, 17], acc := [] })] []
theorem rdy_z4fy : Ready Tryz.prog tyTab [(69, g_zypm)] [] [] := ⟨consG2 zypm_ok (noneG2), noneI2, noneF2⟩
structure S.z4fy_4_V where
 t17_ : Int
def S.z4fy_4_R (qB qH : Ls) (qI : Int) (v : S.z4fy_4_V) : DT (Option Nat × S.z4fy_4_V) :=
let y0 : Bool := xdec (0 ≤ v.t17_)
let y1 : Ty .step := qH.getD v.t17_.toNat (dflt .step)
let y2 := y1.name
let y3 := y1.ifs
let y4 := y1.min
let y5 := y1.max
let y6 := y1.guard
let y7 := y1.notName
let y8 := y1.notIf
let y9 : Ty .step := qB.getD v.t17_.toNat (dflt .step)
let y10 := y9.name
let y11 := y9.ifs
let y12 := y9.min
let y13 := y9.max
let y14 := y9.guard
let y15 := y9.notName
let y16 := y9.notIf
(.br (xdec (v.t17_ < qI))
(.br (y0 && xdec (v.t17_ < (↑qH.length : Int)))
(.br (y0 && xdec (v.t17_ < (↑qB.length : Int)))
(.br (S.zypm_is y2 y3 y4 y5 y6 y7 y8 y10 y11 y12 y13 y14 y15 y16)
(.br (xnot (S.zypm_o y2 y3 y4 y5 y6 y7 y8 y10 y11 y12 y13 y14 y15 y16).x0)
(.leaf (some 0, v))
(.leaf (none, ⟨xwrap .i64 (v.t17_ + 1)⟩)))
.fail)
.fail)
.fail)
(.leaf (some 1, v)))
def S.z4fy_4_r (qB qH : Ls) (qI : Int) (v : S.z4fy_4_V) : Option (Option Nat × S.z4fy_4_V) := (S.z4fy_4_R qB qH qI v).run
def S.z4fy_4_j (qB qH : Ls) (qI : Int) (v : S.z4fy_4_V) (j : Nat) : Bool := Lp_j (S.z4fy_4_r qB qH qI) v j
def S.z4fy_4_v (qB qH : Ls) (qI : Int) (v : S.z4fy_4_V) : S.z4fy_4_V := Lp_v (S.z4fy_4_r qB qH qI) v
def mk_z4fy_4 (qF : OBz) (qG : Bool) (qB : Ls) (qJ : OBz) (qK : Bool) (qH : Ls) (qI : Int) (v : S.z4fy_4_V) : St := ⟨(V.any :: (V.v false [C.d (.sl qF qG .step qB)] :: (V.v false [C.d (D.fn 69 [] [])] :: (vs 12 (V.v false [C.d (.sl qJ qK .step qH)] :: ((cV qI) :: ((cV v.t17_) :: (vs 14 [])))))))), (ns 9 []), 0⟩
def ex_z4fy_4 (qF : OBz) (qG : Bool) (qB : Ls) (qJ : OBz) (qK : Bool) (qH : Ls) (qI : Int) (j : Nat) (v : S.z4fy_4_V) : Ex × St := match j with
 | 0 => (Ex.ret, ⟨(vs 6 (V.v false [cB false] :: (vs 25 []))), (ns 13 (some
  (Blk.box 59
   [C.d (.sc (.str (qH.getD v.t17_.toNat (dflt .step)).name)), C.d (.sl none false .op (qH.getD v.t17_.toNat (dflt .step)).ifs),
    (cI (qH.getD v.t17_.toNat (dflt .step)).min), (cI (qH.getD v.t17_.toNat (dflt .step)).max),
    C.d (.sc (.bool (qH.getD v.t17_.toNat (dflt .step)).guard)), C.d (.sc (.str (qH.getD v.t17_.toNat (dflt .step)).notName)),
    C.d (.sl none false .op (qH.getD v.t17_.toNat (dflt .step)).notIf)]) :: (ns 6 (some
  (Blk.box 59
   [C.d (.sc (.str (qB.getD v.t17_.toNat (dflt .step)).name)), C.d (.sl none false .op (qB.getD v.t17_.toNat (dflt .step)).ifs),
    (cI (qB.getD v.t17_.toNat (dflt .step)).min), (cI (qB.getD v.t17_.toNat (dflt .step)).max),
    C.d (.sc (.bool (qB.getD v.t17_.toNat (dflt .step)).guard)), C.d (.sc (.str (qB.getD v.t17_.toNat (dflt .step)).notName)),
    C.d (.sl none false .op (qB.getD v.t17_.toNat (dflt .step)).notIf)]) :: (ns 7 []))))), 0⟩)
 | 1 => (Ex.exit 0, ⟨(vs 32 []), (ns 10 []), 0⟩)
 | _ => (.ret, ⟨[], [], 0⟩)
def T1_z4fy_4 : V → V → V → V → V → Tree
 | V.v false [C.d (.sl qF qG .step qB)], V.v false [C.d (D.fn 69 [] [])], V.v false [C.d (.sl qJ qK .step qH)], V.v false [C.d (.sc (.int .i64 qI))], V.v false [C.d (.sc (.int .i64 t17_))] => exT (fun j => ex_z4fy_4 qF qG qB qJ qK qH qI j (S.z4fy_4_v qB qH qI ⟨t17_⟩)) (S.z4fy_4_j qB qH qI ⟨t17_⟩) [0, 1]
 | _, _, _, _, _ => .bad
def T_z4fy_4 (st : St) : Tree := bif okSt 32 9 0 [] st then T1_z4fy_4 (st.env.getD 1 .any) (st.env.getD 2 .any) (st.env.getD 15 .any) (st.env.getD 16 .any) (st.env.getD 17 .any) else .bad
def b_z4fy_4 : Code := loopBy Tryz.f68 4
theorem rnd_z4fy_4 (qF : OBz) (qG : Bool) (qB : Ls) (qJ : OBz) (qK : Bool) (qH : Ls) (qI : Int) (v : S.z4fy_4_V) : round2 cx_z4fy (hdI cx_z4fy (find []) [] none 0) 68 b_z4fy_4 [] 9 [6] (mk_z4fy_4 qF qG qB qJ qK qH qI v) = (S.z4fy_4_R qB qH qI v).go (roundOut (mk_z4fy_4 qF qG qB qJ qK qH qI) (ex_z4fy_4 qF qG qB qJ qK qH qI)) := by kernel_rfl
theorem bs_z4fy_4 : loopsOf b_z4fy_4 ++ loopsInl [] = [] := by kernel_rfl
theorem ci_z4fy_4 (qF : OBz) (qG : Bool) (qB : Ls) (qJ : OBz) (qK : Bool) (qH : Ls) (qI : Int) : ∀ v j v2, Lp (S.z4fy_4_r qB qH qI) v = some (j, v2) → Circles Tryz.prog cx_z4fy b_z4fy_4 (mk_z4fy_4 qF qG qB qJ qK qH qI v) (ex_z4fy_4 qF qG qB qJ qK qH qI j v2).1 (ex_z4fy_4 qF qG qB qJ qK qH qI j v2).2 :=
 loop_ok2 (L := find []) (n := 0) (hints := [(68, 4, { keep := [1, 2, 15, 16, 17], acc := [] })]) (cx_ok rfl) rdy_z4fy bs_z4fy_4 nilB (fun v => (rnd_z4fy_4 qF qG qB qJ qK qH qI v).trans (DT.go_run _ _)) (by intro j v; unfold ex_z4fy_4; split <;> rfl)
theorem mke_z4fy_4 (qF : OBz) (qG : Bool) (qB : Ls) (qJ : OBz) (qK : Bool) (qH : Ls) (qI : Int) (v : S.z4fy_4_V) : mk_z4fy_4 qF qG qB qJ qK qH qI v = ⟨envOf 32 [(1, V.v false [C.d (.sl qF qG .step qB)]), (2, V.v false [C.d (D.fn 69 [] [])]), (15, V.v false [C.d (.sl qJ qK .step qH)]), (16, (cV qI)), (17, (cV v.t17_))], heapOf 9 [], 0⟩ := by kernel_rfl
theorem lo1_z4fy_4 (e1 e2 e15 e16 e17 : V)  e st2 (h : (T1_z4fy_4 e1 e2 e15 e16 e17).eval = some (e, st2)) : Circles Tryz.prog cx_z4fy b_z4fy_4 ⟨envOf 32 [(1, e1), (2, e2), (15, e15), (16, e16), (17, e17)], heapOf 9 [], 0⟩ e st2 := by
 unfold T1_z4fy_4 at h
 split at h
 ·have := loop_tree (mk := mk_z4fy_4 _ _ _ _ _ _ _) (ci_z4fy_4 _ _ _ _ _ _ _) _ _ e st2 h
  rw [mke_z4fy_4] at this
  exact this
 ·cases h
theorem lok_z4fy_4 : LoopOk Tryz.prog cx_z4fy b_z4fy_4 T_z4fy_4 := by
 intro st e st2 h
 unfold T_z4fy_4 at h
 cases hk : okSt 32 9 0 [] st with
 | false => rw [hk] at h; cases h
 | true =>
  rw [hk] at h
  exact circles_keep (ks := [1, 2, 15, 16, 17]) hk (lo1_z4fy_4 _ _ _ _ _ e st2 h)
structure S.z4fy_T where
 x0 : Bool
 deriving Inhabited
def S.z4fy_R (a0 a1 : Ls) : DT S.z4fy_T :=
let y0 : Int := (↑a0.length : Int)
let y1 : S.z4fy_4_V := { t17_ := 0 : S.z4fy_4_V }
(.br (xneI y0 (↑a1.length : Int))
(.leaf ⟨false⟩)
(.br (S.z4fy_4_j a1 a0 y0 y1 0)
(.leaf ⟨false⟩)
(.br (S.z4fy_4_j a1 a0 y0 y1 1)
(.leaf ⟨true⟩)
.fail)))
def S.z4fy (a0 a1 : Ls) : Option S.z4fy_T := (S.z4fy_R a0 a1).run
def S.z4fy_is (a0 a1 : Ls) : Bool := (S.z4fy a0 a1).isSome
def S.z4fy_o (a0 a1 : Ls) : S.z4fy_T := (S.z4fy a0 a1).getD default
def ret_z4fy (b : Bool) (r : S.z4fy_T) : Ret := ⟨b, none, [(false, [cB r.x0])]⟩
def g_z4fy : Con
 | [(false, [.sl a0n a0f .step a0]), (false, [.sl a1n a1f .step a1]), (false, [.fn 69 [] []])] => some (ret_z4fy (S.z4fy_is a0 a1) (S.z4fy_o a0 a1))
 | _ => none
theorem raw_z4fy (a0n : OBz) (a0f : Bool) (a0 : Ls) (a1n : OBz) (a1f : Bool) (a1 : Ls) : evR2 cx_z4fy (hdI cx_z4fy (find [(4, T_z4fy_4)]) [] none 0) none Tryz.f68 68 none [(false, [.sl a0n a0f .step a0]), (false, [.sl a1n a1f .step a1]), (false, [.fn 69 [] []])] some = (S.z4fy_R a0 a1).go (ret_z4fy true) := by kernel_rfl
theorem bs_z4fy : loopsIn Tryz.f68 [] = [b_z4fy_4] := by kernel_rfl
theorem z4fy_ok : Stands Tryz.prog tyTab 68 g_z4fy := by
 refine stands3 (L := find [(4, T_z4fy_4)]) (n := 0) (hints := [(68, 4, { keep := [1, 2, 15, 16, 17], acc := [] })]) (cx_ok rfl) rdy_z4fy ⟨by kernel_rfl, by kernel_rfl, by kernel_rfl⟩ bs_z4fy (consB (fun T h => by have e : T_z4fy_4 = T := Option.some.inj (show some T_z4fy_4 = some T from h); exact e ▸ lok_z4fy_4) nilB) (fun das r hG hr => ?_)
 unfold g_z4fy at hG
 split at hG
 ·rename_i a0n a0f a0 a1n a1f a1
  injection hG with hG; subst hG
  exact ⟨none, true, win default ((raw_z4fy a0n a0f a0 a1n a1f a1).trans (DT.go_run _ _)) hr⟩
 ·cases hG
abbrev cx_zvst : Cx := mkCx2 tyTab [(68, g_z4fy), (69, g_zypm)] [] [] []
theorem rdy_zvst : Ready Tryz.prog tyTab [(68, g_z4fy), (69, g_zypm)] [] [] := ⟨consG2 z4fy_ok (consG2 zypm_ok (noneG2)), noneI2, noneF2⟩
structure S.zvst_T where
 x0 : Bool
 deriving Inhabited
def S.zvst_R (a0_0 : Ls) (a0_1 a0_2 a0_3 a0_4 : Int) (a1_0 : Ls) (a1_1 a1_2 a1_3 a1_4 : Int) : DT S.zvst_T :=
(.br (xeqI a0_2 a1_2)
(.br (xeqI a0_3 a1_3)
(.br (xeqI a0_4 a1_4)
(.br (xeqI a0_1 a1_1)
(.br (S.z4fy_is a0_0 a1_0)
(.leaf ⟨(S.z4fy_o a0_0 a1_0).x0⟩)
.fail)
(.leaf ⟨false⟩))
(.leaf ⟨false⟩))
(.leaf ⟨false⟩))
(.leaf ⟨false⟩))
def S.zvst (a0_0 : Ls) (a0_1 a0_2 a0_3 a0_4 : Int) (a1_0 : Ls) (a1_1 a1_2 a1_3 a1_4 : Int) : Option S.zvst_T := (S.zvst_R a0_0 a0_1 a0_2 a0_3 a0_4 a1_0 a1_1 a1_2 a1_3 a1_4).run
def S.zvst_is (a0_0 : Ls) (a0_1 a0_2 a0_3 a0_4 : Int) (a1_0 : Ls) (a1_1 a1_2 a1_3 a1_4 : Int) : Bool := (S.zvst a0_0 a0_1 a0_2 a0_3 a0_4 a1_0 a1_1 a1_2 a1_3 a1_4).isSome
def S.zvst_o (a0_0 : Ls) (a0_1 a0_2 a0_3 a0_4 : Int) (a1_0 : Ls) (a1_1 a1_2 a1_3 a1_4 : Int) : S.zvst_T := (S.zvst a0_0 a0_1 a0_2 a0_3 a0_4 a1_0 a1_1 a1_2 a1_3 a1_4).getD default
def ret_zvst (b : Bool) (r : S.zvst_T) : Ret := ⟨b, none, [(false, [cB r.x0])]⟩
def g_zvst : Con
 | [(true, [.sl a0_0n a0_0f .step a0_0, .sc (.int .i64 a0_1), .sc (.int .i64 a0_2), .sc (.int .i64 a0_3), .sc (.int .i64 a0_4)]), (true, [.sl a1_0n a1_0f .step a1_0, .sc (.int .i64 a1_1), .sc (.int .i64 a1_2), .sc (.int .i64 a1_3), .sc (.int .i64 a1_4)])] => some (ret_zvst (S.zvst_is a0_0 a0_1 a0_2 a0_3 a0_4 a1_0 a1_1 a1_2 a1_3 a1_4) (S.zvst_o a0_0 a0_1 a0_2 a0_3 a0_4 a1_0 a1_1 a1_2 a1_3 a1_4))
 | _ => none
theorem raw_zvst (a0_0n : OBz) (a0_0f : Bool) (a0_0 : Ls) (a0_1 a0_2 a0_3 a0_4 : Int) (a1_0n : OBz) (a1_0f : Bool) (a1_0 : Ls) (a1_1 a1_2 a1_3 a1_4 : Int) : evR2 cx_zvst (hdI cx_zvst (find []) [] none 0) none Tryz.f54 54 none [(true, [.sl a0_0n a0_0f .step a0_0, dI a0_1, dI a0_2, dI a0_3, dI a0_4]), (true, [.sl a1_0n a1_0f .step a1_0, dI a1_1, dI a1_2, dI a1_3, dI a1_4])] some = (S.zvst_R a0_0 a0_1 a0_2 a0_3 a0_4 a1_0 a1_1 a1_2 a1_3 a1_4).go (ret_zvst true) := by kernel_rfl
theorem bs_zvst : loopsIn Tryz.f54 [] = [] := by kernel_rfl
theorem zvst_ok : Stands Tryz.prog tyTab 54 g_zvst := by
 refine stands3 (L := find []) (n := 0) (hints := []) (cx_ok rfl) rdy_zvst ⟨by kernel_rfl, by kernel_rfl, by kernel_rfl⟩ bs_zvst nilB (fun das r hG hr => ?_)
 unfold g_zvst at hG
 split at hG
 ·rename_i a0_0n a0_0f a0_0 a0_1 a0_2 a0_3 a0_4 a1_0n a1_0f a1_0 a1_1 a1_2 a1_3 a1_4
  injection hG with hG; subst hG
  exact ⟨none, true, win default ((raw_zvst a0_0n a0_0f a0_0 a0_1 a0_2 a0_3 a0_4 a1_0n a1_0f a1_0 a1_1 a1_2 a1_3 a1_4).trans (DT.go_run _ _)) hr⟩
 ·cases hG
abbrev cx_zi5w : Cx := mkCx2 tyTab [(54, g_zvst), (55, g_zisi)] [] [] []
theorem rdy_zi5w : Ready Tryz.prog tyTab [(54, g_zvst), (55, g_zisi)] [] [] := ⟨consG2 zvst_ok (consG2 zisi_ok (noneG2)), noneI2, noneF2⟩
structure S.zi5w_T where
 x0 : Bool
 deriving Inhabited
def S.zi5w_R (a0_0 : Ls) (a0_1 a0_2 a0_3 a0_4 : Int) (a0_5 : Lr) (a0_6 : Int) (a1_0 : Ls) (a1_1 a1_2 a1_3 a1_4 : Int) (a1_5 : Lr) (a1_6 : Int) : DT S.zi5w_T :=
(.br (S.zvst_is a0_0 a0_1 a0_2 a0_3 a0_4 a1_0 a1_1 a1_2 a1_3 a1_4)
(.br ((S.zvst_o a0_0 a0_1 a0_2 a0_3 a0_4 a1_0 a1_1 a1_2 a1_3 a1_4).x0)
(.br (xeqI a0_6 a1_6)
(.br (S.zisi_is a0_5 a1_5)
(.leaf ⟨(S.zisi_o a0_5 a1_5).x0⟩)
.fail)
(.leaf ⟨false⟩))
(.leaf ⟨false⟩))
.fail)
def S.zi5w (a0_0 : Ls) (a0_1 a0_2 a0_3 a0_4 : Int) (a0_5 : Lr) (a0_6 : Int) (a1_0 : Ls) (a1_1 a1_2 a1_3 a1_4 : Int) (a1_5 : Lr) (a1_6 : Int) : Option S.zi5w_T := (S.zi5w_R a0_0 a0_1 a0_2 a0_3 a0_4 a0_5 a0_6 a1_0 a1_1 a1_2 a1_3 a1_4 a1_5 a1_6).run
def S.zi5w_is (a0_0 : Ls) (a0_1 a0_2 a0_3 a0_4 : Int) (a0_5 : Lr) (a0_6 : Int) (a1_0 : Ls) (a1_1 a1_2 a1_3 a1_4 : Int) (a1_5 : Lr) (a1_6 : Int) : Bool := (S.zi5w a0_0 a0_1 a0_2 a0_3 a0_4 a0_5 a0_6 a1_0 a1_1 a1_2 a1_3 a1_4 a1_5 a1_6).isSome
def S.zi5w_o (a0_0 : Ls) (a0_1 a0_2 a0_3 a0_4 : Int) (a0_5 : Lr) (a0_6 : Int) (a1_0 : Ls) (a1_1 a1_2 a1_3 a1_4 : Int) (a1_5 : Lr) (a1_6 : Int) : S.zi5w_T := (S.zi5w a0_0 a0_1 a0_2 a0_3 a0_4 a0_5 a0_6 a1_0 a1_1 a1_2 a1_3 a1_4 a1_5 a1_6).getD default
def ret_zi5w (b : Bool) (r : S.zi5w_T) : Ret := ⟨b, none, [(false, [cB r.x0])]⟩
def g_zi5w : Con
 | [(true, [.sl a0_0n a0_0f .step a0_0, .sc (.int .i64 a0_1), .sc (.int .i64 a0_2), .sc (.int .i64 a0_3), .sc (.int .i64 a0_4), .sl a0_5n a0_5f .run a0_5, .sc (.int .i64 a0_6)]), (true, [.sl a1_0n a1_0f .step a1_0, .sc (.int .i64 a1_1), .sc (.int .i64 a1_2), .sc (.int .i64 a1_3), .sc (.int .i64 a1_4), .sl a1_5n a1_5f .run a1_5, .sc (.int .i64 a1_6)])] => some (ret_zi5w (S.zi5w_is a0_0 a0_1 a0_2 a0_3 a0_4 a0_5 a0_6 a1_0 a1_1 a1_2 a1_3 a1_4 a1_5 a1_6) (S.zi5w_o a0_0 a0_1 a0_2 a0_3 a0_4 a0_5 a0_6 a1_0 a1_1 a1_2 a1_3 a1_4 a1_5 a1_6))
 | _ => none
theorem raw_zi5w (a0_0n : OBz) (a0_0f : Bool) (a0_0 : Ls) (a0_1 a0_2 a0_3 a0_4 : Int) (a0_5n : OBz) (a0_5f : Bool) (a0_5 : Lr) (a0_6 : Int) (a1_0n : OBz) (a1_0f : Bool) (a1_0 : Ls) (a1_1 a1_2 a1_3 a1_4 : Int) (a1_5n : OBz) (a1_5f : Bool) (a1_5 : Lr) (a1_6 : Int) : evR2 cx_zi5w (hdI cx_zi5w (find []) [] none 0) none Tryz.f34 34 none [(true, [.sl a0_0n a0_0f .step a0_0, dI a0_1, dI a0_2, dI a0_3, dI a0_4, .sl a0_5n a0_5f .run a0_5, dI a0_6]), (true, [.sl a1_0n a1_0f .step a1_0, dI a1_1, dI a1_2, dI a1_3, dI a1_4, .sl a1_5n a1_5f .run a1_5, dI a1_6])] some = (S.zi5w_R a0_0 a0_1 a0_2 a0_3 a0_4 a0_5 a0_6 a1_0 a1_1 a1_2 a1_3 a1_4 a1_5 a1_6).go (ret_zi5w true) := by kernel_rfl
theorem bs_zi5w : loopsIn Tryz.f34 [] = [] := by kernel_rfl
theorem zi5w_ok : Stands Tryz.prog tyTab 34 g_zi5w := by
 refine stands3 (L := find []) (n := 0) (hints := []) (cx_ok rfl) rdy_zi5w ⟨by kernel_rfl, by kernel_rfl, by kernel_rfl⟩ bs_zi5w nilB (fun das r hG hr => ?_)
 unfold g_zi5w at hG
 split at hG
 ·rename_i a0_0n a0_0f a0_0 a0_1 a0_2 a0_3 a0_4 a0_5n a0_5f a0_5 a0_6 a1_0n a1_0f a1_0 a1_1 a1_2 a1_3 a1_4 a1_5n a1_5f a1_5 a1_6
  injection hG with hG; subst hG
  exact ⟨none, true, win default ((raw_zi5w a0_0n a0_0f a0_0 a0_1 a0_2 a0_3 a0_4 a0_5n a0_5f a0_5 a0_6 a1_0n a1_0f a1_0 a1_1 a1_2 a1_3 a1_4 a1_5n a1_5f a1_5 a1_6).trans (DT.go_run _ _)) hr⟩
 ·cases hG
abbrev cx_zgwp : Cx := mkCx2 tyTab [(18, g_z6c2)] [] [(6, 4, { keep := [0, 5], acc := [] })] []
theorem rdy_zgwp : Ready Tryz.prog tyTab [(18, g_z6c2)] [] [] := ⟨consG2 z6c2_ok (noneG2), noneI2, noneF2⟩
structure S.zgwp_4_V where
 t5_ : Int
def S.zgwp_4_R (qA : Le) (v : S.zgwp_4_V) : DT (Option Nat × S.zgwp_4_V) :=
let y0 : Bool := xdec (v.t5_ < (↑qA.length : Int))
let y1 : Ty .evt := qA.getD v.t5_.toNat (dflt .evt)
let y2 := y1.name
let y3 := y1.v
(.br (y0)
(.br (xdec (0 ≤ v.t5_) && y0)
(.br (S.z6c2_is y2 y3)
(.br (xnot (S.z6c2_o y2 y3).x0)
(.leaf (some 0, v))
(.leaf (none, ⟨xwrap .i64 (v.t5_ + 1)⟩)))
.fail)
.fail)
(.leaf (some 1, v)))
def S.zgwp_4_r (qA : Le) (v : S.zgwp_4_V) : Option (Option Nat × S.zgwp_4_V) := (S.zgwp_4_R qA v).run
def S.zgwp_4_j (qA : Le) (v : S.zgwp_4_V) (j : Nat) : Bool := Lp_j (S.zgwp_4_r qA) v j
def S.zgwp_4_v (qA : Le) (v : S.zgwp_4_V) : S.zgwp_4_V := Lp_v (S.zgwp_4_r qA) v
def mk_zgwp_4 (qD : OBz) (qE : Bool) (qA : Le) (v : S.zgwp_4_V) : St := ⟨(V.v false [C.d (.sl qD qE .evt qA)] :: (vs 4 ((cV v.t5_) :: (vs 18 [])))), (ns 6 []), 0⟩
def ex_zgwp_4 (qD : OBz) (qE : Bool) (qA : Le) (j : Nat) (v : S.zgwp_4_V) : Ex × St := match j with
 | 0 => (Ex.ret, ⟨(vs 4 (V.v false [cB false] :: (vs 19 []))), (ns 19 []), 0⟩)
 | 1 => (Ex.exit 0, ⟨(vs 24 []), (ns 10 []), 0⟩)
 | _ => (.ret, ⟨[], [], 0⟩)
def T1_zgwp_4 : V → V → Tree
 | V.v false [C.d (.sl qD qE .evt qA)], V.v false [C.d (.sc (.int .i64 t5_))] => exT (fun j => ex_zgwp_4 qD qE qA j (S.zgwp_4_v qA ⟨t5_⟩)) (S.zgwp_4_j qA ⟨t5_⟩) [0, 1]
 | _, _ => .bad
def T_zgwp_4 (st : St) : Tree := bif okSt 24 6 0 [] st then T1_zgwp_4 (st.env.getD 0 .any) (st.env.getD 5 .any) else .bad
def b_zgwp_4 : Code := loopBy Tryz.f6 4
theorem rnd_zgwp_4 (qD : OBz) (qE : Bool) (qA : Le) (v : S.zgwp_4_V) : round2 cx_zgwp (hdI cx_zgwp (find []) [] none 0) 6 b_zgwp_4 [] 6 [4] (mk_zgwp_4 qD qE qA v) = (S.zgwp_4_R qA v).go (roundOut (mk_zgwp_4 qD qE qA) (ex_zgwp_4 qD qE qA)) := by kernel_rfl
theorem bs_zgwp_4 : loopsOf b_zgwp_4 ++ loopsInl [] = [] := by kernel_rfl
theorem ci_zgwp_4 (qD : OBz) (qE : Bool) (qA : Le) : ∀ v j v2, Lp (S.zgwp_4_r qA) v = some (j, v2) → Circles Tryz.prog cx_zgwp b_zgwp_4 (mk_zgwp_4 qD qE qA v) (ex_zgwp_4 qD qE qA j v2).1 (ex_zgwp_4 qD qE qA j v2).2 :=
 loop_ok2 (L := find []) (n := 0) (hints := [(6, 4, { keep := [0, 5], acc := [] })]) (cx_ok rfl) rdy_zgwp bs_zgwp_4 nilB (fun v => (rnd_zgwp_4 qD qE qA v).trans (DT.go_run _ _)) (by intro j v; unfold ex_zgwp_4; split <;> rfl)
theorem mke_zgwp_4 (qD : OBz) (qE : Bool) (qA : Le) (v : S.zgwp_4_V) : mk_zgwp_4 qD qE qA v = ⟨envOf 24 [(0, V.v false [C.d (.sl qD qE .evt qA)]), (5, (cV v.t5_))], heapOf 6 [], 0⟩ := by kernel_rfl
theorem lo1_zgwp_4 (e0 e5 : V)  e st2 (h : (T1_zgwp_4 e0 e5).eval = some (e, st2)) : Circles Tryz.prog cx_zgwp b_zgwp_4 ⟨envOf 24 [(0, e0), (5, e5)], heapOf 6 [], 0⟩ e st2 := by
 unfold T1_zgwp_4 at h
 split at h
 ·have := loop_tree (mk := mk_zgwp_4 _ _ _) (ci_zgwp_4 _ _ _) _ _ e st2 h
  rw [mke_zgwp_4] at this
  exact this
 ·cases h
theorem lok_zgwp_4 : LoopOk Tryz.prog cx_zgwp b_zgwp_4 T_zgwp_4 := by
 intro st e st2 h
 unfold T_zgwp_4 at h
 cases hk : okSt 24 6 0 [] st with
 | false => rw [hk] at h; cases h
 | true =>
  rw [hk] at h
  exact circles_keep (ks := [0, 5]) hk (lo1_zgwp_4 _ _ e st2 h)
structure S.zgwp_T where
 x0 : Bool
 deriving Inhabited
def S.zgwp_R (a0 : Le) (a1 : Int) : DT S.zgwp_T :=
let y0 : S.zgwp_4_V := { t5_ := 0 : S.zgwp_4_V }
(.br (xdec ((↑a0.length : Int) > a1))
(.leaf ⟨false⟩)
(.br (S.zgwp_4_j a0 y0 0)
(.leaf ⟨false⟩)
(.br (S.zgwp_4_j a0 y0 1)
(.leaf ⟨true⟩)
.fail)))
def S.zgwp (a0 : Le) (a1 : Int) : Option S.zgwp_T := (S.zgwp_R a0 a1).run
def S.zgwp_is (a0 : Le) (a1 : Int) : Bool := (S.zgwp a0 a1).isSome
def S.zgwp_o (a0 : Le) (a1 : Int) : S.zgwp_T := (S.zgwp a0 a1).getD default
def ret_zgwp (b : Bool) (r : S.zgwp_T) : Ret := ⟨b, none, [(false, [cB r.x0])]⟩
def g_zgwp : Con
 | [(false, [.sl a0n a0f .evt a0]), (false, [.sc (.int .i64 a1)])] => some (ret_zgwp (S.zgwp_is a0 a1) (S.zgwp_o a0 a1))
 | _ => none
theorem raw_zgwp (a0n : OBz) (a0f : Bool) (a0 : Le) (a1 : Int) : evR2 cx_zgwp (hdI cx_zgwp (find [(4, T_zgwp_4)]) [] none 0) none Tryz.f6 6 none [(false, [.sl a0n a0f .evt a0]), (false, [dI a1])] some = (S.zgwp_R a0 a1).go (ret_zgwp true) := by kernel_rfl
theorem bs_zgwp : loopsIn Tryz.f6 [] = [b_zgwp_4] := by kernel_rfl
theorem zgwp_ok : Stands Tryz.prog tyTab 6 g_zgwp := by
 refine stands3 (L := find [(4, T_zgwp_4)]) (n := 0) (hints := [(6, 4, { keep := [0, 5], acc := [] })]) (cx_ok rfl) rdy_zgwp ⟨by kernel_rfl, by kernel_rfl, by kernel_rfl⟩ bs_zgwp (consB (fun T h => by have e : T_zgwp_4 = T := Option.some.inj (show some T_zgwp_4 = some T from h); exact e ▸ lok_zgwp_4) nilB) (fun das r hG hr => ?_)
 unfold g_zgwp at hG
 split at hG
 ·rename_i a0n a0f a0 a1
  injection hG with hG; subst hG
  exact ⟨none, true, win default ((raw_zgwp a0n a0f a0 a1).trans (DT.go_run _ _)) hr⟩
 ·cases hG
end
end Go.Eng
