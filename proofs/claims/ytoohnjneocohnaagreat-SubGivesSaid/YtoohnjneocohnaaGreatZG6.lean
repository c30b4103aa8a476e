/- Contracts, laid by program. -/
import Derived.Test.YtoohnjneocohnaaGreatZG5
set_option maxHeartbeats 2000000
set_option maxRecDepth 10000
set_option linter.unusedVariables false
namespace Go.Eng
noncomputable section
open Go Go.Eng Go.Proofs Go.Eng.Tab
abbrev cx_zpxz : Cx := mkCx2 tyTab [(52, g_zzvv)] [] [] []
theorem rdy_zpxz : Ready Tryz.prog tyTab [(52, g_zzvv)] [] [] := ⟨consG2 zzvv_ok (noneG2), noneI2, noneF2⟩
structure S.zpxz_T where
 x0 : Bool
 deriving Inhabited
def S.zpxz_R (a0_2 a0_3 a0_4 : Int) (c0 : Ls) : DT S.zpxz_T :=
(.br (S.zzvv_is c0 a0_2 a0_3 a0_4)
(.leaf ⟨xnot (S.zzvv_o c0 a0_2 a0_3 a0_4).x0⟩)
.fail)
def S.zpxz (a0_2 a0_3 a0_4 : Int) (c0 : Ls) : Option S.zpxz_T := (S.zpxz_R a0_2 a0_3 a0_4 c0).run
def S.zpxz_is (a0_2 a0_3 a0_4 : Int) (c0 : Ls) : Bool := (S.zpxz a0_2 a0_3 a0_4 c0).isSome
def S.zpxz_o (a0_2 a0_3 a0_4 : Int) (c0 : Ls) : S.zpxz_T := (S.zpxz a0_2 a0_3 a0_4 c0).getD default
def ret_zpxz (b : Bool) (r : S.zpxz_T) : Ret := ⟨b, none, [(false, [cB r.x0])]⟩
def g_zpxz : Con
 | [(true, [.sc (.int .i64 a0_0), .sc (.int .i64 a0_1), .sc (.int .i64 a0_2), .sc (.int .i64 a0_3), .sc (.int .i64 a0_4), .sc (.int .i64 a0_5), .sc (.bool a0_6)]), (false, [.ref [.sl c0n c0f .step c0, .sc (.int .i64 c1), .sc (.int .i64 c2), .sc (.int .i64 c3), .sc (.int .i64 c4), .sl c5n c5f .run c5, .sc (.int .i64 c6)]])] => some (ret_zpxz (S.zpxz_is a0_2 a0_3 a0_4 c0) (S.zpxz_o a0_2 a0_3 a0_4 c0))
 | _ => none
theorem raw_zpxz (a0_0 a0_1 a0_2 a0_3 a0_4 a0_5 : Int) (a0_6 : Bool) (c0n : OBz) (c0f : Bool) (c0 : Ls) (c1 c2 c3 c4 : Int) (c5n : OBz) (c5f : Bool) (c5 : Lr) (c6 : Int) : evR2 cx_zpxz (hdI cx_zpxz (find []) [] none 0) none Tryz.f51 51 none [(true, [dI a0_0, dI a0_1, dI a0_2, dI a0_3, dI a0_4, dI a0_5, .sc (.bool a0_6)]), (false, [.ref [.sl c0n c0f .step c0, dI c1, dI c2, dI c3, dI c4, .sl c5n c5f .run c5, dI c6]])] some = (S.zpxz_R a0_2 a0_3 a0_4 c0).go (ret_zpxz true) := by kernel_rfl
theorem bs_zpxz : loopsIn Tryz.f51 [] = [] := by kernel_rfl
theorem zpxz_ok : Stands Tryz.prog tyTab 51 g_zpxz := by
 refine stands3 (L := find []) (n := 0) (hints := []) (cx_ok rfl) rdy_zpxz ⟨by kernel_rfl, by kernel_rfl, by kernel_rfl⟩ bs_zpxz nilB (fun das r hG hr => ?_)
 unfold g_zpxz at hG
 split at hG
 ·rename_i a0_0 a0_1 a0_2 a0_3 a0_4 a0_5 a0_6 c0n c0f c0 c1 c2 c3 c4 c5n c5f c5 c6
  injection hG with hG; subst hG
  exact ⟨none, true, win default ((raw_zpxz a0_0 a0_1 a0_2 a0_3 a0_4 a0_5 a0_6 c0n c0f c0 c1 c2 c3 c4 c5n c5f c5 c6).trans (DT.go_run _ _)) hr⟩
 ·cases hG
abbrev cx_zzuc : Cx := mkCx2 tyTab [(51, g_zpxz)] [] [(67, 2, { keep := [0, 1, 7, 8], acc := [] })] []
theorem rdy_zzuc : Ready Tryz.prog tyTab [(51, g_zpxz)] [] [] := ⟨consG2 zpxz_ok (noneG2), noneI2, noneF2⟩
structure S.zzuc_2_V where
 t8_ : Int
def S.zzuc_2_R (qA : Lr) (t_1_0b_0_0 : Ls) (qB : Int) (v : S.zzuc_2_V) : DT (Option Nat × S.zzuc_2_V) :=
let y0 : Ty .run := qA.getD v.t8_.toNat (dflt .run)
let y1 := y0.step
let y2 := y0.n
let y3 := y0.many
(.br (xdec (v.t8_ < qB))
(.br (xdec (0 ≤ v.t8_) && xdec (v.t8_ < (↑qA.length : Int)))
(.br (S.zpxz_is y1 y2 y3 t_1_0b_0_0)
(.br ((S.zpxz_o y1 y2 y3 t_1_0b_0_0).x0)
(.leaf (some 0, v))
(.leaf (none, ⟨xwrap .i64 (v.t8_ + 1)⟩)))
.fail)
.fail)
(.leaf (some 1, v)))
def S.zzuc_2_r (qA : Lr) (t_1_0b_0_0 : Ls) (qB : Int) (v : S.zzuc_2_V) : Option (Option Nat × S.zzuc_2_V) := (S.zzuc_2_R qA t_1_0b_0_0 qB v).run
def S.zzuc_2_j (qA : Lr) (t_1_0b_0_0 : Ls) (qB : Int) (v : S.zzuc_2_V) (j : Nat) : Bool := Lp_j (S.zzuc_2_r qA t_1_0b_0_0 qB) v j
def S.zzuc_2_v (qA : Lr) (t_1_0b_0_0 : Ls) (qB : Int) (v : S.zzuc_2_V) : S.zzuc_2_V := Lp_v (S.zzuc_2_r qA t_1_0b_0_0 qB) v
def mk_zzuc_2 (qC : OBz) (qD : Bool) (qA : Lr) (t_1_0b_0_0n : OBz) (t_1_0b_0_0f : Bool) (t_1_0b_0_0 : Ls) (t_1_0b_0_1 t_1_0b_0_2 t_1_0b_0_3 t_1_0b_0_4 : Int) (t_1_0b_0_5n : OBz) (t_1_0b_0_5f : Bool) (t_1_0b_0_5 : Lr) (t_1_0b_0_6 qB : Int) (v : S.zzuc_2_V) : St := ⟨(V.v false [C.d (.sl qC qD .run qA)] :: (V.v false [C.d (D.fn 51 [] [[D.sl t_1_0b_0_0n t_1_0b_0_0f .step t_1_0b_0_0, D.sc (Sc.int IntKind.i64 t_1_0b_0_1), D.sc (Sc.int IntKind.i64 t_1_0b_0_2), D.sc (Sc.int IntKind.i64 t_1_0b_0_3), D.sc (Sc.int IntKind.i64 t_1_0b_0_4), D.sl t_1_0b_0_5n t_1_0b_0_5f .run t_1_0b_0_5, D.sc (Sc.int IntKind.i64 t_1_0b_0_6)]])] :: (vs 5 ((cV qB) :: ((cV v.t8_) :: (vs 10 [])))))), (ns 4 []), 0⟩
def ex_zzuc_2 (qC : OBz) (qD : Bool) (qA : Lr) (t_1_0b_0_0n : OBz) (t_1_0b_0_0f : Bool) (t_1_0b_0_0 : Ls) (t_1_0b_0_1 t_1_0b_0_2 t_1_0b_0_3 t_1_0b_0_4 : Int) (t_1_0b_0_5n : OBz) (t_1_0b_0_5f : Bool) (t_1_0b_0_5 : Lr) (t_1_0b_0_6 qB : Int) (j : Nat) (v : S.zzuc_2_V) : Ex × St := match j with
 | 0 => (Ex.ret, ⟨(vs 4 ((cV v.t8_) :: (vs 14 []))), (ns 15 []), 0⟩)
 | 1 => (Ex.exit 0, ⟨(vs 19 []), (ns 5 []), 0⟩)
 | _ => (.ret, ⟨[], [], 0⟩)
def T1_zzuc_2 : V → V → V → V → Tree
 | V.v false [C.d (.sl qC qD .run qA)], V.v false [C.d (D.fn 51 [] [[D.sl t_1_0b_0_0n t_1_0b_0_0f .step t_1_0b_0_0, D.sc (Sc.int IntKind.i64 t_1_0b_0_1), D.sc (Sc.int IntKind.i64 t_1_0b_0_2), D.sc (Sc.int IntKind.i64 t_1_0b_0_3), D.sc (Sc.int IntKind.i64 t_1_0b_0_4), D.sl t_1_0b_0_5n t_1_0b_0_5f .run t_1_0b_0_5, D.sc (Sc.int IntKind.i64 t_1_0b_0_6)]])], V.v false [C.d (.sc (.int .i64 qB))], V.v false [C.d (.sc (.int .i64 t8_))] => exT (fun j => ex_zzuc_2 qC qD qA t_1_0b_0_0n t_1_0b_0_0f t_1_0b_0_0 t_1_0b_0_1 t_1_0b_0_2 t_1_0b_0_3 t_1_0b_0_4 t_1_0b_0_5n t_1_0b_0_5f t_1_0b_0_5 t_1_0b_0_6 qB j (S.zzuc_2_v qA t_1_0b_0_0 qB ⟨t8_⟩)) (S.zzuc_2_j qA t_1_0b_0_0 qB ⟨t8_⟩) [0, 1]
 | _, _, _, _ => .bad
def T_zzuc_2 (st : St) : Tree := bif okSt 19 4 0 [] st then T1_zzuc_2 (st.env.getD 0 .any) (st.env.getD 1 .any) (st.env.getD 7 .any) (st.env.getD 8 .any) else .bad
def b_zzuc_2 : Code := loopBy Tryz.f67 2
theorem rnd_zzuc_2 (qC : OBz) (qD : Bool) (qA : Lr) (t_1_0b_0_0n : OBz) (t_1_0b_0_0f : Bool) (t_1_0b_0_0 : Ls) (t_1_0b_0_1 t_1_0b_0_2 t_1_0b_0_3 t_1_0b_0_4 : Int) (t_1_0b_0_5n : OBz) (t_1_0b_0_5f : Bool) (t_1_0b_0_5 : Lr) (t_1_0b_0_6 qB : Int) (v : S.zzuc_2_V) : round2 cx_zzuc (hdI cx_zzuc (find []) [] none 0) 67 b_zzuc_2 [] 4 [4] (mk_zzuc_2 qC qD qA t_1_0b_0_0n t_1_0b_0_0f t_1_0b_0_0 t_1_0b_0_1 t_1_0b_0_2 t_1_0b_0_3 t_1_0b_0_4 t_1_0b_0_5n t_1_0b_0_5f t_1_0b_0_5 t_1_0b_0_6 qB v) = (S.zzuc_2_R qA t_1_0b_0_0 qB v).go (roundOut (mk_zzuc_2 qC qD qA t_1_0b_0_0n t_1_0b_0_0f t_1_0b_0_0 t_1_0b_0_1 t_1_0b_0_2 t_1_0b_0_3 t_1_0b_0_4 t_1_0b_0_5n t_1_0b_0_5f t_1_0b_0_5 t_1_0b_0_6 qB) (ex_zzuc_2 qC qD qA t_1_0b_0_0n t_1_0b_0_0f t_1_0b_0_0 t_1_0b_0_1 t_1_0b_0_2 t_1_0b_0_3 t_1_0b_0_4 t_1_0b_0_5n t_1_0b_0_5f t_1_0b_0_5 t_1_0b_0_6 qB)) := by kernel_rfl
theorem bs_zzuc_2 : loopsOf b_zzuc_2 ++ loopsInl [] = [] := by kernel_rfl
theorem ci_zzuc_2 (qC : OBz) (qD : Bool) (qA : Lr) (t_1_0b_0_0n : OBz) (t_1_0b_0_0f : Bool) (t_1_0b_0_0 : Ls) (t_1_0b_0_1 t_1_0b_0_2 t_1_0b_0_3 t_1_0b_0_4 : Int) (t_1_0b_0_5n : OBz) (t_1_0b_0_5f : Bool) (t_1_0b_0_5 : Lr) (t_1_0b_0_6 qB : Int) : ∀ v j v2, Lp (S.zzuc_2_r qA t_1_0b_0_0 qB) v = some (j, v2) → Circles Tryz.prog cx_zzuc b_zzuc_2 (mk_zzuc_2 qC qD qA t_1_0b_0_0n t_1_0b_0_0f t_1_0b_0_0 t_1_0b_0_1 t_1_0b_0_2 t_1_0b_0_3 t_1_0b_0_4 t_1_0b_0_5n t_1_0b_0_5f t_1_0b_0_5 t_1_0b_0_6 qB v) (ex_zzuc_2 qC qD qA t_1_0b_0_0n t_1_0b_0_0f t_1_0b_0_0 t_1_0b_0_1 t_1_0b_0_2 t_1_0b_0_3 t_1_0b_0_4 t_1_0b_0_5n t_1_0b_0_5f t_1_0b_0_5 t_1_0b_0_6 qB j v2).1 (ex_zzuc_2 qC qD qA t_1_0b_0_0n t_1_0b_0_0f t_1_0b_0_0 t_1_0b_0_1 t_1_0b_0_2 t_1_0b_0_3 t_1_0b_0_4 t_1_0b_0_5n t_1_0b_0_5f t_1_0b_0_5 t_1_0b_0_6 qB j v2).2 :=
 loop_ok2 (L := find []) (n := 0) (hints := [(67, 2, { keep := [0, 1, 7, 8], acc := [] })]) (cx_ok rfl) rdy_zzuc bs_zzuc_2 nilB (fun v => (rnd_zzuc_2 qC qD qA t_1_0b_0_0n t_1_0b_0_0f t_1_0b_0_0 t_1_0b_0_1 t_1_0b_0_2 t_1_0b_0_3 t_1_0b_0_4 t_1_0b_0_5n t_1_0b_0_5f t_1_0b_0_5 t_1_0b_0_6 qB v).trans (DT.go_run _ _)) (by intro j v; unfold ex_zzuc_2; split <;> rfl)
theorem mke_zzuc_2 (qC : OBz) (qD : Bool) (qA : Lr) (t_1_0b_0_0n : OBz) (t_1_0b_0_0f : Bool) (t_1_0b_0_0 : Ls) (t_1_0b_0_1 t_1_0b_0_2 t_1_0b_0_3 t_1_0b_0_4 : Int) (t_1_0b_0_5n : OBz) (t_1_0b_0_5f : Bool) (t_1_0b_0_5 : Lr) (t_1_0b_0_6 qB : Int) (v : S.zzuc_2_V) : mk_zzuc_2 qC qD qA t_1_0b_0_0n t_1_0b_0_0f t_1_0b_0_0 t_1_0b_0_1 t_1_0b_0_2 t_1_0b_0_3 t_1_0b_0_4 t_1_0b_0_5n t_1_0b_0_5f t_1_0b_0_5 t_1_0b_0_6 qB v = ⟨envOf 19 [(0, V.v false [C.d (.sl qC qD .run qA)]), (1, V.v false
 [C.d
     (D.fn 51 []
      [[D.sl t_1_0b_0_0n t_1_0b_0_0f .step t_1_0b_0_0, D.sc (Sc.int IntKind.i64 t_1_0b_0_1), D.sc (Sc.int IntKind.i64 t_1_0b_0_2), D.sc (Sc.int IntKind.i64 t_1_0b_0_3),
          D.sc (Sc.int IntKind.i64 t_1_0b_0_4), D.sl t_1_0b_0_5n t_1_0b_0_5f .run t_1_0b_0_5, D.sc (Sc.int IntKind.i64 t_1_0b_0_6)]])]), (7, (cV qB)), (8, (cV v.t8_))], heapOf 4 [], 0⟩ := by kernel_rfl
theorem lo1_zzuc_2 (e0 e1 e7 e8 : V)  e st2 (h : (T1_zzuc_2 e0 e1 e7 e8).eval = some (e, st2)) : Circles Tryz.prog cx_zzuc b_zzuc_2 ⟨envOf 19 [(0, e0), (1, e1), (7, e7), (8, e8)], heapOf 4 [], 0⟩ e st2 := by
 unfold T1_zzuc_2 at h
 split at h
 ·have := loop_tree (mk := mk_zzuc_2 _ _ _ _ _ _ _ _ _ _ _ _ _ _ _) (ci_zzuc_2 _ _ _ _ _ _ _ _ _ _ _ _ _ _ _) _ _ e st2 h
  rw [mke_zzuc_2] at this
  exact this
 ·cases h
theorem lok_zzuc_2 : LoopOk Tryz.prog cx_zzuc b_zzuc_2 T_zzuc_2 := by
 intro st e st2 h
 unfold T_zzuc_2 at h
 cases hk : okSt 19 4 0 [] st with
 | false => rw [hk] at h; cases h
 | true =>
  rw [hk] at h
  exact circles_keep (ks := [0, 1, 7, 8]) hk (lo1_zzuc_2 _ _ _ _ e st2 h)
structure S.zzuc_T where
 x0 : Int
 deriving Inhabited
def S.zzuc_R (a0 : Lr) (c0 : Ls) : DT S.zzuc_T :=
let y0 : Int := (↑a0.length : Int)
let y1 : S.zzuc_2_V := { t8_ := 0 : S.zzuc_2_V }
(.br (S.zzuc_2_j a0 c0 y0 y1 0)
(.leaf ⟨(S.zzuc_2_v a0 c0 y0 y1).t8_⟩)
(.br (S.zzuc_2_j a0 c0 y0 y1 1)
(.leaf ⟨-1⟩)
.fail))
def S.zzuc (a0 : Lr) (c0 : Ls) : Option S.zzuc_T := (S.zzuc_R a0 c0).run
def S.zzuc_is (a0 : Lr) (c0 : Ls) : Bool := (S.zzuc a0 c0).isSome
def S.zzuc_o (a0 : Lr) (c0 : Ls) : S.zzuc_T := (S.zzuc a0 c0).getD default
def ret_zzuc (b : Bool) (r : S.zzuc_T) : Ret := ⟨b, none, [(false, [(cI r.x0)])]⟩
def g_zzuc : Con
 | [(false, [.sl a0n a0f .run a0]), (false, [.fn 51 [] [[.sl c0n c0f .step c0, .sc (.int .i64 c1), .sc (.int .i64 c2), .sc (.int .i64 c3), .sc (.int .i64 c4), .sl c5n c5f .run c5, .sc (.int .i64 c6)]]])] => some (ret_zzuc (S.zzuc_is a0 c0) (S.zzuc_o a0 c0))
 | _ => none
theorem raw_zzuc (a0n : OBz) (a0f : Bool) (a0 : Lr) (c0n : OBz) (c0f : Bool) (c0 : Ls) (c1 c2 c3 c4 : Int) (c5n : OBz) (c5f : Bool) (c5 : Lr) (c6 : Int) : evR2 cx_zzuc (hdI cx_zzuc (find [(2, T_zzuc_2)]) [] none 0) none Tryz.f67 67 none [(false, [.sl a0n a0f .run a0]), (false, [.fn 51 [] [[.sl c0n c0f .step c0, dI c1, dI c2, dI c3, dI c4, .sl c5n c5f .run c5, dI c6]]])] some = (S.zzuc_R a0 c0).go (ret_zzuc true) := by kernel_rfl
theorem bs_zzuc : loopsIn Tryz.f67 [] = [b_zzuc_2] := by kernel_rfl
theorem zzuc_ok : Stands Tryz.prog tyTab 67 g_zzuc := by
 refine stands3 (L := find [(2, T_zzuc_2)]) (n := 0) (hints := [(67, 2, { keep := [0, 1, 7, 8], acc := [] })]) (cx_ok rfl) rdy_zzuc ⟨by kernel_rfl, by kernel_rfl, by kernel_rfl⟩ bs_zzuc (consB (fun T h => by have e : T_zzuc_2 = T := Option.some.inj (show some T_zzuc_2 = some T from h); exact e ▸ lok_zzuc_2) nilB) (fun das r hG hr => ?_)
 unfold g_zzuc at hG
 split at hG
 ·rename_i a0n a0f a0 c0n c0f c0 c1 c2 c3 c4 c5n c5f c5 c6
  injection hG with hG; subst hG
  exact ⟨none, true, win default ((raw_zzuc a0n a0f a0 c0n c0f c0 c1 c2 c3 c4 c5n c5f c5 c6).trans (DT.go_run _ _)) hr⟩
 ·cases hG
abbrev cx_z3nm : Cx := mkCx2 tyTab [(67, g_zzuc)] [] [] []
theorem rdy_z3nm : Ready Tryz.prog tyTab [(67, g_zzuc)] [] [] := ⟨consG2 zzuc_ok (noneG2), noneI2, noneF2⟩
structure S.z3nm_T where
 x0 : Bool
 deriving Inhabited
def S.z3nm_R (a0 : Lr) (c0 : Ls) : DT S.z3nm_T :=
(.br (S.zzuc_is a0 c0)
(.leaf ⟨xdec ((S.zzuc_o a0 c0).x0 ≥ 0)⟩)
.fail)
def S.z3nm (a0 : Lr) (c0 : Ls) : Option S.z3nm_T := (S.z3nm_R a0 c0).run
def S.z3nm_is (a0 : Lr) (c0 : Ls) : Bool := (S.z3nm a0 c0).isSome
def S.z3nm_o (a0 : Lr) (c0 : Ls) : S.z3nm_T := (S.z3nm a0 c0).getD default
def ret_z3nm (b : Bool) (r : S.z3nm_T) : Ret := ⟨b, none, [(false, [cB r.x0])]⟩
def g_z3nm : Con
 | [(false, [.sl a0n a0f .run a0]), (false, [.fn 51 [] [[.sl c0n c0f .step c0, .sc (.int .i64 c1), .sc (.int .i64 c2), .sc (.int .i64 c3), .sc (.int .i64 c4), .sl c5n c5f .run c5, .sc (.int .i64 c6)]]])] => some (ret_z3nm (S.z3nm_is a0 c0) (S.z3nm_o a0 c0))
 | _ => none
theorem raw_z3nm (a0n : OBz) (a0f : Bool) (a0 : Lr) (c0n : OBz) (c0f : Bool) (c0 : Ls) (c1 c2 c3 c4 : Int) (c5n : OBz) (c5f : Bool) (c5 : Lr) (c6 : Int) : evR2 cx_z3nm (hdI cx_z3nm (find []) [] none 0) none Tryz.f53 53 none [(false, [.sl a0n a0f .run a0]), (false, [.fn 51 [] [[.sl c0n c0f .step c0, dI c1, dI c2, dI c3, dI c4, .sl c5n c5f .run c5, dI c6]]])] some = (S.z3nm_R a0 c0).go (ret_z3nm true) := by kernel_rfl
theorem bs_z3nm : loopsIn Tryz.f53 [] = [] := by kernel_rfl
theorem z3nm_ok : Stands Tryz.prog tyTab 53 g_z3nm := by
 refine stands3 (L := find []) (n := 0) (hints := []) (cx_ok rfl) rdy_z3nm ⟨by kernel_rfl, by kernel_rfl, by kernel_rfl⟩ bs_z3nm nilB (fun das r hG hr => ?_)
 unfold g_z3nm at hG
 split at hG
 ·rename_i a0n a0f a0 c0n c0f c0 c1 c2 c3 c4 c5n c5f c5 c6
  injection hG with hG; subst hG
  exact ⟨none, true, win default ((raw_z3nm a0n a0f a0 c0n c0f c0 c1 c2 c3 c4 c5n c5f c5 c6).trans (DT.go_run _ _)) hr⟩
 ·cases hG
abbrev cx_z3ps : Cx := mkCx2 tyTab [(53, g_z3nm)] [] [] []
theorem rdy_z3ps : Ready Tryz.prog tyTab [(53, g_z3nm)] [] [] := ⟨consG2 z3nm_ok (noneG2), noneI2, noneF2⟩
structure S.z3ps_T where
 x0 : Bool
 deriving Inhabited
def S.z3ps_R (a0_0 : Ls) (a0_5 : Lr) (a0_6 : Int) : DT S.z3ps_T :=
let y0 : Int := (↑a0_5.length : Int)
(.br (xdec (y0 > 5))
(.leaf ⟨false⟩)
(.br (S.z3nm_is a0_5 a0_0)
(.br ((S.z3nm_o a0_5 a0_0).x0)
(.leaf ⟨false⟩)
(.br (xeqI a0_6 (-1))
(.leaf ⟨true⟩)
(.br (xdec (a0_6 ≥ 0))
(.leaf ⟨xeqI y0 0⟩)
(.leaf ⟨false⟩))))
.fail))
def S.z3ps (a0_0 : Ls) (a0_5 : Lr) (a0_6 : Int) : Option S.z3ps_T := (S.z3ps_R a0_0 a0_5 a0_6).run
def S.z3ps_is (a0_0 : Ls) (a0_5 : Lr) (a0_6 : Int) : Bool := (S.z3ps a0_0 a0_5 a0_6).isSome
def S.z3ps_o (a0_0 : Ls) (a0_5 : Lr) (a0_6 : Int) : S.z3ps_T := (S.z3ps a0_0 a0_5 a0_6).getD default
def ret_z3ps (b : Bool) (r : S.z3ps_T) : Ret := ⟨b, none, [(false, [cB r.x0])]⟩
def g_z3ps : Con
 | [(true, [.sl a0_0n a0_0f .step a0_0, .sc (.int .i64 a0_1), .sc (.int .i64 a0_2), .sc (.int .i64 a0_3), .sc (.int .i64 a0_4), .sl a0_5n a0_5f .run a0_5, .sc (.int .i64 a0_6)])] => some (ret_z3ps (S.z3ps_is a0_0 a0_5 a0_6) (S.z3ps_o a0_0 a0_5 a0_6))
 | _ => none
theorem raw_z3ps (a0_0n : OBz) (a0_0f : Bool) (a0_0 : Ls) (a0_1 a0_2 a0_3 a0_4 : Int) (a0_5n : OBz) (a0_5f : Bool) (a0_5 : Lr) (a0_6 : Int) : evR2 cx_z3ps (hdI cx_z3ps (find []) [] none 0) none Tryz.f32 32 none [(true, [.sl a0_0n a0_0f .step a0_0, dI a0_1, dI a0_2, dI a0_3, dI a0_4, .sl a0_5n a0_5f .run a0_5, dI a0_6])] some = (S.z3ps_R a0_0 a0_5 a0_6).go (ret_z3ps true) := by kernel_rfl
theorem bs_z3ps : loopsIn Tryz.f32 [] = [] := by kernel_rfl
theorem z3ps_ok : Stands Tryz.prog tyTab 32 g_z3ps := by
 refine stands3 (L := find []) (n := 0) (hints := []) (cx_ok rfl) rdy_z3ps ⟨by kernel_rfl, by kernel_rfl, by kernel_rfl⟩ bs_z3ps nilB (fun das r hG hr => ?_)
 unfold g_z3ps at hG
 split at hG
 ·rename_i a0_0n a0_0f a0_0 a0_1 a0_2 a0_3 a0_4 a0_5n a0_5f a0_5 a0_6
  injection hG with hG; subst hG
  exact ⟨none, true, win default ((raw_z3ps a0_0n a0_0f a0_0 a0_1 a0_2 a0_3 a0_4 a0_5n a0_5f a0_5 a0_6).trans (DT.go_run _ _)) hr⟩
 ·cases hG
abbrev cx_z5yz : Cx := mkCx2 tyTab [] [] [] []
theorem rdy_z5yz : Ready Tryz.prog tyTab [] [] [] := ⟨noneG2, noneI2, noneF2⟩
structure S.z5yz_T where
 x0 : Lr
 x1 : Nat
 deriving Inhabited
def S.z5yz_R  : DT S.z5yz_T :=
(.leaf ⟨[], 0⟩)
def S.z5yz  : Option S.z5yz_T := (S.z5yz_R ).run
def S.z5yz_is  : Bool := (S.z5yz ).isSome
def S.z5yz_o  : S.z5yz_T := (S.z5yz ).getD default
def ret_z5yz (b : Bool) (r : S.z5yz_T) : Ret := ⟨b, some (73, (⟨.run, r.x0⟩ : (t : ET) × List (Ty t))), [(false, [C.own 4 .run false 0 r.x1])]⟩
def g_z5yz : Con
 | [(false, [.sl (some true) true .run []])] => some (ret_z5yz (S.z5yz_is ) (S.z5yz_o ))
 | _ => none
theorem raw_z5yz  : evR2 cx_z5yz (hdI cx_z5yz (find []) [] none 0) none Tryz.f44 44 (some 73) [(false, [.sl (some true) true .run []])] some = (S.z5yz_R ).go (ret_z5yz true) := by kernel_rfl
theorem bs_z5yz : loopsIn Tryz.f44 [] = [] := by kernel_rfl
theorem z5yz_ok : Stands Tryz.prog tyTab 44 g_z5yz := by
 refine stands3 (L := find []) (n := 0) (hints := []) (cx_ok rfl) rdy_z5yz ⟨by kernel_rfl, by kernel_rfl, by kernel_rfl⟩ bs_z5yz nilB (fun das r hG hr => ?_)
 unfold g_z5yz at hG
 split at hG
 ·injection hG with hG; subst hG
  exact ⟨(some 73), true, win default ((raw_z5yz ).trans (DT.go_run _ _)) hr⟩
 ·cases hG
abbrev cx_zjge : Cx := mkCx2 tyTab [] [] [] []
theorem rdy_zjge : Ready Tryz.prog tyTab [] [] [] := ⟨noneG2, noneI2, noneF2⟩
structure S.zjge_T where
 x0 : Lr
 x1 : Nat
 deriving Inhabited
def S.zjge_R (a0 : Lr) : DT S.zjge_T :=
let y0 : Nat := 0 + a0.length
(.br (xdec (0 ≤ (List.replicate 0 (dflt .run)).length) && xdec (y0 ≤ 1048576))
(.leaf ⟨List.take 0 [] ++ a0, y0⟩)
.fail)
def S.zjge (a0 : Lr) : Option S.zjge_T := (S.zjge_R a0).run
def S.zjge_is (a0 : Lr) : Bool := (S.zjge a0).isSome
def S.zjge_o (a0 : Lr) : S.zjge_T := (S.zjge a0).getD default
def ret_zjge (b : Bool) (r : S.zjge_T) : Ret := ⟨b, some (73, (⟨.run, r.x0⟩ : (t : ET) × List (Ty t))), [(false, [C.own 5 .run false 0 r.x1])]⟩
def g_zjge : Con
 | [(false, [.sl (some false) false .run a0])] => some (ret_zjge (S.zjge_is a0) (S.zjge_o a0))
 | _ => none
theorem raw_zjge (a0 : Lr) : evR2 cx_zjge (hdI cx_zjge (find []) [] none 0) none Tryz.f44 44 (some 73) [(false, [.sl (some false) false .run a0])] some = (S.zjge_R a0).go (ret_zjge true) := by kernel_rfl
theorem bs_zjge : loopsIn Tryz.f44 [] = [] := by kernel_rfl
theorem zjge_ok : Stands Tryz.prog tyTab 44 g_zjge := by
 refine stands3 (L := find []) (n := 0) (hints := []) (cx_ok rfl) rdy_zjge ⟨by kernel_rfl, by kernel_rfl, by kernel_rfl⟩ bs_zjge nilB (fun das r hG hr => ?_)
 unfold g_zjge at hG
 split at hG
 ·rename_i a0
  injection hG with hG; subst hG
  exact ⟨(some 73), true, win default ((raw_zjge a0).trans (DT.go_run _ _)) hr⟩
 ·cases hG
def g_zyre : Con := fun das => match das with | [(false, [.sl _ _ t2 l])] => if e : t2 = .run then some (ret_zjge (S.zjge_is (e ▸ l : List (Ty .run))) (S.zjge_o (e ▸ l : List (Ty .run)))) else none | _ => none
theorem zyre_ok : Stands Tryz.prog tyTab 44 g_zyre := nil_split (t := .run) (r := fun l => ret_zjge (S.zjge_is l) (S.zjge_o l)) z5yz_ok zjge_ok (r0 := ret_z5yz true (S.z5yz_o)) (by kernel_rfl) ⟨by kernel_rfl, by kernel_rfl, fun nm => by kernel_rfl⟩ (fun l => rfl)
abbrev cx_zpf4 : Cx := mkCx2 tyTab [] [] [] []
theorem rdy_zpf4 : Ready Tryz.prog tyTab [] [] [] := ⟨noneG2, noneI2, noneF2⟩
structure S.zpf4_T where
 x0 : Ls
 x1 : Int
 x2 : Int
 x3 : Int
 x4 : Int
 x5 : Lr
 x6 : Int
 deriving Inhabited
def S.zpf4_R (a0_0 : Ls) (a0_1 a0_2 a0_3 a0_4 : Int) : DT S.zpf4_T :=
(.leaf ⟨a0_0, a0_1, a0_2, a0_3, a0_4, [], -1⟩)
def S.zpf4 (a0_0 : Ls) (a0_1 a0_2 a0_3 a0_4 : Int) : Option S.zpf4_T := (S.zpf4_R a0_0 a0_1 a0_2 a0_3 a0_4).run
def S.zpf4_is (a0_0 : Ls) (a0_1 a0_2 a0_3 a0_4 : Int) : Bool := (S.zpf4 a0_0 a0_1 a0_2 a0_3 a0_4).isSome
def S.zpf4_o (a0_0 : Ls) (a0_1 a0_2 a0_3 a0_4 : Int) : S.zpf4_T := (S.zpf4 a0_0 a0_1 a0_2 a0_3 a0_4).getD default
def ret_zpf4 (b : Bool) (r : S.zpf4_T) : Ret := ⟨b, none, [(true,
    [cL .step r.x0, (cI r.x1), (cI r.x2), (cI r.x3),
     (cI r.x4), cL .run r.x5, (cI r.x6)])]⟩
def g_zpf4 : Con
 | [(true, [.sl a0_0n a0_0f .step a0_0, .sc (.int .i64 a0_1), .sc (.int .i64 a0_2), .sc (.int .i64 a0_3), .sc (.int .i64 a0_4)])] => some (ret_zpf4 (S.zpf4_is a0_0 a0_1 a0_2 a0_3 a0_4) (S.zpf4_o a0_0 a0_1 a0_2 a0_3 a0_4))
 | _ => none
theorem raw_zpf4 (a0_0n : OBz) (a0_0f : Bool) (a0_0 : Ls) (a0_1 a0_2 a0_3 a0_4 : Int) : evR2 cx_zpf4 (hdI cx_zpf4 (find []) [] none 0) none Tryz.f20 20 none [(true, [.sl a0_0n a0_0f .step a0_0, dI a0_1, dI a0_2, dI a0_3, dI a0_4])] some = (S.zpf4_R a0_0 a0_1 a0_2 a0_3 a0_4).go (ret_zpf4 true) := by kernel_rfl
theorem bs_zpf4 : loopsIn Tryz.f20 [] = [] := by kernel_rfl
theorem zpf4_ok : Stands Tryz.prog tyTab 20 g_zpf4 := by
 refine stands3 (L := find []) (n := 0) (hints := []) (cx_ok rfl) rdy_zpf4 ⟨by kernel_rfl, by kernel_rfl, by kernel_rfl⟩ bs_zpf4 nilB (fun das r hG hr => ?_)
 unfold g_zpf4 at hG
 split at hG
 ·rename_i a0_0n a0_0f a0_0 a0_1 a0_2 a0_3 a0_4
  injection hG with hG; subst hG
  exact ⟨none, true, win default ((raw_zpf4 a0_0n a0_0f a0_0 a0_1 a0_2 a0_3 a0_4).trans (DT.go_run _ _)) hr⟩
 ·cases hG
abbrev cx_zxf7 : Cx := mkCx2 tyTab [(32, g_z3ps), (42, g_zvb5), (43, g_zwus), (44, g_zyre)] [] [(27, 8, { keep := [3, 4, 5, 6, 8, 9, 10, 39, 40, 41], acc := [(8, some 0, .mat, 45), (10, none, .run, 0)] })] [(46, Tryz.f46)]
theorem rdy_zxf7 : Ready Tryz.prog tyTab [(32, g_z3ps), (42, g_zvb5), (43, g_zwus), (44, g_zyre)] [] [(46, Tryz.f46)] := ⟨consG2 z3ps_ok (consG2 zvb5_ok (consG2 zwus_ok (consG2 zyre_ok (noneG2)))), noneI2, consF2 ⟨by kernel_rfl, by kernel_rfl, by kernel_rfl⟩ (noneF2)⟩
structure S.zxf7_8_V where
 t10_f : Bool
 t10_l : Nat
 t41_ : Int
 h18_f : Bool
 h18_l : Nat
 h_33 : Lm
 h_34 : Lr
def S.zxf7_8_R (t39_l : Nat) (qE : Int) (qF : Ls) (qG qH qI qJ : Int) (qK : ByteArray) (qL : Int) (qM : Lv) (qN : Int) (h_30 : Lr) (v : S.zxf7_8_V) : DT (Option Nat × S.zxf7_8_V) :=
let y0 : Nat := 0 + v.t41_.toNat
let y1 : Ty .run := h_30.getD y0 (dflt .run)
let y2 := y1.first
let y3 := y1.at_
let y4 := y1.step
let y5 := y1.n
let y6 := y1.many
let y7 := y1.agg
let y8 := y1.bad
let y9 := S.zwus_o qF qG qH qI qJ y2 y3 y4 y5 y6 y7 y8 qK qL qM
let y10 := y9.x7
let y11 : Nat := 0 + 1
let y12 := y9.x0
let y13 := y9.x5
let y14 := y9.x6
let y15 : Run := { first := y12, at_ := y9.x1, step := y9.x2, n := y9.x3, many := y9.x4, agg := y13, bad := y14 : Run }
let y16 : Nat := v.t10_l + 1
let y17 : Int := xwrap .i64 (v.t41_ + 1)
let y18 : Mat := { start := y12, fin := qN, agg := y13, bad := y14 : Mat }
let y19 : Nat := v.h18_l + 1
(.br (xdec (v.t41_ < qE))
(.br (xdec (0 ≤ v.t41_) && xdec (v.t41_ < (↑t39_l : Int)))
(.br (xdec (y0 < h_30.length))
(.br (S.zwus_is qF qG qH qI qJ y2 y3 y4 y5 y6 y7 y8 qK qL qM)
(.br (xeqI y10 0)
(.br (xdec (y11 ≤ ((List.replicate 1 (dflt .run)).set 0 y15).length) && xdec (v.t10_l ≤ v.h_34.length) && xdec (y16 ≤ 1048576))
(.leaf (none, ⟨false, y16, y17, v.h18_f, v.h18_l, v.h_33, List.take v.t10_l v.h_34 ++ [y15]⟩))
.fail)
(.br (xeqI y10 2)
(.br (xdec (y11 ≤ ((List.replicate 1 (dflt .mat)).set 0 y18).length) && xdec (v.h18_l ≤ v.h_33.length) && xdec (y19 ≤ 1048576))
(.leaf (none, ⟨v.t10_f, v.t10_l, y17, false, y19, List.take v.h18_l v.h_33 ++ [y18], v.h_34⟩))
.fail)
(.leaf (none, ⟨v.t10_f, v.t10_l, y17, v.h18_f, v.h18_l, v.h_33, v.h_34⟩))))
.fail)
.fail)
.fail)
(.leaf (some 0, v)))
def S.zxf7_8_r (t39_l : Nat) (qE : Int) (qF : Ls) (qG qH qI qJ : Int) (qK : ByteArray) (qL : Int) (qM : Lv) (qN : Int) (h_30 : Lr) (v : S.zxf7_8_V) : Option (Option Nat × S.zxf7_8_V) := (S.zxf7_8_R t39_l qE qF qG qH qI qJ qK qL qM qN h_30 v).run
def S.zxf7_8_j (t39_l : Nat) (qE : Int) (qF : Ls) (qG qH qI qJ : Int) (qK : ByteArray) (qL : Int) (qM : Lv) (qN : Int) (h_30 : Lr) (v : S.zxf7_8_V) (j : Nat) : Bool := Lp_j (S.zxf7_8_r t39_l qE qF qG qH qI qJ qK qL qM qN h_30) v j
def S.zxf7_8_v (t39_l : Nat) (qE : Int) (qF : Ls) (qG qH qI qJ : Int) (qK : ByteArray) (qL : Int) (qM : Lv) (qN : Int) (h_30 : Lr) (v : S.zxf7_8_V) : S.zxf7_8_V := Lp_v (S.zxf7_8_r t39_l qE qF qG qH qI qJ qK qL qM qN h_30) v
def mk_zxf7_8 (qO : Bool) (t39_l : Nat) (qE : Int) (qP : OBz) (qQ : Bool) (qF : Ls) (qG qH qI qJ : Int) (qR : Bool) (h_0_5l : Nat) (qS : Int) (qK : ByteArray) (qL : Int) (qT : OBz) (qU : Bool) (qM : Lv) (qN : Int) (qV : OBz) (qW : Bool) (qX : Ls) (qY qZ rA rB : Int) (rC : OBz) (rD : Bool) (rE : Lr) (rF : Int) (h_30 : Lr) (v : S.zxf7_8_V) : St := ⟨(vs 3 (V.v false [C.ptr 0 0] :: (V.v false [C.ptr 1 0] :: (V.v false [C.ptr 2 0] :: (V.v false [C.ptr 3 0] :: (V.any :: (V.v false [C.ptr 18 0] :: (V.v false [C.clo 46 [] [18 + 0, 0 + 2]] :: (V.v false [C.own 34 .run v.t10_f 0 v.t10_l] :: (vs 28 (V.v false [C.own 30 .run qO 0 t39_l] :: ((cV qE) :: ((cV v.t41_) :: (vs 63 [])))))))))))))), (some (Blk.box 31 [C.d (.sl qP qQ .step qF), (cI qG), (cI qH), (cI qI), (cI qJ), C.own 7 .run qR 0 h_0_5l, (cI qS)]) :: (some (Blk.box 43 [C.d (.sc (.str qK)), (cI qL), C.d (.sl qT qU .val qM)]) :: (some (Blk.box 3 [(cI qN)]) :: (some (Blk.box 31 [C.d (.sl qV qW .step qX), (cI qY), (cI qZ), (cI rA), (cI rB), C.d (.sl rC rD .run rE), (cI rF)]) :: (ns 14 (some (Blk.box 32 [C.own 33 .mat v.h18_f 0 v.h18_l]) :: (ns 11 (some (Blk.arr 73 .run h_30) :: (none :: (none :: (some (Blk.arr 45 .mat v.h_33) :: (some (Blk.arr 73 .run v.h_34) :: [])))))))))))), 0⟩
def ex_zxf7_8 (qO : Bool) (t39_l : Nat) (qE : Int) (qP : OBz) (qQ : Bool) (qF : Ls) (qG qH qI qJ : Int) (qR : Bool) (h_0_5l : Nat) (qS : Int) (qK : ByteArray) (qL : Int) (qT : OBz) (qU : Bool) (qM : Lv) (qN : Int) (qV : OBz) (qW : Bool) (qX : Ls) (qY qZ rA rB : Int) (rC : OBz) (rD : Bool) (rE : Lr) (rF : Int) (h_30 : Lr) (j : Nat) (v : S.zxf7_8_V) : Ex × St := match j with
 | 0 => (Ex.exit 0, ⟨(vs 3 (V.v false [C.ptr 0 0] :: (V.v false [C.ptr 1 0] :: (V.v false [C.ptr 2 0] :: (V.v false [C.ptr 3 0] :: (V.any :: (V.v false [C.ptr 18 0] :: (V.v false [C.clo 46 [] [18 + 0, 0 + 2]] :: (V.v false [C.own 34 .run v.t10_f 0 v.t10_l] :: (vs 94 [])))))))))), (some
  (Blk.box 31
   [C.d (.sl qP qQ .step qF), (cI qG), (cI qH), (cI qI),
    (cI qJ), C.own 7 .run qR 0 h_0_5l, (cI qS)]) :: (some (Blk.box 43 [C.d (.sc (.str qK)), (cI qL), C.d (.sl qT qU .val qM)]) :: (some (Blk.box 3 [(cI qN)]) :: (some
  (Blk.box 31
   [C.d (.sl qV qW .step qX), (cI qY), (cI qZ), (cI rA),
    (cI rB), C.d (.sl rC rD .run rE), (cI rF)]) :: (ns 14 (some (Blk.box 32 [C.own 33 .mat v.h18_f 0 v.h18_l]) :: (ns 11 (some (Blk.arr 73 .run h_30) :: (none :: (none :: (some (Blk.arr 45 .mat v.h_33) :: (some (Blk.arr 73 .run v.h_34) :: (none :: []))))))))))))), 0⟩)
 | _ => (.ret, ⟨[], [], 0⟩)
def U_zxf7_8_e6 (x : V) (K : Tree) : Tree := match x with
 | V.v false [C.ptr 3 0] => K
 | _ => .bad
def U_zxf7_8_e8 (x : V) (K : Tree) : Tree := match x with
 | V.v false [C.ptr 18 0] => K
 | _ => .bad
def U_zxf7_8_e9 (x : V) (K : Tree) : Tree := match x with
 | V.v false [C.clo 46 [] [18 + 0, 0 + 2]] => K
 | _ => .bad
def U_zxf7_8_e10 (x : V) (K : Bool → Nat → Tree) : Tree := match x with
 | V.v false [C.own 34 .run t10_f 0 t10_l] => K t10_f t10_l
 | _ => .bad
def U_zxf7_8_e39 (x : V) (K : Bool → Nat → Tree) : Tree := match x with
 | V.v false [C.own 30 .run qO 0 t39_l] => K qO t39_l
 | _ => .bad
def U_zxf7_8_h0 (x : Option Blk) (K : OBz → Bool → Ls → Int → Int → Int → Int → Bool → Nat → Int → Tree) : Tree := match x with
 | some (Blk.box 31 [C.d (.sl qP qQ .step qF), C.d (.sc (.int .i64 qG)), C.d (.sc (.int .i64 qH)), C.d (.sc (.int .i64 qI)), C.d (.sc (.int .i64 qJ)), C.own 7 .run qR 0 h_0_5l, C.d (.sc (.int .i64 qS))]) => K qP qQ qF qG qH qI qJ qR h_0_5l qS
 | _ => .bad
def U_zxf7_8_h3 (x : Option Blk) (K : OBz → Bool → Ls → Int → Int → Int → Int → OBz → Bool → Lr → Int → Tree) : Tree := match x with
 | some (Blk.box 31 [C.d (.sl qV qW .step qX), C.d (.sc (.int .i64 qY)), C.d (.sc (.int .i64 qZ)), C.d (.sc (.int .i64 rA)), C.d (.sc (.int .i64 rB)), C.d (.sl rC rD .run rE), C.d (.sc (.int .i64 rF))]) => K qV qW qX qY qZ rA rB rC rD rE rF
 | _ => .bad
def U_zxf7_8_h18 (x : Option Blk) (K : Bool → Nat → Tree) : Tree := match x with
 | some (Blk.box 32 [C.own 33 .mat h18_f 0 h18_l]) => K h18_f h18_l
 | _ => .bad
def T1_zxf7_8 (e3 e4 e5 e6 e8 e9 e10 e39 e40 e41 : V) (h0 h1 h2 h3 h18 h30 h33 h34 : Option Blk) : Tree := Uz0 e3 (Uz1 e4 (Uz2 e5 (U_zxf7_8_e6 e6 (U_zxf7_8_e8 e8 (U_zxf7_8_e9 e9 (U_zxf7_8_e10 e10 (fun t10_f t10_l => U_zxf7_8_e39 e39 (fun qO t39_l => Uz3 e40 (fun qE => Uz3 e41 (fun t41_ => U_zxf7_8_h0 h0 (fun qP qQ qF qG qH qI qJ qR h_0_5l qS => Uz4 h1 (fun qK qL qT qU qM => Uz5 h2 (fun qN => U_zxf7_8_h3 h3 (fun qV qW qX qY qZ rA rB rC rD rE rF => U_zxf7_8_h18 h18 (fun h18_f h18_l => Uz6 h30 (fun h_30 => Uz7 h33 (fun h_33 => Uz6 h34 (fun h_34 => exT (fun j => ex_zxf7_8 qO t39_l qE qP qQ qF qG qH qI qJ qR h_0_5l qS qK qL qT qU qM qN qV qW qX qY qZ rA rB rC rD rE rF h_30 j (S.zxf7_8_v t39_l qE qF qG qH qI qJ qK qL qM qN h_30 ⟨t10_f, t10_l, t41_, h18_f, h18_l, h_33, h_34⟩)) (S.zxf7_8_j t39_l qE qF qG qH qI qJ qK qL qM qN h_30 ⟨t10_f, t10_l, t41_, h18_f, h18_l, h_33, h_34⟩) [0]))))))))))))))))))
def T_zxf7_8 (st : St) : Tree := bif okSt 105 35 0 [0, 1, 2, 3, 18, 30, 33, 34] st then T1_zxf7_8 (st.env.getD 3 .any) (st.env.getD 4 .any) (st.env.getD 5 .any) (st.env.getD 6 .any) (st.env.getD 8 .any) (st.env.getD 9 .any) (st.env.getD 10 .any) (st.env.getD 39 .any) (st.env.getD 40 .any) (st.env.getD 41 .any) (lk st.heap 0) (lk st.heap 1) (lk st.heap 2) (lk st.heap 3) (lk st.heap 18) (lk st.heap 30) (lk st.heap 33) (lk st.heap 34) else .bad
def b_zxf7_8 : Code := loopBy Tryz.f27 8
theorem rnd_zxf7_8 (qO : Bool) (t39_l : Nat) (qE : Int) (qP : OBz) (qQ : Bool) (qF : Ls) (qG qH qI qJ : Int) (qR : Bool) (h_0_5l : Nat) (qS : Int) (qK : ByteArray) (qL : Int) (qT : OBz) (qU : Bool) (qM : Lv) (qN : Int) (qV : OBz) (qW : Bool) (qX : Ls) (qY qZ rA rB : Int) (rC : OBz) (rD : Bool) (rE : Lr) (rF : Int) (h_30 : Lr) (v : S.zxf7_8_V) : round2 cx_zxf7 (hdI cx_zxf7 (find []) [(46, Tryz.f46)] none 3) 27 b_zxf7_8 [33, 34] 35 [3, 4, 5, 6, 8, 9, 10] (mk_zxf7_8 qO t39_l qE qP qQ qF qG qH qI qJ qR h_0_5l qS qK qL qT qU qM qN qV qW qX qY qZ rA rB rC rD rE rF h_30 v) = (S.zxf7_8_R t39_l qE qF qG qH qI qJ qK qL qM qN h_30 v).go (roundOut (mk_zxf7_8 qO t39_l qE qP qQ qF qG qH qI qJ qR h_0_5l qS qK qL qT qU qM qN qV qW qX qY qZ rA rB rC rD rE rF h_30) (ex_zxf7_8 qO t39_l qE qP qQ qF qG qH qI qJ qR h_0_5l qS qK qL qT qU qM qN qV qW qX qY qZ rA rB rC rD rE rF h_30)) := by kernel_rfl
theorem bs_zxf7_8 : loopsOf b_zxf7_8 ++ loopsInl [(46, Tryz.f46)] = [] := by kernel_rfl
theorem ci_zxf7_8 (qO : Bool) (t39_l : Nat) (qE : Int) (qP : OBz) (qQ : Bool) (qF : Ls) (qG qH qI qJ : Int) (qR : Bool) (h_0_5l : Nat) (qS : Int) (qK : ByteArray) (qL : Int) (qT : OBz) (qU : Bool) (qM : Lv) (qN : Int) (qV : OBz) (qW : Bool) (qX : Ls) (qY qZ rA rB : Int) (rC : OBz) (rD : Bool) (rE : Lr) (rF : Int) (h_30 : Lr) : ∀ v j v2, Lp (S.zxf7_8_r t39_l qE qF qG qH qI qJ qK qL qM qN h_30) v = some (j, v2) → Circles Tryz.prog cx_zxf7 b_zxf7_8 (mk_zxf7_8 qO t39_l qE qP qQ qF qG qH qI qJ qR h_0_5l qS qK qL qT qU qM qN qV qW qX qY qZ rA rB rC rD rE rF h_30 v) (ex_zxf7_8 qO t39_l qE qP qQ qF qG qH qI qJ qR h_0_5l qS qK qL qT qU qM qN qV qW qX qY qZ rA rB rC rD rE rF h_30 j v2).1 (ex_zxf7_8 qO t39_l qE qP qQ qF qG qH qI qJ qR h_0_5l qS qK qL qT qU qM qN qV qW qX qY qZ rA rB rC rD rE rF h_30 j v2).2 :=
 loop_ok2 (L := find []) (n := 3) (hints := [(27, 8, { keep := [3, 4, 5, 6, 8, 9, 10, 39, 40, 41], acc := [(8, some 0, .mat, 45), (10, none, .run, 0)] })]) (cx_ok rfl) rdy_zxf7 bs_zxf7_8 nilB (fun v => (rnd_zxf7_8 qO t39_l qE qP qQ qF qG qH qI qJ qR h_0_5l qS qK qL qT qU qM qN qV qW qX qY qZ rA rB rC rD rE rF h_30 v).trans (DT.go_run _ _)) (by intro j v; unfold ex_zxf7_8; split <;> rfl)
theorem mke_zxf7_8 (qO : Bool) (t39_l : Nat) (qE : Int) (qP : OBz) (qQ : Bool) (qF : Ls) (qG qH qI qJ : Int) (qR : Bool) (h_0_5l : Nat) (qS : Int) (qK : ByteArray) (qL : Int) (qT : OBz) (qU : Bool) (qM : Lv) (qN : Int) (qV : OBz) (qW : Bool) (qX : Ls) (qY qZ rA rB : Int) (rC : OBz) (rD : Bool) (rE : Lr) (rF : Int) (h_30 : Lr) (v : S.zxf7_8_V) : mk_zxf7_8 qO t39_l qE qP qQ qF qG qH qI qJ qR h_0_5l qS qK qL qT qU qM qN qV qW qX qY qZ rA rB rC rD rE rF h_30 v = ⟨envOf 105 [(3, V.v false [C.ptr 0 0]), (4, V.v false [C.ptr 1 0]), (5, V.v false [C.ptr 2 0]), (6, V.v false [C.ptr 3 0]), (8, V.v false [C.ptr 18 0]), (9, V.v false [C.clo 46 [] [18 + 0, 0 + 2]]), (10, V.v false [C.own 34 .run v.t10_f 0 v.t10_l]), (39, V.v false [C.own 30 .run qO 0 t39_l]), (40, (cV qE)), (41, (cV v.t41_))], heapOf 35 [(0, some
 (Blk.box 31
  [C.d (.sl qP qQ .step qF), (cI qG), (cI qH), (cI qI),
   (cI qJ), C.own 7 .run qR 0 h_0_5l, (cI qS)])), (1, some (Blk.box 43 [C.d (.sc (.str qK)), (cI qL), C.d (.sl qT qU .val qM)])), (2, some (Blk.box 3 [(cI qN)])), (3, some
 (Blk.box 31
  [C.d (.sl qV qW .step qX), (cI qY), (cI qZ), (cI rA),
   (cI rB), C.d (.sl rC rD .run rE), (cI rF)])), (18, some (Blk.box 32 [C.own 33 .mat v.h18_f 0 v.h18_l])), (30, some (Blk.arr 73 .run h_30)), (33, some (Blk.arr 45 .mat v.h_33)), (34, some (Blk.arr 73 .run v.h_34))], 0⟩ := by kernel_rfl
theorem Ui_zxf7_8_e6 {x : V} {K : Tree} {z : Ex × St} (h : (U_zxf7_8_e6 x K).eval = some z) : x = V.v false [C.ptr 3 0] ∧ (K).eval = some z := by
 unfold U_zxf7_8_e6 at h
 split at h
 ·exact ⟨rfl, h⟩
 ·cases h
theorem Ui_zxf7_8_e8 {x : V} {K : Tree} {z : Ex × St} (h : (U_zxf7_8_e8 x K).eval = some z) : x = V.v false [C.ptr 18 0] ∧ (K).eval = some z := by
 unfold U_zxf7_8_e8 at h
 split at h
 ·exact ⟨rfl, h⟩
 ·cases h
theorem Ui_zxf7_8_e9 {x : V} {K : Tree} {z : Ex × St} (h : (U_zxf7_8_e9 x K).eval = some z) : x = V.v false [C.clo 46 [] [18 + 0, 0 + 2]] ∧ (K).eval = some z := by
 unfold U_zxf7_8_e9 at h
 split at h
 ·exact ⟨rfl, h⟩
 ·cases h
theorem Ui_zxf7_8_e10 {x : V} {K : Bool → Nat → Tree} {z : Ex × St} (h : (U_zxf7_8_e10 x K).eval = some z) : ∃ (t10_f : Bool) (t10_l : Nat), x = V.v false [C.own 34 .run t10_f 0 t10_l] ∧ (K t10_f t10_l).eval = some z := by
 unfold U_zxf7_8_e10 at h
 split at h
 ·exact ⟨_, _, rfl, h⟩
 ·cases h
theorem Ui_zxf7_8_e39 {x : V} {K : Bool → Nat → Tree} {z : Ex × St} (h : (U_zxf7_8_e39 x K).eval = some z) : ∃ (qO : Bool) (t39_l : Nat), x = V.v false [C.own 30 .run qO 0 t39_l] ∧ (K qO t39_l).eval = some z := by
 unfold U_zxf7_8_e39 at h
 split at h
 ·exact ⟨_, _, rfl, h⟩
 ·cases h
theorem Ui_zxf7_8_h0 {x : Option Blk} {K : OBz → Bool → Ls → Int → Int → Int → Int → Bool → Nat → Int → Tree} {z : Ex × St} (h : (U_zxf7_8_h0 x K).eval = some z) : ∃ (qP : OBz) (qQ : Bool) (qF : Ls) (qG qH qI qJ : Int) (qR : Bool) (h_0_5l : Nat) (qS : Int), x = some (Blk.box 31 [C.d (.sl qP qQ .step qF), C.d (.sc (.int .i64 qG)), C.d (.sc (.int .i64 qH)), C.d (.sc (.int .i64 qI)), C.d (.sc (.int .i64 qJ)), C.own 7 .run qR 0 h_0_5l, C.d (.sc (.int .i64 qS))]) ∧ (K qP qQ qF qG qH qI qJ qR h_0_5l qS).eval = some z := by
 unfold U_zxf7_8_h0 at h
 split at h
 ·exact ⟨_, _, _, _, _, _, _, _, _, _, rfl, h⟩
 ·cases h
theorem Ui_zxf7_8_h3 {x : Option Blk} {K : OBz → Bool → Ls → Int → Int → Int → Int → OBz → Bool → Lr → Int → Tree} {z : Ex × St} (h : (U_zxf7_8_h3 x K).eval = some z) : ∃ (qV : OBz) (qW : Bool) (qX : Ls) (qY qZ rA rB : Int) (rC : OBz) (rD : Bool) (rE : Lr) (rF : Int), x = some (Blk.box 31 [C.d (.sl qV qW .step qX), C.d (.sc (.int .i64 qY)), C.d (.sc (.int .i64 qZ)), C.d (.sc (.int .i64 rA)), C.d (.sc (.int .i64 rB)), C.d (.sl rC rD .run rE), C.d (.sc (.int .i64 rF))]) ∧ (K qV qW qX qY qZ rA rB rC rD rE rF).eval = some z := by
 unfold U_zxf7_8_h3 at h
 split at h
 ·exact ⟨_, _, _, _, _, _, _, _, _, _, _, rfl, h⟩
 ·cases h
theorem Ui_zxf7_8_h18 {x : Option Blk} {K : Bool → Nat → Tree} {z : Ex × St} (h : (U_zxf7_8_h18 x K).eval = some z) : ∃ (h18_f : Bool) (h18_l : Nat), x = some (Blk.box 32 [C.own 33 .mat h18_f 0 h18_l]) ∧ (K h18_f h18_l).eval = some z := by
 unfold U_zxf7_8_h18 at h
 split at h
 ·exact ⟨_, _, rfl, h⟩
 ·cases h
theorem lo1_zxf7_8 (e3 e4 e5 e6 e8 e9 e10 e39 e40 e41 : V) (h0 h1 h2 h3 h18 h30 h33 h34 : Option Blk) e st2 (h : (T1_zxf7_8 e3 e4 e5 e6 e8 e9 e10 e39 e40 e41 h0 h1 h2 h3 h18 h30 h33 h34).eval = some (e, st2)) : Circles Tryz.prog cx_zxf7 b_zxf7_8 ⟨envOf 105 [(3, e3), (4, e4), (5, e5), (6, e6), (8, e8), (9, e9), (10, e10), (39, e39), (40, e40), (41, e41)], heapOf 35 [(0, h0), (1, h1), (2, h2), (3, h3), (18, h18), (30, h30), (33, h33), (34, h34)], 0⟩ e st2 := by
 unfold T1_zxf7_8 at h
 obtain ⟨rfl, h⟩ := Uz0i h
 obtain ⟨rfl, h⟩ := Uz1i h
 obtain ⟨rfl, h⟩ := Uz2i h
 obtain ⟨rfl, h⟩ := Ui_zxf7_8_e6 h
 obtain ⟨rfl, h⟩ := Ui_zxf7_8_e8 h
 obtain ⟨rfl, h⟩ := Ui_zxf7_8_e9 h
 obtain ⟨t10_f, t10_l, rfl, h⟩ := Ui_zxf7_8_e10 h
 obtain ⟨qO, t39_l, rfl, h⟩ := Ui_zxf7_8_e39 h
 obtain ⟨qE, rfl, h⟩ := Uz3i h
 obtain ⟨t41_, rfl, h⟩ := Uz3i h
 obtain ⟨qP, qQ, qF, qG, qH, qI, qJ, qR, h_0_5l, qS, rfl, h⟩ := Ui_zxf7_8_h0 h
 obtain ⟨qK, qL, qT, qU, qM, rfl, h⟩ := Uz4i h
 obtain ⟨qN, rfl, h⟩ := Uz5i h
 obtain ⟨qV, qW, qX, qY, qZ, rA, rB, rC, rD, rE, rF, rfl, h⟩ := Ui_zxf7_8_h3 h
 obtain ⟨h18_f, h18_l, rfl, h⟩ := Ui_zxf7_8_h18 h
 obtain ⟨h_30, rfl, h⟩ := Uz6i h
 obtain ⟨h_33, rfl, h⟩ := Uz7i h
 obtain ⟨h_34, rfl, h⟩ := Uz6i h
 have := loop_tree (mk := mk_zxf7_8 qO t39_l qE qP qQ qF qG qH qI qJ qR h_0_5l qS qK qL qT qU qM qN qV qW qX qY qZ rA rB rC rD rE rF h_30) (ci_zxf7_8 qO t39_l qE qP qQ qF qG qH qI qJ qR h_0_5l qS qK qL qT qU qM qN qV qW qX qY qZ rA rB rC rD rE rF h_30) _ _ e st2 h
 rw [mke_zxf7_8] at this
 exact this
theorem lok_zxf7_8 : LoopOk Tryz.prog cx_zxf7 b_zxf7_8 T_zxf7_8 := by
 intro st e st2 h
 unfold T_zxf7_8 at h
 cases hk : okSt 105 35 0 [0, 1, 2, 3, 18, 30, 33, 34] st with
 | false => rw [hk] at h; cases h
 | true =>
  rw [hk] at h
  exact circles_keep (ks := [3, 4, 5, 6, 8, 9, 10, 39, 40, 41]) hk (lo1_zxf7_8 _ _ _ _ _ _ _ _ _ _ _ _ _ _ _ _ _ _ e st2 h)
structure S.zxf7_T where
 x0 : Ls
 x1 : Int
 x2 : Int
 x3 : Int
 x4 : Int
 x5 : Lr
 x6 : Int
 x7 : Lm
 deriving Inhabited
def S.zxf7_R (a0_0 : Ls) (a0_1 a0_2 a0_3 a0_4 : Int) (a0_5 : Lr) (a0_6 : Int) (a1_0 : ByteArray) (a1_1 : Int) (a1_2 : Lv) (a2 : Int) : DT S.zxf7_T :=
let y0 : Nat := 0 + (S.zjge_o a0_5).x1
let y1 : Bool := xdec (y0 ≤ (S.zjge_o a0_5).x0.length) && true && true
let y2 : Lr := sub (S.zjge_o a0_5).x0 0 y0
let y3 : Bool := y1 && true
let y4 : Int := (↑(S.zjge_o a0_5).x1 : Int)
let y5 := S.zjge_o y2
let y6 := y5.x1
let y7 : Int := (↑y6 : Int)
let y8 := y5.x0
let y9 : S.zxf7_8_V := { t10_f := xdec (y4 = Int.ofNat 0), t10_l := 0, t41_ := 0, h18_f := true, h18_l := 0, h_33 := [], h_34 := (S.zjge_o a0_5).x0 : S.zxf7_8_V }
let y10 := S.zvb5_o a0_0 a0_2 a0_3 a0_4 a1_0 a1_1 a1_2 a2
let y11 := y10.x7
let y12 : Nat := 0 + 1
let y13 := y10.x0
let y14 := y10.x5
let y15 := y10.x6
let y16 : Mat := { start := y13, fin := a2, agg := y14, bad := y15 : Mat }
let y17 := S.zxf7_8_v y6 y7 a0_0 a0_1 a0_2 a0_3 a0_4 a1_0 a1_1 a1_2 a2 y8 y9
let y18 := y17.h18_l
let y19 := y17.h_33
let y20 := y19.length
let y21 : Nat := y18 + 1
let y22 := y17.t10_l
let y23 : Nat := 0 + y22
let y24 := y17.h_34
let y25 := y24.length
let y26 : Bool := xdec (y23 ≤ y25) && true && true
let y27 : Nat := 0 + y21
let y28 : Lm := List.take y18 y19 ++ [y16]
let y29 : Lr := sub y24 0 y23
let y30 : Bool := xeqI y11 0
let y31 : Nat := 0 + y18
let y32 : Bool := xdec (y31 ≤ y20) && true && true && true
let y33 : Lm := sub y19 0 y31
let y34 : Run := { first := y13, at_ := y10.x1, step := y10.x2, n := y10.x3, many := y10.x4, agg := y14, bad := y15 : Run }
let y35 : Nat := y22 + 1
let y36 : Bool := xdec (y12 ≤ ((List.replicate 1 (dflt .run)).set 0 y34).length) && xdec (y22 ≤ y25) && xdec (y35 ≤ 1048576)
let y37 : Nat := 0 + y35
let y38 : Lr := List.take y22 y24 ++ [y34]
let y39 : Bool := xdec (y37 ≤ y38.length) && true && true && y32
let y40 : Lr := sub y38 0 y37
let y41 : Bool := y26 && y32
(.br (S.zjge_is a0_5)
(.br (y1 && S.z3ps_is a0_0 y2 a0_6)
(.br (xnot (S.z3ps_o a0_0 y2 a0_6).x0)
(.br (y3)
(.leaf ⟨a0_0, a0_1, a0_2, a0_3, a0_4, y2, a0_6, []⟩)
.fail)
(.br (xneI a0_6 (-1))
(.br (y3)
(.leaf ⟨a0_0, a0_1, a0_2, a0_3, a0_4, y2, a0_6, []⟩)
.fail)
(.br (xdec (0 ≤ 0) && xdec (0 ≤ Int.ofNat (S.zjge_o a0_5).x1) && (xdec (0 ≤ y4) && xdec (y4 ≤ y4) && true))
(.br (y1 && S.zjge_is y2)
(.br (S.zxf7_8_j y6 y7 a0_0 a0_1 a0_2 a0_3 a0_4 a1_0 a1_1 a1_2 a2 y8 y9 0)
(.br (S.zvb5_is a0_0 a0_2 a0_3 a0_4 a1_0 a1_1 a1_2 a2)
(.br (xeqI y11 2)
(.br (xdec (y12 ≤ ((List.replicate 1 (dflt .mat)).set 0 y16).length) && xdec (y18 ≤ y20) && xdec (y21 ≤ 1048576))
(.br (y26 && (xdec (y27 ≤ y28.length) && true && true && true))
(.leaf ⟨a0_0, a0_1, a0_2, a0_3, a0_4, y29, a0_6, sub y28 0 y27⟩)
.fail)
.fail)
(.br (y30)
(.br (xeqI (↑y22 : Int) 5)
(.br (y32)
(.leaf ⟨a0_0, a0_1, a0_2, a0_3, a0_4, [], if 0 > a2 then 0 else a2, y33⟩)
.fail)
(.br (y30)
(.br (y36)
(.br (y39)
(.leaf ⟨a0_0, a0_1, a0_2, a0_3, a0_4, y40, a0_6, y33⟩)
.fail)
.fail)
(.br (y41)
(.leaf ⟨a0_0, a0_1, a0_2, a0_3, a0_4, y29, a0_6, y33⟩)
.fail)))
(.br (y30)
(.br (y36)
(.br (y39)
(.leaf ⟨a0_0, a0_1, a0_2, a0_3, a0_4, y40, a0_6, y33⟩)
.fail)
.fail)
(.br (y41)
(.leaf ⟨a0_0, a0_1, a0_2, a0_3, a0_4, y29, a0_6, y33⟩)
.fail))))
.fail)
.fail)
.fail)
.fail)))
.fail)
.fail)
def S.zxf7 (a0_0 : Ls) (a0_1 a0_2 a0_3 a0_4 : Int) (a0_5 : Lr) (a0_6 : Int) (a1_0 : ByteArray) (a1_1 : Int) (a1_2 : Lv) (a2 : Int) : Option S.zxf7_T := (S.zxf7_R a0_0 a0_1 a0_2 a0_3 a0_4 a0_5 a0_6 a1_0 a1_1 a1_2 a2).run
def S.zxf7_is (a0_0 : Ls) (a0_1 a0_2 a0_3 a0_4 : Int) (a0_5 : Lr) (a0_6 : Int) (a1_0 : ByteArray) (a1_1 : Int) (a1_2 : Lv) (a2 : Int) : Bool := (S.zxf7 a0_0 a0_1 a0_2 a0_3 a0_4 a0_5 a0_6 a1_0 a1_1 a1_2 a2).isSome
def S.zxf7_o (a0_0 : Ls) (a0_1 a0_2 a0_3 a0_4 : Int) (a0_5 : Lr) (a0_6 : Int) (a1_0 : ByteArray) (a1_1 : Int) (a1_2 : Lv) (a2 : Int) : S.zxf7_T := (S.zxf7 a0_0 a0_1 a0_2 a0_3 a0_4 a0_5 a0_6 a1_0 a1_1 a1_2 a2).getD default
def ret_zxf7 (b : Bool) (r : S.zxf7_T) : Ret := ⟨b, none, [(true,
    [cL .step r.x0, (cI r.x1), (cI r.x2), (cI r.x3),
     (cI r.x4), cL .run r.x5, (cI r.x6)]),
 (false, [cL .mat r.x7])]⟩
def g_zxf7 : Con
 | [(true, [.sl a0_0n a0_0f .step a0_0, .sc (.int .i64 a0_1), .sc (.int .i64 a0_2), .sc (.int .i64 a0_3), .sc (.int .i64 a0_4), .sl a0_5n a0_5f .run a0_5, .sc (.int .i64 a0_6)]), (true, [.sc (.str a1_0), .sc (.int .i64 a1_1), .sl a1_2n a1_2f .val a1_2]), (false, [.sc (.int .i64 a2)])] => some (ret_zxf7 (S.zxf7_is a0_0 a0_1 a0_2 a0_3 a0_4 a0_5 a0_6 a1_0 a1_1 a1_2 a2) (S.zxf7_o a0_0 a0_1 a0_2 a0_3 a0_4 a0_5 a0_6 a1_0 a1_1 a1_2 a2))
 | _ => none
theorem raw_zxf7 (a0_0n : OBz) (a0_0f : Bool) (a0_0 : Ls) (a0_1 a0_2 a0_3 a0_4 : Int) (a0_5n : OBz) (a0_5f : Bool) (a0_5 : Lr) (a0_6 : Int) (a1_0 : ByteArray) (a1_1 : Int) (a1_2n : OBz) (a1_2f : Bool) (a1_2 : Lv) (a2 : Int) : evR2 cx_zxf7 (hdI cx_zxf7 (find [(8, T_zxf7_8)]) [(46, Tryz.f46)] none 3) none Tryz.f27 27 none [(true, [.sl a0_0n a0_0f .step a0_0, dI a0_1, dI a0_2, dI a0_3, dI a0_4, .sl a0_5n a0_5f .run a0_5, dI a0_6]), (true, [.sc (.str a1_0), dI a1_1, .sl a1_2n a1_2f .val a1_2]), (false, [dI a2])] some = (S.zxf7_R a0_0 a0_1 a0_2 a0_3 a0_4 a0_5 a0_6 a1_0 a1_1 a1_2 a2).go (ret_zxf7 true) := by kernel_rfl
theorem bs_zxf7 : loopsIn Tryz.f27 [(46, Tryz.f46)] = [b_zxf7_8] := by kernel_rfl
theorem zxf7_ok : Stands Tryz.prog tyTab 27 g_zxf7 := by
 refine stands3 (L := find [(8, T_zxf7_8)]) (n := 3) (hints := [(27, 8, { keep := [3, 4, 5, 6, 8, 9, 10, 39, 40, 41], acc := [(8, some 0, .mat, 45), (10, none, .run, 0)] })]) (cx_ok rfl) rdy_zxf7 ⟨by kernel_rfl, by kernel_rfl, by kernel_rfl⟩ bs_zxf7 (consB (fun T h => by have e : T_zxf7_8 = T := Option.some.inj (show some T_zxf7_8 = some T from h); exact e ▸ lok_zxf7_8) nilB) (fun das r hG hr => ?_)
 unfold g_zxf7 at hG
 split at hG
 ·rename_i a0_0n a0_0f a0_0 a0_1 a0_2 a0_3 a0_4 a0_5n a0_5f a0_5 a0_6 a1_0 a1_1 a1_2n a1_2f a1_2 a2
  injection hG with hG; subst hG
  exact ⟨none, true, win default ((raw_zxf7 a0_0n a0_0f a0_0 a0_1 a0_2 a0_3 a0_4 a0_5n a0_5f a0_5 a0_6 a1_0 a1_1 a1_2n a1_2f a1_2 a2).trans (DT.go_run _ _)) hr⟩
 ·cases hG
end
end Go.Eng
