/- Contracts, laid by program. -/
import Derived.Test.YtbjeikmkngcjlaaVZG16
set_option linter.unusedVariables false
namespace Go.Eng
noncomputable section
open Go Go.Eng Go.Proofs Go.Eng.Tab
abbrev cx_z6wn : Cx := mkCx2 tyTab [(33, g_zg3i), (34, g_zzvx), (38, g_zhje), (39, g_zdrt)] [] [(999999, 0, { keep := [], acc := [] }), (7, 8, { keep := [0, 4, 6, 7], acc := [] })] []
theorem rdy_z6wn : Ready Try.prog tyTab [(33, g_zg3i), (34, g_zzvx), (38, g_zhje), (39, g_zdrt)] [] [] := ⟨consG2 zg3i_ok (consG2 zzvx_ok (consG2 zhje_ok (consG2 zdrt_ok (noneG2)))), noneI2, noneF2⟩
structure S.z6wn_8_V where
 t6_ : Int
 t7_ : Int
def S.z6wn_8_R (qA : List (Ty .query)) (v : S.z6wn_8_V) : DT (Option Nat × S.z6wn_8_V) :=
let y0 : Bool := xdec (v.t7_ < (↑qA.length : Int))
(.br (y0)
(.br (xdec (0 ≤ v.t7_) && y0)
(.leaf (none, ⟨xwrap .i64 (v.t6_ + xwrap .i64 (2 * (↑(qA.getD v.t7_.toNat (dflt .query)).steps.length : Int))), xwrap .i64 (v.t7_ + 1)⟩))
.fail)
(.leaf (some 0, v)))
def S.z6wn_8_r (qA : List (Ty .query)) (v : S.z6wn_8_V) : Option (Option Nat × S.z6wn_8_V) := (S.z6wn_8_R qA v).run
def S.z6wn_8_j (qA : List (Ty .query)) (v : S.z6wn_8_V) (j : Nat) : Bool := Lp_j (S.z6wn_8_r qA) v j
def S.z6wn_8_v (qA : List (Ty .query)) (v : S.z6wn_8_V) : S.z6wn_8_V := Lp_v (S.z6wn_8_r qA) v
def mk_z6wn_8 (qB : Option Bool) (qC : Bool) (qA : List (Ty .query)) (t4_l : Nat) (h_6 : List (Ty .query)) (v : S.z6wn_8_V) : St := ⟨(V.v false [C.d (.sl qB qC .query qA)] :: (vs 3 (V.v false [C.own 6 .query false 0 t4_l] :: (V.any :: ((cV v.t6_) :: ((cV v.t7_) :: (vs 44 []))))))), (ns 6 (some (Blk.arr 45 .query h_6) :: (ns 12 []))), 0⟩
def ex_z6wn_8 (qB : Option Bool) (qC : Bool) (qA : List (Ty .query)) (t4_l : Nat) (h_6 : List (Ty .query)) (j : Nat) (v : S.z6wn_8_V) : Ex × St := match j with
 | 0 => (Ex.exit 0, ⟨(V.v false [C.d (.sl qB qC .query qA)] :: (vs 3 (V.v false [C.own 6 .query false 0 t4_l] :: (V.any :: ((cV v.t6_) :: (vs 45 [])))))), (ns 6 (some (Blk.arr 45 .query h_6) :: (ns 16 []))), 0⟩)
 | _ => (.ret, ⟨[], [], 0⟩)
def T1_z6wn_8 : V → V → V → V → Option Blk → Tree
 | V.v false [C.d (.sl qB qC .query qA)], V.v false [C.own 6 .query false 0 t4_l], V.v false [C.d (.sc (.int .i64 t6_))], V.v false [C.d (.sc (.int .i64 t7_))], some (Blk.arr 45 .query h_6) => exT (fun j => ex_z6wn_8 qB qC qA t4_l h_6 j (S.z6wn_8_v qA ⟨t6_, t7_⟩)) (S.z6wn_8_j qA ⟨t6_, t7_⟩) [0]
 | _, _, _, _, _ => .bad
def T_z6wn_8 (st : St) : Tree := bif okSt 52 19 0 [6] st then T1_z6wn_8 (st.env.getD 0 .any) (st.env.getD 4 .any) (st.env.getD 6 .any) (st.env.getD 7 .any) (lk st.heap 6) else .bad
def b_z6wn_8 : Code := loopBy Try.f7 8
theorem rnd_z6wn_8 (qB : Option Bool) (qC : Bool) (qA : List (Ty .query)) (t4_l : Nat) (h_6 : List (Ty .query)) (v : S.z6wn_8_V) : round2 cx_z6wn (hdI cx_z6wn (find []) [] none 0) 7 b_z6wn_8 [] 19 [0, 4, 6] (mk_z6wn_8 qB qC qA t4_l h_6 v) = (S.z6wn_8_R qA v).go (roundOut (mk_z6wn_8 qB qC qA t4_l h_6) (ex_z6wn_8 qB qC qA t4_l h_6)) := by kernel_rfl
theorem bs_z6wn_8 : loopsOf b_z6wn_8 ++ loopsInl [] = [] := by kernel_rfl
theorem ci_z6wn_8 (qB : Option Bool) (qC : Bool) (qA : List (Ty .query)) (t4_l : Nat) (h_6 : List (Ty .query)) : ∀ v j v2, Lp (S.z6wn_8_r qA) v = some (j, v2) → Circles Try.prog cx_z6wn b_z6wn_8 (mk_z6wn_8 qB qC qA t4_l h_6 v) (ex_z6wn_8 qB qC qA t4_l h_6 j v2).1 (ex_z6wn_8 qB qC qA t4_l h_6 j v2).2 :=
 loop_ok2 (L := find []) (n := 0) (hints := [(999999, 0, { keep := [], acc := [] }), (7, 8, { keep := [0, 4, 6, 7], acc := [] })]) (cx_ok rfl) rdy_z6wn bs_z6wn_8 nilB (fun v => (rnd_z6wn_8 qB qC qA t4_l h_6 v).trans (DT.go_run _ _)) (by intro j v; unfold ex_z6wn_8; split <;> rfl)
theorem mke_z6wn_8 (qB : Option Bool) (qC : Bool) (qA : List (Ty .query)) (t4_l : Nat) (h_6 : List (Ty .query)) (v : S.z6wn_8_V) : mk_z6wn_8 qB qC qA t4_l h_6 v = ⟨envOf 52 [(0, V.v false [C.d (.sl qB qC .query qA)]), (4, V.v false [C.own 6 .query false 0 t4_l]), (6, (cV v.t6_)), (7, (cV v.t7_))], heapOf 19 [(6, some (Blk.arr 45 .query h_6))], 0⟩ := by kernel_rfl
theorem lo1_z6wn_8 (e0 : V) (e4 : V) (e6 : V) (e7 : V) (h6 : Option Blk) e st2 (h : (T1_z6wn_8 e0 e4 e6 e7 h6).eval = some (e, st2)) : Circles Try.prog cx_z6wn b_z6wn_8 ⟨envOf 52 [(0, e0), (4, e4), (6, e6), (7, e7)], heapOf 19 [(6, h6)], 0⟩ e st2 := by
 unfold T1_z6wn_8 at h
 split at h
 ·have := loop_tree (mk := mk_z6wn_8 _ _ _ _ _) (ci_z6wn_8 _ _ _ _ _) _ _ e st2 h
  rw [mke_z6wn_8] at this
  exact this
 ·cases h
theorem lok_z6wn_8 : LoopOk Try.prog cx_z6wn b_z6wn_8 T_z6wn_8 := by
 intro st e st2 h
 unfold T_z6wn_8 at h
 cases hk : okSt 52 19 0 [6] st with
 | false => rw [hk] at h; cases h
 | true =>
  rw [hk] at h
  exact circles_keep (ks := [0, 4, 6, 7]) hk (lo1_z6wn_8 _ _ _ _ _ e st2 h)
structure S.z6wn_T where
 x0 : Bool
 deriving Inhabited
def S.z6wn_R (a0 : List (Ty .query)) : DT S.z6wn_T :=
let y0 : Nat := a0.length
let y1 : Nat := y0 + y0
let y2 : Nat := 0 + y1
let y3 : List (Ty .query) := List.take y0 a0 ++ a0
let y4 : Bool := xdec (y2 ≤ y3.length) && true && true
let y5 : List (Ty .query) := sub y3 0 y2
let y6 : S.z6wn_8_V := { t6_ := 0, t7_ := 0 : S.z6wn_8_V }
let y7 : S.zdrt_T := S.zdrt_o y5
let y8 : Nat := 0 + y7.x2
let y9 : List (Ty .pred) := y7.x0
let y10 : Nat := 0 + (S.zdrt_o a0).x2
let y11 : List (Ty .pred) := sub y9 0 y8
let y12 : List (Ty .pred) := sub (S.zdrt_o a0).x0 0 y10
(.br (S.zg3i_is)
(.br (xdec (y0 * 56 ≤ 140737488355328))
(.br (xdec (y0 ≤ y0) && xdec (y1 * 56 ≤ 140737488355328))
(.br (y4 && S.zzvx_is y5)
(.br (xnot S.zg3i_o.x0)
(.leaf ⟨S.zg3i_o.x0⟩)
(.br (xnot (S.zzvx_o y5).x0)
(.leaf ⟨S.zg3i_o.x0⟩)
(.br (S.z6wn_8_j a0 y6 0)
(.br (S.zdrt_is a0)
(.br (y4 && S.zdrt_is y5)
(.br (xdec (y8 ≤ y9.length) && true && (xdec (y10 ≤ (S.zdrt_o a0).x0.length) && true && true) && S.zhje_is y11 y12)
(.br ((S.zhje_o y11 y12).x0)
(.leaf ⟨xdec ((↑(S.zdrt_o a0).x2 : Int) ≤ (S.z6wn_8_v a0 y6).t6_)⟩)
(.leaf ⟨false⟩))
.fail)
.fail)
.fail)
.fail)))
.fail)
.fail)
.fail)
.fail)
def S.z6wn (a0 : List (Ty .query)) : Option S.z6wn_T := (S.z6wn_R a0).run
def S.z6wn_is (a0 : List (Ty .query)) : Bool := (S.z6wn a0).isSome
def S.z6wn_o (a0 : List (Ty .query)) : S.z6wn_T := (S.z6wn a0).getD default
def ret_z6wn (b : Bool) (r : S.z6wn_T) : Ret := ⟨b, none, [(false, [C.d (.sc (.bool r.x0))])]⟩
def g_z6wn : Con
 | [(false, [.sl a0n a0f .query a0])] => some (ret_z6wn (S.z6wn_is a0) (S.z6wn_o a0))
 | _ => none
theorem raw_z6wn (a0n : Option Bool) (a0f : Bool) (a0 : List (Ty .query)) : evR2 cx_z6wn (hdI cx_z6wn (find [(8, T_z6wn_8)]) [] none 0) none Try.f7 7 none [(false, [.sl a0n a0f .query a0])] some = (S.z6wn_R a0).go (ret_z6wn true) := by kernel_rfl
theorem bs_z6wn : loopsIn Try.f7 [] = [b_z6wn_8] := by kernel_rfl
theorem z6wn_ok : Stands Try.prog tyTab 7 g_z6wn := by
 refine stands3 (L := find [(8, T_z6wn_8)]) (n := 0) (hints := [(999999, 0, { keep := [], acc := [] }), (7, 8, { keep := [0, 4, 6, 7], acc := [] })]) (cx_ok rfl) rdy_z6wn ⟨by kernel_rfl, by kernel_rfl, by kernel_rfl⟩ bs_z6wn (consB (fun T h => by have e : T_z6wn_8 = T := Option.some.inj (show some T_z6wn_8 = some T from h); exact e ▸ lok_z6wn_8) nilB) (fun das r hG hr => ?_)
 unfold g_z6wn at hG
 split at hG
 ·rename_i a0n a0f a0
  injection hG with hG; subst hG
  exact ⟨none, true, win default ((raw_z6wn a0n a0f a0).trans (DT.go_run _ _)) hr⟩
 ·cases hG
end
end Go.Eng
