/- Contracts, laid by program. -/
import Derived.Test.YtbjeikmkngcjlaaZG13
set_option linter.unusedVariables false
namespace Go.Eng
noncomputable section
open Go Go.Eng Go.Proofs Go.Eng.Tab
abbrev cx_zojm : Cx := mkCx2 tyTab [(50, g_zydq), (60, g_zgwp), (72, g_zkyx), (73, g_all2), (74, g_z2j4), (75, g_zjsn), (77, g_z3dg)] [] [(29, 8, { keep := [1, 2, 8, 9], acc := [] })] []
theorem rdy_zojm : Ready Try.prog tyTab [(50, g_zydq), (60, g_zgwp), (72, g_zkyx), (73, g_all2), (74, g_z2j4), (75, g_zjsn), (77, g_z3dg)] [] [] := ⟨consG2 zydq_ok (consG2 zgwp_ok (consG2 zkyx_ok (consG2 all2_ok (consG2 z2j4_ok (consG2 zjsn_ok (consG2 z3dg_ok (noneG2))))))), noneI2, noneF2⟩
structure S.zojm_8_V where
 t8_ : Int
 t9_ : Int
def S.zojm_8_R (qA : List (Ty .evt)) (qB : List (Ty .step)) (qC : Int) (qD : Int) (qE : Int) (qF : Int) (v : S.zojm_8_V) : DT (Option Nat × S.zojm_8_V) :=
let y0 : Int := xwrap .i64 (v.t9_ - 1)
(.br (xdec (v.t9_ ≥ 0))
(.br (S.z3dg_is qB qC qD qE qF qA v.t9_ v.t9_)
(.br ((S.z3dg_o qB qC qD qE qF qA v.t9_ v.t9_).x0)
(.leaf (none, ⟨v.t9_, y0⟩))
(.leaf (none, ⟨v.t8_, y0⟩)))
.fail)
(.leaf (some 0, v)))
def S.zojm_8_r (qA : List (Ty .evt)) (qB : List (Ty .step)) (qC : Int) (qD : Int) (qE : Int) (qF : Int) (v : S.zojm_8_V) : Option (Option Nat × S.zojm_8_V) := (S.zojm_8_R qA qB qC qD qE qF v).run
def S.zojm_8_j (qA : List (Ty .evt)) (qB : List (Ty .step)) (qC : Int) (qD : Int) (qE : Int) (qF : Int) (v : S.zojm_8_V) (j : Nat) : Bool := Lp_j (S.zojm_8_r qA qB qC qD qE qF) v j
def S.zojm_8_v (qA : List (Ty .evt)) (qB : List (Ty .step)) (qC : Int) (qD : Int) (qE : Int) (qF : Int) (v : S.zojm_8_V) : S.zojm_8_V := Lp_v (S.zojm_8_r qA qB qC qD qE qF) v
def mk_zojm_8 (qG : Option Bool) (qH : Bool) (qA : List (Ty .evt)) (qI : Option Bool) (qJ : Bool) (qB : List (Ty .step)) (qC : Int) (qD : Int) (qE : Int) (qF : Int) (v : S.zojm_8_V) : St := ⟨(V.any :: (V.v false [C.d (.sl qG qH .evt qA)] :: (V.v false [C.ptr 0 0] :: (vs 5 ((cV v.t8_) :: ((cV v.t9_) :: (vs 55 []))))))), (some (Blk.box 45 [C.d (.sl qI qJ .step qB), (cI qC), (cI qD), (cI qE), (cI qF)]) :: (ns 24 [])), 0⟩
def ex_zojm_8 (qG : Option Bool) (qH : Bool) (qA : List (Ty .evt)) (qI : Option Bool) (qJ : Bool) (qB : List (Ty .step)) (qC : Int) (qD : Int) (qE : Int) (qF : Int) (j : Nat) (v : S.zojm_8_V) : Ex × St := match j with
 | 0 => (Ex.exit 0, ⟨(V.any :: (V.v false [C.d (.sl qG qH .evt qA)] :: (V.v false [C.ptr 0 0] :: (vs 5 ((cV v.t8_) :: (vs 56 [])))))), (some
  (Blk.box 45
   [C.d (.sl qI qJ .step qB), (cI qC), (cI qD), (cI qE),
    (cI qF)]) :: (ns 26 [])), 0⟩)
 | _ => (.ret, ⟨[], [], 0⟩)
def T1_zojm_8 : V → V → V → V → Option Blk → Tree
 | V.v false [C.d (.sl qG qH .evt qA)], V.v false [C.ptr 0 0], V.v false [C.d (.sc (.int .i64 t8_))], V.v false [C.d (.sc (.int .i64 t9_))], some (Blk.box 45 [C.d (.sl qI qJ .step qB), C.d (.sc (.int .i64 qC)), C.d (.sc (.int .i64 qD)), C.d (.sc (.int .i64 qE)), C.d (.sc (.int .i64 qF))]) => exT (fun j => ex_zojm_8 qG qH qA qI qJ qB qC qD qE qF j (S.zojm_8_v qA qB qC qD qE qF ⟨t8_, t9_⟩)) (S.zojm_8_j qA qB qC qD qE qF ⟨t8_, t9_⟩) [0]
 | _, _, _, _, _ => .bad
def T_zojm_8 (st : St) : Tree := bif okSt 65 25 0 [0] st then T1_zojm_8 (st.env.getD 1 .any) (st.env.getD 2 .any) (st.env.getD 8 .any) (st.env.getD 9 .any) (lk st.heap 0) else .bad
def b_zojm_8 : Code := loopBy Try.f29 8
theorem rnd_zojm_8 (qG : Option Bool) (qH : Bool) (qA : List (Ty .evt)) (qI : Option Bool) (qJ : Bool) (qB : List (Ty .step)) (qC : Int) (qD : Int) (qE : Int) (qF : Int) (v : S.zojm_8_V) : round2 cx_zojm (hdI cx_zojm (find []) [] none 0) 29 b_zojm_8 [] 25 [1, 2, 8] (mk_zojm_8 qG qH qA qI qJ qB qC qD qE qF v) = (S.zojm_8_R qA qB qC qD qE qF v).go (roundOut (mk_zojm_8 qG qH qA qI qJ qB qC qD qE qF) (ex_zojm_8 qG qH qA qI qJ qB qC qD qE qF)) := by kernel_rfl
theorem bs_zojm_8 : loopsOf b_zojm_8 ++ loopsInl [] = [] := by kernel_rfl
theorem ci_zojm_8 (qG : Option Bool) (qH : Bool) (qA : List (Ty .evt)) (qI : Option Bool) (qJ : Bool) (qB : List (Ty .step)) (qC : Int) (qD : Int) (qE : Int) (qF : Int) : ∀ v j v2, Lp (S.zojm_8_r qA qB qC qD qE qF) v = some (j, v2) → Circles Try.prog cx_zojm b_zojm_8 (mk_zojm_8 qG qH qA qI qJ qB qC qD qE qF v) (ex_zojm_8 qG qH qA qI qJ qB qC qD qE qF j v2).1 (ex_zojm_8 qG qH qA qI qJ qB qC qD qE qF j v2).2 :=
 loop_ok2 (L := find []) (n := 0) (hints := [(29, 8, { keep := [1, 2, 8, 9], acc := [] })]) (cx_ok rfl) rdy_zojm bs_zojm_8 nilB (fun v => (rnd_zojm_8 qG qH qA qI qJ qB qC qD qE qF v).trans (DT.go_run _ _)) (by intro j v; unfold ex_zojm_8; split <;> rfl)
theorem mke_zojm_8 (qG : Option Bool) (qH : Bool) (qA : List (Ty .evt)) (qI : Option Bool) (qJ : Bool) (qB : List (Ty .step)) (qC : Int) (qD : Int) (qE : Int) (qF : Int) (v : S.zojm_8_V) : mk_zojm_8 qG qH qA qI qJ qB qC qD qE qF v = ⟨envOf 65 [(1, V.v false [C.d (.sl qG qH .evt qA)]), (2, V.v false [C.ptr 0 0]), (8, (cV v.t8_)), (9, (cV v.t9_))], heapOf 25 [(0, some
 (Blk.box 45
  [C.d (.sl qI qJ .step qB), (cI qC), (cI qD), (cI qE),
   (cI qF)]))], 0⟩ := by kernel_rfl
theorem lo1_zojm_8 (e1 : V) (e2 : V) (e8 : V) (e9 : V) (h0 : Option Blk) e st2 (h : (T1_zojm_8 e1 e2 e8 e9 h0).eval = some (e, st2)) : Circles Try.prog cx_zojm b_zojm_8 ⟨envOf 65 [(1, e1), (2, e2), (8, e8), (9, e9)], heapOf 25 [(0, h0)], 0⟩ e st2 := by
 unfold T1_zojm_8 at h
 split at h
 ·have := loop_tree (mk := mk_zojm_8 _ _ _ _ _ _ _ _ _ _) (ci_zojm_8 _ _ _ _ _ _ _ _ _ _) _ _ e st2 h
  rw [mke_zojm_8] at this
  exact this
 ·cases h
theorem lok_zojm_8 : LoopOk Try.prog cx_zojm b_zojm_8 T_zojm_8 := by
 intro st e st2 h
 unfold T_zojm_8 at h
 cases hk : okSt 65 25 0 [0] st with
 | false => rw [hk] at h; cases h
 | true =>
  rw [hk] at h
  exact circles_keep (ks := [1, 2, 8, 9]) hk (lo1_zojm_8 _ _ _ _ _ e st2 h)
structure S.zojm_T where
 x0 : Bool
 deriving Inhabited
def S.zojm_R (a0_0n : Option Bool) (a0_0f : Bool) (a0_0 : List (Ty .step)) (a0_1 : Int) (a0_2 : Int) (a0_3 : Int) (a0_4 : Int) (a1n : Option Bool) (a1f : Bool) (a1 : List (Ty .evt)) : DT S.zojm_T :=
let y0 : Int := -1
let y1 : Int := (↑a1.length : Int)
let y2 : S.zojm_8_V := { t8_ := y0, t9_ := xwrap .i64 (y1 - 1) : S.zojm_8_V }
let y3 : S.all2_T := S.all2_o a0_0n a0_0f a0_0 a0_1 a0_2 a0_3 a0_4 a1n a1f a1 y1
let y4 : Nat := 0 + y3.x2
let y5 : List (Ty .mat) := y3.x0
let y6 : S.all2_T := S.all2_o a0_0n a0_0f a0_0 a0_1 a0_2 a0_3 a0_4 a1n a1f a1 1000
let y7 : Nat := 0 + y6.x2
let y8 : List (Ty .mat) := y6.x0
let y9 : List (Ty .mat) := sub y5 0 y4
let y10 : List (Ty .mat) := sub y8 0 y7
(.br (S.zkyx_is)
(.br (S.zydq_is a0_0)
(.br (S.zgwp_is a1 25)
(.br (xnot S.zkyx_o.x0)
(.leaf ⟨S.zkyx_o.x0⟩)
(.br (xnot (S.zydq_o a0_0).x0)
(.leaf ⟨S.zkyx_o.x0⟩)
(.br (xnot (S.zgwp_o a1 25).x0)
(.leaf ⟨S.zkyx_o.x0⟩)
(.br (S.zojm_8_j a1 a0_0 a0_1 a0_2 a0_3 a0_4 y2 0)
(.br (S.all2_is a0_0n a0_0f a0_0 a0_1 a0_2 a0_3 a0_4 a1n a1f a1 y1)
(.br (S.all2_is a0_0n a0_0f a0_0 a0_1 a0_2 a0_3 a0_4 a1n a1f a1 1000)
(.br (xdec (y4 ≤ y5.length) && true && (xdec (y7 ≤ y8.length) && true && true) && S.z2j4_is y9 y10)
(.br ((S.z2j4_o y9 y10).x0)
(.br (S.zjsn_is a0_0 a0_1 a0_2 a0_3 a0_4 a1 y1)
(.br (xeqI (S.zjsn_o a0_0 a0_1 a0_2 a0_3 a0_4 a1 y1).x0 y0)
(.br (S.zjsn_is a0_0 a0_1 a0_2 a0_3 a0_4 a1 0)
(.leaf ⟨xeqI (S.zjsn_o a0_0 a0_1 a0_2 a0_3 a0_4 a1 0).x0 (S.zojm_8_v a1 a0_0 a0_1 a0_2 a0_3 a0_4 y2).t8_⟩)
.fail)
(.leaf ⟨false⟩))
.fail)
(.leaf ⟨false⟩))
.fail)
.fail)
.fail)
.fail))))
.fail)
.fail)
.fail)
def S.zojm (a0_0n : Option Bool) (a0_0f : Bool) (a0_0 : List (Ty .step)) (a0_1 : Int) (a0_2 : Int) (a0_3 : Int) (a0_4 : Int) (a1n : Option Bool) (a1f : Bool) (a1 : List (Ty .evt)) : Option S.zojm_T := (S.zojm_R a0_0n a0_0f a0_0 a0_1 a0_2 a0_3 a0_4 a1n a1f a1).run
def S.zojm_is (a0_0n : Option Bool) (a0_0f : Bool) (a0_0 : List (Ty .step)) (a0_1 : Int) (a0_2 : Int) (a0_3 : Int) (a0_4 : Int) (a1n : Option Bool) (a1f : Bool) (a1 : List (Ty .evt)) : Bool := (S.zojm a0_0n a0_0f a0_0 a0_1 a0_2 a0_3 a0_4 a1n a1f a1).isSome
def S.zojm_o (a0_0n : Option Bool) (a0_0f : Bool) (a0_0 : List (Ty .step)) (a0_1 : Int) (a0_2 : Int) (a0_3 : Int) (a0_4 : Int) (a1n : Option Bool) (a1f : Bool) (a1 : List (Ty .evt)) : S.zojm_T := (S.zojm a0_0n a0_0f a0_0 a0_1 a0_2 a0_3 a0_4 a1n a1f a1).getD default
def ret_zojm (b : Bool) (r : S.zojm_T) : Ret := ⟨b, none, [(false, [C.d (.sc (.bool r.x0))])]⟩
def g_zojm : Con
 | [(true, [.sl a0_0n a0_0f .step a0_0, .sc (.int .i64 a0_1), .sc (.int .i64 a0_2), .sc (.int .i64 a0_3), .sc (.int .i64 a0_4)]), (false, [.sl a1n a1f .evt a1])] => some (ret_zojm (S.zojm_is a0_0n a0_0f a0_0 a0_1 a0_2 a0_3 a0_4 a1n a1f a1) (S.zojm_o a0_0n a0_0f a0_0 a0_1 a0_2 a0_3 a0_4 a1n a1f a1))
 | _ => none
theorem raw_zojm (a0_0n : Option Bool) (a0_0f : Bool) (a0_0 : List (Ty .step)) (a0_1 : Int) (a0_2 : Int) (a0_3 : Int) (a0_4 : Int) (a1n : Option Bool) (a1f : Bool) (a1 : List (Ty .evt)) : evR2 cx_zojm (hdI cx_zojm (find [(8, T_zojm_8)]) [] none 0) none Try.f29 29 none [(true, [.sl a0_0n a0_0f .step a0_0, .sc (.int .i64 a0_1), .sc (.int .i64 a0_2), .sc (.int .i64 a0_3), .sc (.int .i64 a0_4)]), (false, [.sl a1n a1f .evt a1])] some = (S.zojm_R a0_0n a0_0f a0_0 a0_1 a0_2 a0_3 a0_4 a1n a1f a1).go (ret_zojm true) := by kernel_rfl
theorem bs_zojm : loopsIn Try.f29 [] = [b_zojm_8] := by kernel_rfl
theorem zojm_ok : Stands Try.prog tyTab 29 g_zojm := by
 refine stands3 (L := find [(8, T_zojm_8)]) (n := 0) (hints := [(29, 8, { keep := [1, 2, 8, 9], acc := [] })]) (cx_ok rfl) rdy_zojm ⟨by kernel_rfl, by kernel_rfl, by kernel_rfl⟩ bs_zojm (consB (fun T h => by have e : T_zojm_8 = T := Option.some.inj (show some T_zojm_8 = some T from h); exact e ▸ lok_zojm_8) nilB) (fun das r hG hr => ?_)
 unfold g_zojm at hG
 split at hG
 ·rename_i a0_0n a0_0f a0_0 a0_1 a0_2 a0_3 a0_4 a1n a1f a1
  injection hG with hG; subst hG
  exact ⟨none, true, win default ((raw_zojm a0_0n a0_0f a0_0 a0_1 a0_2 a0_3 a0_4 a1n a1f a1).trans (DT.go_run _ _)) hr⟩
 ·cases hG
end
end Go.Eng
