/- Contracts, laid by program. -/
import Derived.Test.YtoohnjneocohnaaGreatZG1
set_option linter.unusedVariables false
namespace Go.Eng
noncomputable section
open Go Go.Eng Go.Proofs Go.Eng.Tab
abbrev cx_z2bt : Cx := mkCx2 tyTab [] [] [] []
theorem rdy_z2bt : Ready Tryz.prog tyTab [] [] [] := ⟨noneG2, noneI2, noneF2⟩
structure S.z2bt_T where
 x0 : Thing
 deriving Inhabited
def S.z2bt_R (a0_0 a0_1 : Int) (a0_2 : ByteArray) : DT S.z2bt_T :=
let y0 : Bool := xeqI a0_0 0
let y1 : Thing := Thing.one 3 (Sc.int IntKind.i64 a0_1)
let y2 : Bool := xeqI a0_0 1
let y3 : Bool := xdec (IntKind.u64.wrap a0_1 < 2)
let y4 : Thing := Thing.one 4 (Sc.bool (xeqI a0_1 1))
let y5 : Bool := xeqI a0_0 2
let y6 : Bool := xeqI a0_1 0
let y7 : Bool := xdec ((↑a0_2.size : Int) ≤ 40)
let y8 : Thing := Thing.one 9 (Sc.str a0_2)
let y9 : Bool := xeqI a0_0 3
let y10 : Bool := xdec (a0_1 ≥ 0)
let y11 : Bool := xdec (a0_1 ≤ 1125899906842624)
let y12 : Thing := Thing.one 166 (Sc.int IntKind.i64 a0_1)
(.br (xneI a0_0 2)
(.br (xnot (xdec (a0_2 = { data := { toList := [] : Array UInt8 } : ByteArray })))
(.leaf ⟨Thing.nil⟩)
(.br (y0)
(.leaf ⟨y1⟩)
(.br (y2)
(.br (y3)
(.leaf ⟨y4⟩)
(.br (y5)
(.br (y6)
(.br (y7)
(.leaf ⟨y8⟩)
(.br (y9)
(.br (y10)
(.br (y11)
(.leaf ⟨y12⟩)
(.leaf ⟨Thing.nil⟩))
(.leaf ⟨Thing.nil⟩))
(.leaf ⟨Thing.nil⟩)))
(.br (y9)
(.br (y10)
(.br (y11)
(.leaf ⟨y12⟩)
(.leaf ⟨Thing.nil⟩))
(.leaf ⟨Thing.nil⟩))
(.leaf ⟨Thing.nil⟩)))
(.br (y9)
(.br (y10)
(.br (y11)
(.leaf ⟨y12⟩)
(.leaf ⟨Thing.nil⟩))
(.leaf ⟨Thing.nil⟩))
(.leaf ⟨Thing.nil⟩))))
(.br (y5)
(.br (y6)
(.br (y7)
(.leaf ⟨y8⟩)
(.br (y9)
(.br (y10)
(.br (y11)
(.leaf ⟨y12⟩)
(.leaf ⟨Thing.nil⟩))
(.leaf ⟨Thing.nil⟩))
(.leaf ⟨Thing.nil⟩)))
(.br (y9)
(.br (y10)
(.br (y11)
(.leaf ⟨y12⟩)
(.leaf ⟨Thing.nil⟩))
(.leaf ⟨Thing.nil⟩))
(.leaf ⟨Thing.nil⟩)))
(.br (y9)
(.br (y10)
(.br (y11)
(.leaf ⟨y12⟩)
(.leaf ⟨Thing.nil⟩))
(.leaf ⟨Thing.nil⟩))
(.leaf ⟨Thing.nil⟩))))))
(.br (y0)
(.leaf ⟨y1⟩)
(.br (y2)
(.br (y3)
(.leaf ⟨y4⟩)
(.br (y5)
(.br (y6)
(.br (y7)
(.leaf ⟨y8⟩)
(.br (y9)
(.br (y10)
(.br (y11)
(.leaf ⟨y12⟩)
(.leaf ⟨Thing.nil⟩))
(.leaf ⟨Thing.nil⟩))
(.leaf ⟨Thing.nil⟩)))
(.br (y9)
(.br (y10)
(.br (y11)
(.leaf ⟨y12⟩)
(.leaf ⟨Thing.nil⟩))
(.leaf ⟨Thing.nil⟩))
(.leaf ⟨Thing.nil⟩)))
(.br (y9)
(.br (y10)
(.br (y11)
(.leaf ⟨y12⟩)
(.leaf ⟨Thing.nil⟩))
(.leaf ⟨Thing.nil⟩))
(.leaf ⟨Thing.nil⟩))))
(.br (y5)
(.br (y6)
(.br (y7)
(.leaf ⟨y8⟩)
(.br (y9)
(.br (y10)
(.br (y11)
(.leaf ⟨y12⟩)
(.leaf ⟨Thing.nil⟩))
(.leaf ⟨Thing.nil⟩))
(.leaf ⟨Thing.nil⟩)))
(.br (y9)
(.br (y10)
(.br (y11)
(.leaf ⟨y12⟩)
(.leaf ⟨Thing.nil⟩))
(.leaf ⟨Thing.nil⟩))
(.leaf ⟨Thing.nil⟩)))
(.br (y9)
(.br (y10)
(.br (y11)
(.leaf ⟨y12⟩)
(.leaf ⟨Thing.nil⟩))
(.leaf ⟨Thing.nil⟩))
(.leaf ⟨Thing.nil⟩))))))
def S.z2bt (a0_0 a0_1 : Int) (a0_2 : ByteArray) : Option S.z2bt_T := (S.z2bt_R a0_0 a0_1 a0_2).run
def S.z2bt_is (a0_0 a0_1 : Int) (a0_2 : ByteArray) : Bool := (S.z2bt a0_0 a0_1 a0_2).isSome
def S.z2bt_o (a0_0 a0_1 : Int) (a0_2 : ByteArray) : S.z2bt_T := (S.z2bt a0_0 a0_1 a0_2).getD default
def ret_z2bt (b : Bool) (r : S.z2bt_T) : Ret := ⟨b, none, [(false, [C.d (D.th r.x0)])]⟩
def g_z2bt : Con
 | [(true, [.sc (.int .i64 a0_0), .sc (.int .i64 a0_1), .sc (.str a0_2)])] => some (ret_z2bt (S.z2bt_is a0_0 a0_1 a0_2) (S.z2bt_o a0_0 a0_1 a0_2))
 | _ => none
theorem raw_z2bt (a0_0 a0_1 : Int) (a0_2 : ByteArray) : evR2 cx_z2bt (hdI cx_z2bt (find []) [] none 0) none Tryz.f92 92 none [(true, [dI a0_0, dI a0_1, .sc (.str a0_2)])] some = (S.z2bt_R a0_0 a0_1 a0_2).go (ret_z2bt true) := by kernel_rfl
theorem bs_z2bt : loopsIn Tryz.f92 [] = [] := by kernel_rfl
theorem z2bt_ok : Stands Tryz.prog tyTab 92 g_z2bt := by
 refine stands3 (L := find []) (n := 0) (hints := []) (cx_ok rfl) rdy_z2bt ⟨by kernel_rfl, by kernel_rfl, by kernel_rfl⟩ bs_z2bt nilB (fun das r hG hr => ?_)
 unfold g_z2bt at hG
 split at hG
 ·rename_i a0_0 a0_1 a0_2
  injection hG with hG; subst hG
  exact ⟨none, true, win default ((raw_z2bt a0_0 a0_1 a0_2).trans (DT.go_run _ _)) hr⟩
 ·cases hG
abbrev cx_z3yc : Cx := mkCx2 tyTab [(92, g_z2bt)] [] [] []
theorem rdy_z3yc : Ready Tryz.prog tyTab [(92, g_z2bt)] [] [] := ⟨consG2 z2bt_ok (noneG2), noneI2, noneF2⟩
structure S.z3yc_T where
 x0 : Bool
 deriving Inhabited
def S.z3yc_R (a0_0 a0_1 : Int) (a0_2 : ByteArray) : DT S.z3yc_T :=
(.br (S.z2bt_is a0_0 a0_1 a0_2)
(.leaf ⟨bif (S.z2bt_o a0_0 a0_1 a0_2).x0.isNil then false else true⟩)
.fail)
def S.z3yc (a0_0 a0_1 : Int) (a0_2 : ByteArray) : Option S.z3yc_T := (S.z3yc_R a0_0 a0_1 a0_2).run
def S.z3yc_is (a0_0 a0_1 : Int) (a0_2 : ByteArray) : Bool := (S.z3yc a0_0 a0_1 a0_2).isSome
def S.z3yc_o (a0_0 a0_1 : Int) (a0_2 : ByteArray) : S.z3yc_T := (S.z3yc a0_0 a0_1 a0_2).getD default
def ret_z3yc (b : Bool) (r : S.z3yc_T) : Ret := ⟨b, none, [(false, [cB r.x0])]⟩
def g_z3yc : Con
 | [(true, [.sc (.int .i64 a0_0), .sc (.int .i64 a0_1), .sc (.str a0_2)])] => some (ret_z3yc (S.z3yc_is a0_0 a0_1 a0_2) (S.z3yc_o a0_0 a0_1 a0_2))
 | _ => none
theorem raw_z3yc (a0_0 a0_1 : Int) (a0_2 : ByteArray) : evR2 cx_z3yc (hdI cx_z3yc (find []) [] none 0) none Tryz.f86 86 none [(true, [dI a0_0, dI a0_1, .sc (.str a0_2)])] some = (S.z3yc_R a0_0 a0_1 a0_2).go (ret_z3yc true) := by kernel_rfl
theorem bs_z3yc : loopsIn Tryz.f86 [] = [] := by kernel_rfl
theorem z3yc_ok : Stands Tryz.prog tyTab 86 g_z3yc := by
 refine stands3 (L := find []) (n := 0) (hints := []) (cx_ok rfl) rdy_z3yc ⟨by kernel_rfl, by kernel_rfl, by kernel_rfl⟩ bs_z3yc nilB (fun das r hG hr => ?_)
 unfold g_z3yc at hG
 split at hG
 ·rename_i a0_0 a0_1 a0_2
  injection hG with hG; subst hG
  exact ⟨none, true, win default ((raw_z3yc a0_0 a0_1 a0_2).trans (DT.go_run _ _)) hr⟩
 ·cases hG
abbrev cx_zajt : Cx := mkCx2 tyTab [(86, g_z3yc)] [] [] []
theorem rdy_zajt : Ready Tryz.prog tyTab [(86, g_z3yc)] [] [] := ⟨consG2 z3yc_ok (noneG2), noneI2, noneF2⟩
structure S.zajt_T where
 x0 : Bool
 deriving Inhabited
def S.zajt_R (a0_0 a0_1 : Int) (a0_2 : ByteArray) : DT S.zajt_T :=
(.br (S.z3yc_is a0_0 a0_1 a0_2)
(.leaf ⟨xnot (S.z3yc_o a0_0 a0_1 a0_2).x0⟩)
.fail)
def S.zajt (a0_0 a0_1 : Int) (a0_2 : ByteArray) : Option S.zajt_T := (S.zajt_R a0_0 a0_1 a0_2).run
def S.zajt_is (a0_0 a0_1 : Int) (a0_2 : ByteArray) : Bool := (S.zajt a0_0 a0_1 a0_2).isSome
def S.zajt_o (a0_0 a0_1 : Int) (a0_2 : ByteArray) : S.zajt_T := (S.zajt a0_0 a0_1 a0_2).getD default
def ret_zajt (b : Bool) (r : S.zajt_T) : Ret := ⟨b, none, [(false, [cB r.x0])]⟩
def g_zajt : Con
 | [(true, [.sc (.int .i64 a0_0), .sc (.int .i64 a0_1), .sc (.str a0_2)])] => some (ret_zajt (S.zajt_is a0_0 a0_1 a0_2) (S.zajt_o a0_0 a0_1 a0_2))
 | _ => none
theorem raw_zajt (a0_0 a0_1 : Int) (a0_2 : ByteArray) : evR2 cx_zajt (hdI cx_zajt (find []) [] none 0) none Tryz.f88 88 none [(true, [dI a0_0, dI a0_1, .sc (.str a0_2)])] some = (S.zajt_R a0_0 a0_1 a0_2).go (ret_zajt true) := by kernel_rfl
theorem bs_zajt : loopsIn Tryz.f88 [] = [] := by kernel_rfl
theorem zajt_ok : Stands Tryz.prog tyTab 88 g_zajt := by
 refine stands3 (L := find []) (n := 0) (hints := []) (cx_ok rfl) rdy_zajt ⟨by kernel_rfl, by kernel_rfl, by kernel_rfl⟩ bs_zajt nilB (fun das r hG hr => ?_)
 unfold g_zajt at hG
 split at hG
 ·rename_i a0_0 a0_1 a0_2
  injection hG with hG; subst hG
  exact ⟨none, true, win default ((raw_zajt a0_0 a0_1 a0_2).trans (DT.go_run _ _)) hr⟩
 ·cases hG
abbrev cx_zzbr : Cx := mkCx2 tyTab [(88, g_zajt)] [] [(94, 2, { keep := [0, 1, 7, 8], acc := [] })] []
theorem rdy_zzbr : Ready Tryz.prog tyTab [(88, g_zajt)] [] [] := ⟨consG2 zajt_ok (noneG2), noneI2, noneF2⟩
structure S.zzbr_2_V where
 t8_ : Int
def S.zzbr_2_R (qA : Lv) (qB : Int) (v : S.zzbr_2_V) : DT (Option Nat × S.zzbr_2_V) :=
let y0 : Ty .val := qA.getD v.t8_.toNat (dflt .val)
let y1 := y0.kind
let y2 := y0.n
let y3 := y0.s
(.br (xdec (v.t8_ < qB))
(.br (xdec (0 ≤ v.t8_) && xdec (v.t8_ < (↑qA.length : Int)))
(.br (S.zajt_is y1 y2 y3)
(.br ((S.zajt_o y1 y2 y3).x0)
(.leaf (some 0, v))
(.leaf (none, ⟨xwrap .i64 (v.t8_ + 1)⟩)))
.fail)
.fail)
(.leaf (some 1, v)))
def S.zzbr_2_r (qA : Lv) (qB : Int) (v : S.zzbr_2_V) : Option (Option Nat × S.zzbr_2_V) := (S.zzbr_2_R qA qB v).run
def S.zzbr_2_j (qA : Lv) (qB : Int) (v : S.zzbr_2_V) (j : Nat) : Bool := Lp_j (S.zzbr_2_r qA qB) v j
def S.zzbr_2_v (qA : Lv) (qB : Int) (v : S.zzbr_2_V) : S.zzbr_2_V := Lp_v (S.zzbr_2_r qA qB) v
def mk_zzbr_2 (qC : OBz) (qD : Bool) (qA : Lv) (qB : Int) (v : S.zzbr_2_V) : St := ⟨(V.v false [C.d (.sl qC qD .val qA)] :: (V.v false [C.d (D.fn 88 [] [])] :: (vs 5 ((cV qB) :: ((cV v.t8_) :: (vs 10 [])))))), (ns 4 []), 0⟩
def ex_zzbr_2 (qC : OBz) (qD : Bool) (qA : Lv) (qB : Int) (j : Nat) (v : S.zzbr_2_V) : Ex × St := match j with
 | 0 => (Ex.ret, ⟨(vs 4 ((cV v.t8_) :: (vs 14 []))), (ns 15 []), 0⟩)
 | 1 => (Ex.exit 0, ⟨(vs 19 []), (ns 5 []), 0⟩)
 | _ => (.ret, ⟨[], [], 0⟩)
def T1_zzbr_2 : V → V → V → V → Tree
 | V.v false [C.d (.sl qC qD .val qA)], V.v false [C.d (D.fn 88 [] [])], V.v false [C.d (.sc (.int .i64 qB))], V.v false [C.d (.sc (.int .i64 t8_))] => exT (fun j => ex_zzbr_2 qC qD qA qB j (S.zzbr_2_v qA qB ⟨t8_⟩)) (S.zzbr_2_j qA qB ⟨t8_⟩) [0, 1]
 | _, _, _, _ => .bad
def T_zzbr_2 (st : St) : Tree := bif okSt 19 4 0 [] st then T1_zzbr_2 (st.env.getD 0 .any) (st.env.getD 1 .any) (st.env.getD 7 .any) (st.env.getD 8 .any) else .bad
def b_zzbr_2 : Code := loopBy Tryz.f94 2
theorem rnd_zzbr_2 (qC : OBz) (qD : Bool) (qA : Lv) (qB : Int) (v : S.zzbr_2_V) : round2 cx_zzbr (hdI cx_zzbr (find []) [] none 0) 94 b_zzbr_2 [] 4 [4] (mk_zzbr_2 qC qD qA qB v) = (S.zzbr_2_R qA qB v).go (roundOut (mk_zzbr_2 qC qD qA qB) (ex_zzbr_2 qC qD qA qB)) := by kernel_rfl
theorem bs_zzbr_2 : loopsOf b_zzbr_2 ++ loopsInl [] = [] := by kernel_rfl
theorem ci_zzbr_2 (qC : OBz) (qD : Bool) (qA : Lv) (qB : Int) : ∀ v j v2, Lp (S.zzbr_2_r qA qB) v = some (j, v2) → Circles Tryz.prog cx_zzbr b_zzbr_2 (mk_zzbr_2 qC qD qA qB v) (ex_zzbr_2 qC qD qA qB j v2).1 (ex_zzbr_2 qC qD qA qB j v2).2 :=
 loop_ok2 (L := find []) (n := 0) (hints := [(94, 2, { keep := [0, 1, 7, 8], acc := [] })]) (cx_ok rfl) rdy_zzbr bs_zzbr_2 nilB (fun v => (rnd_zzbr_2 qC qD qA qB v).trans (DT.go_run _ _)) (by intro j v; unfold ex_zzbr_2; split <;> rfl)
theorem mke_zzbr_2 (qC : OBz) (qD : Bool) (qA : Lv) (qB : Int) (v : S.zzbr_2_V) : mk_zzbr_2 qC qD qA qB v = ⟨envOf 19 [(0, V.v false [C.d (.sl qC qD .val qA)]), (1, V.v false [C.d (D.fn 88 [] [])]), (7, (cV qB)), (8, (cV v.t8_))], heapOf 4 [], 0⟩ := by kernel_rfl
theorem lo1_zzbr_2 (e0 e1 e7 e8 : V)  e st2 (h : (T1_zzbr_2 e0 e1 e7 e8).eval = some (e, st2)) : Circles Tryz.prog cx_zzbr b_zzbr_2 ⟨envOf 19 [(0, e0), (1, e1), (7, e7), (8, e8)], heapOf 4 [], 0⟩ e st2 := by
 unfold T1_zzbr_2 at h
 split at h
 ·have := loop_tree (mk := mk_zzbr_2 _ _ _ _) (ci_zzbr_2 _ _ _ _) _ _ e st2 h
  rw [mke_zzbr_2] at this
  exact this
 ·cases h
theorem lok_zzbr_2 : LoopOk Tryz.prog cx_zzbr b_zzbr_2 T_zzbr_2 := by
 intro st e st2 h
 unfold T_zzbr_2 at h
 cases hk : okSt 19 4 0 [] st with
 | false => rw [hk] at h; cases h
 | true =>
  rw [hk] at h
  exact circles_keep (ks := [0, 1, 7, 8]) hk (lo1_zzbr_2 _ _ _ _ e st2 h)
structure S.zzbr_T where
 x0 : Int
 deriving Inhabited
def S.zzbr_R (a0 : Lv) : DT S.zzbr_T :=
let y0 : Int := (↑a0.length : Int)
let y1 : S.zzbr_2_V := { t8_ := 0 : S.zzbr_2_V }
(.br (S.zzbr_2_j a0 y0 y1 0)
(.leaf ⟨(S.zzbr_2_v a0 y0 y1).t8_⟩)
(.br (S.zzbr_2_j a0 y0 y1 1)
(.leaf ⟨-1⟩)
.fail))
def S.zzbr (a0 : Lv) : Option S.zzbr_T := (S.zzbr_R a0).run
def S.zzbr_is (a0 : Lv) : Bool := (S.zzbr a0).isSome
def S.zzbr_o (a0 : Lv) : S.zzbr_T := (S.zzbr a0).getD default
def ret_zzbr (b : Bool) (r : S.zzbr_T) : Ret := ⟨b, none, [(false, [(cI r.x0)])]⟩
def g_zzbr : Con
 | [(false, [.sl a0n a0f .val a0]), (false, [.fn 88 [] []])] => some (ret_zzbr (S.zzbr_is a0) (S.zzbr_o a0))
 | _ => none
theorem raw_zzbr (a0n : OBz) (a0f : Bool) (a0 : Lv) : evR2 cx_zzbr (hdI cx_zzbr (find [(2, T_zzbr_2)]) [] none 0) none Tryz.f94 94 none [(false, [.sl a0n a0f .val a0]), (false, [.fn 88 [] []])] some = (S.zzbr_R a0).go (ret_zzbr true) := by kernel_rfl
theorem bs_zzbr : loopsIn Tryz.f94 [] = [b_zzbr_2] := by kernel_rfl
theorem zzbr_ok : Stands Tryz.prog tyTab 94 g_zzbr := by
 refine stands3 (L := find [(2, T_zzbr_2)]) (n := 0) (hints := [(94, 2, { keep := [0, 1, 7, 8], acc := [] })]) (cx_ok rfl) rdy_zzbr ⟨by kernel_rfl, by kernel_rfl, by kernel_rfl⟩ bs_zzbr (consB (fun T h => by have e : T_zzbr_2 = T := Option.some.inj (show some T_zzbr_2 = some T from h); exact e ▸ lok_zzbr_2) nilB) (fun das r hG hr => ?_)
 unfold g_zzbr at hG
 split at hG
 ·rename_i a0n a0f a0
  injection hG with hG; subst hG
  exact ⟨none, true, win default ((raw_zzbr a0n a0f a0).trans (DT.go_run _ _)) hr⟩
 ·cases hG
abbrev cx_z2hn : Cx := mkCx2 tyTab [(94, g_zzbr)] [] [] []
theorem rdy_z2hn : Ready Tryz.prog tyTab [(94, g_zzbr)] [] [] := ⟨consG2 zzbr_ok (noneG2), noneI2, noneF2⟩
structure S.z2hn_T where
 x0 : Bool
 deriving Inhabited
def S.z2hn_R (a0 : Lv) : DT S.z2hn_T :=
(.br (S.zzbr_is a0)
(.leaf ⟨xdec ((S.zzbr_o a0).x0 ≥ 0)⟩)
.fail)
def S.z2hn (a0 : Lv) : Option S.z2hn_T := (S.z2hn_R a0).run
def S.z2hn_is (a0 : Lv) : Bool := (S.z2hn a0).isSome
def S.z2hn_o (a0 : Lv) : S.z2hn_T := (S.z2hn a0).getD default
def ret_z2hn (b : Bool) (r : S.z2hn_T) : Ret := ⟨b, none, [(false, [cB r.x0])]⟩
def g_z2hn : Con
 | [(false, [.sl a0n a0f .val a0]), (false, [.fn 88 [] []])] => some (ret_z2hn (S.z2hn_is a0) (S.z2hn_o a0))
 | _ => none
theorem raw_z2hn (a0n : OBz) (a0f : Bool) (a0 : Lv) : evR2 cx_z2hn (hdI cx_z2hn (find []) [] none 0) none Tryz.f90 90 none [(false, [.sl a0n a0f .val a0]), (false, [.fn 88 [] []])] some = (S.z2hn_R a0).go (ret_z2hn true) := by kernel_rfl
theorem bs_z2hn : loopsIn Tryz.f90 [] = [] := by kernel_rfl
theorem z2hn_ok : Stands Tryz.prog tyTab 90 g_z2hn := by
 refine stands3 (L := find []) (n := 0) (hints := []) (cx_ok rfl) rdy_z2hn ⟨by kernel_rfl, by kernel_rfl, by kernel_rfl⟩ bs_z2hn nilB (fun das r hG hr => ?_)
 unfold g_z2hn at hG
 split at hG
 ·rename_i a0n a0f a0
  injection hG with hG; subst hG
  exact ⟨none, true, win default ((raw_z2hn a0n a0f a0).trans (DT.go_run _ _)) hr⟩
 ·cases hG
abbrev cx_zc3b : Cx := mkCx2 tyTab [] [] [] []
theorem rdy_zc3b : Ready Tryz.prog tyTab [] [] [] := ⟨noneG2, noneI2, noneF2⟩
structure S.zc3b_T where
 x0 : Bool
 deriving Inhabited
def S.zc3b_R (a0 : Int) : DT S.zc3b_T :=
(.leaf ⟨xneI a0 a0⟩)
def S.zc3b (a0 : Int) : Option S.zc3b_T := (S.zc3b_R a0).run
def S.zc3b_is (a0 : Int) : Bool := (S.zc3b a0).isSome
def S.zc3b_o (a0 : Int) : S.zc3b_T := (S.zc3b a0).getD default
def ret_zc3b (b : Bool) (r : S.zc3b_T) : Ret := ⟨b, none, [(false, [cB r.x0])]⟩
def g_zc3b : Con
 | [(false, [.sc (.int .i64 a0)])] => some (ret_zc3b (S.zc3b_is a0) (S.zc3b_o a0))
 | _ => none
theorem raw_zc3b (a0 : Int) : evR2 cx_zc3b (hdI cx_zc3b (find []) [] none 0) none Tryz.f41 41 none [(false, [dI a0])] some = (S.zc3b_R a0).go (ret_zc3b true) := by kernel_rfl
theorem bs_zc3b : loopsIn Tryz.f41 [] = [] := by kernel_rfl
theorem zc3b_ok : Stands Tryz.prog tyTab 41 g_zc3b := by
 refine stands3 (L := find []) (n := 0) (hints := []) (cx_ok rfl) rdy_zc3b ⟨by kernel_rfl, by kernel_rfl, by kernel_rfl⟩ bs_zc3b nilB (fun das r hG hr => ?_)
 unfold g_zc3b at hG
 split at hG
 ·rename_i a0
  injection hG with hG; subst hG
  exact ⟨none, true, win default ((raw_zc3b a0).trans (DT.go_run _ _)) hr⟩
 ·cases hG
abbrev cx_zong : Cx := mkCx2 tyTab [] [] [] []
theorem rdy_zong : Ready Tryz.prog tyTab [] [] [] := ⟨noneG2, noneI2, noneF2⟩
structure S.zong_T where
 x0 : Bool
 deriving Inhabited
def S.zong_R (a0 : ByteArray) : DT S.zong_T :=
(.leaf ⟨xnot (xdec (a0 = a0))⟩)
def S.zong (a0 : ByteArray) : Option S.zong_T := (S.zong_R a0).run
def S.zong_is (a0 : ByteArray) : Bool := (S.zong a0).isSome
def S.zong_o (a0 : ByteArray) : S.zong_T := (S.zong a0).getD default
def ret_zong (b : Bool) (r : S.zong_T) : Ret := ⟨b, none, [(false, [cB r.x0])]⟩
def g_zong : Con
 | [(false, [.sc (.str a0)])] => some (ret_zong (S.zong_is a0) (S.zong_o a0))
 | _ => none
theorem raw_zong (a0 : ByteArray) : evR2 cx_zong (hdI cx_zong (find []) [] none 0) none Tryz.f105 105 none [(false, [.sc (.str a0)])] some = (S.zong_R a0).go (ret_zong true) := by kernel_rfl
theorem bs_zong : loopsIn Tryz.f105 [] = [] := by kernel_rfl
theorem zong_ok : Stands Tryz.prog tyTab 105 g_zong := by
 refine stands3 (L := find []) (n := 0) (hints := []) (cx_ok rfl) rdy_zong ⟨by kernel_rfl, by kernel_rfl, by kernel_rfl⟩ bs_zong nilB (fun das r hG hr => ?_)
 unfold g_zong at hG
 split at hG
 ·rename_i a0
  injection hG with hG; subst hG
  exact ⟨none, true, win default ((raw_zong a0).trans (DT.go_run _ _)) hr⟩
 ·cases hG
abbrev cx_zlpd : Cx := mkCx2 tyTab [(41, g_zc3b)] [] [] []
theorem rdy_zlpd : Ready Tryz.prog tyTab [(41, g_zc3b)] [] [] := ⟨consG2 zc3b_ok (noneG2), noneI2, noneF2⟩
structure S.zlpd_T where
 x0 : Int
 deriving Inhabited
def S.zlpd_R (a0 a1 : Int) : DT S.zlpd_T :=
let y0 : Int := -1
(.br ((S.zc3b_o a0).x0)
(.br ((S.zc3b_o a1).x0)
(.leaf ⟨0⟩)
(.leaf ⟨y0⟩))
(.br ((S.zc3b_o a1).x0)
(.leaf ⟨1⟩)
(.br (xdec (a0 < a1))
(.leaf ⟨y0⟩)
(.br (xdec (a0 > a1))
(.leaf ⟨1⟩)
(.leaf ⟨0⟩)))))
def S.zlpd (a0 a1 : Int) : Option S.zlpd_T := (S.zlpd_R a0 a1).run
def S.zlpd_is (a0 a1 : Int) : Bool := (S.zlpd a0 a1).isSome
def S.zlpd_o (a0 a1 : Int) : S.zlpd_T := (S.zlpd a0 a1).getD default
def ret_zlpd (b : Bool) (r : S.zlpd_T) : Ret := ⟨b, none, [(false, [(cI r.x0)])]⟩
def g_zlpd : Con
 | [(false, [.sc (.int .i64 a0)]), (false, [.sc (.int .i64 a1)])] => some (ret_zlpd (S.zlpd_is a0 a1) (S.zlpd_o a0 a1))
 | _ => none
theorem raw_zlpd (a0 a1 : Int) : evR2 cx_zlpd (hdI cx_zlpd (find []) [] none 0) none Tryz.f24 24 none [(false, [dI a0]), (false, [dI a1])] some = (S.zlpd_R a0 a1).go (ret_zlpd true) := by kernel_rfl
theorem bs_zlpd : loopsIn Tryz.f24 [] = [] := by kernel_rfl
theorem zlpd_ok : Stands Tryz.prog tyTab 24 g_zlpd := by
 refine stands3 (L := find []) (n := 0) (hints := []) (cx_ok rfl) rdy_zlpd ⟨by kernel_rfl, by kernel_rfl, by kernel_rfl⟩ bs_zlpd nilB (fun das r hG hr => ?_)
 unfold g_zlpd at hG
 split at hG
 ·rename_i a0 a1
  injection hG with hG; subst hG
  exact ⟨none, true, win default ((raw_zlpd a0 a1).trans (DT.go_run _ _)) hr⟩
 ·cases hG
abbrev cx_zcxf : Cx := mkCx2 tyTab [(105, g_zong)] [] [] []
theorem rdy_zcxf : Ready Tryz.prog tyTab [(105, g_zong)] [] [] := ⟨consG2 zong_ok (noneG2), noneI2, noneF2⟩
structure S.zcxf_T where
 x0 : Int
 deriving Inhabited
def S.zcxf_R (a0 a1 : ByteArray) : DT S.zcxf_T :=
let y0 : Int := -1
(.br ((S.zong_o a0).x0)
(.br ((S.zong_o a1).x0)
(.leaf ⟨0⟩)
(.leaf ⟨y0⟩))
(.br ((S.zong_o a1).x0)
(.leaf ⟨1⟩)
(.br (strLt a0 a1)
(.leaf ⟨y0⟩)
(.br (xnot (strLt a0 a1 || xdec (a0 = a1)))
(.leaf ⟨1⟩)
(.leaf ⟨0⟩)))))
def S.zcxf (a0 a1 : ByteArray) : Option S.zcxf_T := (S.zcxf_R a0 a1).run
def S.zcxf_is (a0 a1 : ByteArray) : Bool := (S.zcxf a0 a1).isSome
def S.zcxf_o (a0 a1 : ByteArray) : S.zcxf_T := (S.zcxf a0 a1).getD default
def ret_zcxf (b : Bool) (r : S.zcxf_T) : Ret := ⟨b, none, [(false, [(cI r.x0)])]⟩
def g_zcxf : Con
 | [(false, [.sc (.str a0)]), (false, [.sc (.str a1)])] => some (ret_zcxf (S.zcxf_is a0 a1) (S.zcxf_o a0 a1))
 | _ => none
theorem raw_zcxf (a0 a1 : ByteArray) : evR2 cx_zcxf (hdI cx_zcxf (find []) [] none 0) none Tryz.f104 104 none [(false, [.sc (.str a0)]), (false, [.sc (.str a1)])] some = (S.zcxf_R a0 a1).go (ret_zcxf true) := by kernel_rfl
theorem bs_zcxf : loopsIn Tryz.f104 [] = [] := by kernel_rfl
theorem zcxf_ok : Stands Tryz.prog tyTab 104 g_zcxf := by
 refine stands3 (L := find []) (n := 0) (hints := []) (cx_ok rfl) rdy_zcxf ⟨by kernel_rfl, by kernel_rfl, by kernel_rfl⟩ bs_zcxf nilB (fun das r hG hr => ?_)
 unfold g_zcxf at hG
 split at hG
 ·rename_i a0 a1
  injection hG with hG; subst hG
  exact ⟨none, true, win default ((raw_zcxf a0 a1).trans (DT.go_run _ _)) hr⟩
 ·cases hG
abbrev cx_zto6 : Cx := mkCx2 tyTab [] [] [(103, 3, { keep := [3, 6, 7, 8], acc := [] })] []
theorem rdy_zto6 : Ready Tryz.prog tyTab [] [] [] := ⟨noneG2, noneI2, noneF2⟩
structure S.zto6_3_V where
 t8_ : Int
def S.zto6_3_R (qE : Int) (qF : Li) (qB : Int) (v : S.zto6_3_V) : DT (Option Nat × S.zto6_3_V) :=
(.br (xdec (v.t8_ < qB))
(.br (xdec (0 ≤ v.t8_) && xdec (v.t8_ < (↑qF.length : Int)))
(.br (xneI (qF.getD v.t8_.toNat (dflt .int)) qE)
(.leaf (some 0, v))
(.leaf (none, ⟨xwrap .i64 (v.t8_ + 1)⟩)))
.fail)
(.leaf (some 1, v)))
def S.zto6_3_r (qE : Int) (qF : Li) (qB : Int) (v : S.zto6_3_V) : Option (Option Nat × S.zto6_3_V) := (S.zto6_3_R qE qF qB v).run
def S.zto6_3_j (qE : Int) (qF : Li) (qB : Int) (v : S.zto6_3_V) (j : Nat) : Bool := Lp_j (S.zto6_3_r qE qF qB) v j
def S.zto6_3_v (qE : Int) (qF : Li) (qB : Int) (v : S.zto6_3_V) : S.zto6_3_V := Lp_v (S.zto6_3_r qE qF qB) v
def mk_zto6_3 (qE : Int) (qG : OBz) (qH : Bool) (qF : Li) (qB : Int) (v : S.zto6_3_V) : St := ⟨(vs 3 ((cV qE) :: (V.any :: (V.any :: (V.v false [C.d (.sl qG qH .int qF)] :: ((cV qB) :: ((cV v.t8_) :: (vs 9 [])))))))), (ns 5 []), 0⟩
def ex_zto6_3 (qE : Int) (qG : OBz) (qH : Bool) (qF : Li) (qB : Int) (j : Nat) (v : S.zto6_3_V) : Ex × St := match j with
 | 0 => (Ex.ret, ⟨(V.any :: (V.any :: ((cV (qF.getD v.t8_.toNat (dflt .int))) :: ((cV qE) :: (vs 14 []))))), (ns 14 []), 0⟩)
 | 1 => (Ex.exit 0, ⟨(vs 3 ((cV qE) :: (vs 14 []))), (ns 6 []), 0⟩)
 | _ => (.ret, ⟨[], [], 0⟩)
def T1_zto6_3 : V → V → V → V → Tree
 | V.v false [C.d (.sc (.int .i64 qE))], V.v false [C.d (.sl qG qH .int qF)], V.v false [C.d (.sc (.int .i64 qB))], V.v false [C.d (.sc (.int .i64 t8_))] => exT (fun j => ex_zto6_3 qE qG qH qF qB j (S.zto6_3_v qE qF qB ⟨t8_⟩)) (S.zto6_3_j qE qF qB ⟨t8_⟩) [0, 1]
 | _, _, _, _ => .bad
def T_zto6_3 (st : St) : Tree := bif okSt 18 5 0 [] st then T1_zto6_3 (st.env.getD 3 .any) (st.env.getD 6 .any) (st.env.getD 7 .any) (st.env.getD 8 .any) else .bad
def b_zto6_3 : Code := loopBy Tryz.f103 3
theorem rnd_zto6_3 (qE : Int) (qG : OBz) (qH : Bool) (qF : Li) (qB : Int) (v : S.zto6_3_V) : round2 cx_zto6 (hdI cx_zto6 (find []) [] none 0) 103 b_zto6_3 [] 5 [2, 3] (mk_zto6_3 qE qG qH qF qB v) = (S.zto6_3_R qE qF qB v).go (roundOut (mk_zto6_3 qE qG qH qF qB) (ex_zto6_3 qE qG qH qF qB)) := by kernel_rfl
theorem bs_zto6_3 : loopsOf b_zto6_3 ++ loopsInl [] = [] := by kernel_rfl
theorem ci_zto6_3 (qE : Int) (qG : OBz) (qH : Bool) (qF : Li) (qB : Int) : ∀ v j v2, Lp (S.zto6_3_r qE qF qB) v = some (j, v2) → Circles Tryz.prog cx_zto6 b_zto6_3 (mk_zto6_3 qE qG qH qF qB v) (ex_zto6_3 qE qG qH qF qB j v2).1 (ex_zto6_3 qE qG qH qF qB j v2).2 :=
 loop_ok2 (L := find []) (n := 0) (hints := [(103, 3, { keep := [3, 6, 7, 8], acc := [] })]) (cx_ok rfl) rdy_zto6 bs_zto6_3 nilB (fun v => (rnd_zto6_3 qE qG qH qF qB v).trans (DT.go_run _ _)) (by intro j v; unfold ex_zto6_3; split <;> rfl)
theorem mke_zto6_3 (qE : Int) (qG : OBz) (qH : Bool) (qF : Li) (qB : Int) (v : S.zto6_3_V) : mk_zto6_3 qE qG qH qF qB v = ⟨envOf 18 [(3, (cV qE)), (6, V.v false [C.d (.sl qG qH .int qF)]), (7, (cV qB)), (8, (cV v.t8_))], heapOf 5 [], 0⟩ := by kernel_rfl
theorem lo1_zto6_3 (e3 e6 e7 e8 : V)  e st2 (h : (T1_zto6_3 e3 e6 e7 e8).eval = some (e, st2)) : Circles Tryz.prog cx_zto6 b_zto6_3 ⟨envOf 18 [(3, e3), (6, e6), (7, e7), (8, e8)], heapOf 5 [], 0⟩ e st2 := by
 unfold T1_zto6_3 at h
 split at h
 ·have := loop_tree (mk := mk_zto6_3 _ _ _ _ _) (ci_zto6_3 _ _ _ _ _) _ _ e st2 h
  rw [mke_zto6_3] at this
  exact this
 ·cases h
theorem lok_zto6_3 : LoopOk Tryz.prog cx_zto6 b_zto6_3 T_zto6_3 := by
 intro st e st2 h
 unfold T_zto6_3 at h
 cases hk : okSt 18 5 0 [] st with
 | false => rw [hk] at h; cases h
 | true =>
  rw [hk] at h
  exact circles_keep (ks := [3, 6, 7, 8]) hk (lo1_zto6_3 _ _ _ _ e st2 h)
structure S.zto6_T where
 x0 : Ty .int
 deriving Inhabited
def S.zto6_R (a0 : Li) : DT S.zto6_T :=
let y0 : Int := (↑a0.length : Int)
let y1 : S.zto6_3_V := { t8_ := 0 : S.zto6_3_V }
(.br (S.zto6_3_j 0 a0 y0 y1 0)
(.leaf ⟨a0.getD (S.zto6_3_v 0 a0 y0 y1).t8_.toNat (dflt .int)⟩)
(.br (S.zto6_3_j 0 a0 y0 y1 1)
(.leaf ⟨0⟩)
.fail))
def S.zto6 (a0 : Li) : Option S.zto6_T := (S.zto6_R a0).run
def S.zto6_is (a0 : Li) : Bool := (S.zto6 a0).isSome
def S.zto6_o (a0 : Li) : S.zto6_T := (S.zto6 a0).getD default
def ret_zto6 (b : Bool) (r : S.zto6_T) : Ret := ⟨b, none, [(false, [(cI r.x0)])]⟩
def g_zto6 : Con
 | [(false, [.sl a0n a0f .int a0])] => some (ret_zto6 (S.zto6_is a0) (S.zto6_o a0))
 | _ => none
theorem raw_zto6 (a0n : OBz) (a0f : Bool) (a0 : Li) : evR2 cx_zto6 (hdI cx_zto6 (find [(3, T_zto6_3)]) [] none 0) none Tryz.f103 103 none [(false, [.sl a0n a0f .int a0])] some = (S.zto6_R a0).go (ret_zto6 true) := by kernel_rfl
theorem bs_zto6 : loopsIn Tryz.f103 [] = [b_zto6_3] := by kernel_rfl
theorem zto6_ok : Stands Tryz.prog tyTab 103 g_zto6 := by
 refine stands3 (L := find [(3, T_zto6_3)]) (n := 0) (hints := [(103, 3, { keep := [3, 6, 7, 8], acc := [] })]) (cx_ok rfl) rdy_zto6 ⟨by kernel_rfl, by kernel_rfl, by kernel_rfl⟩ bs_zto6 (consB (fun T h => by have e : T_zto6_3 = T := Option.some.inj (show some T_zto6_3 = some T from h); exact e ▸ lok_zto6_3) nilB) (fun das r hG hr => ?_)
 unfold g_zto6 at hG
 split at hG
 ·rename_i a0n a0f a0
  injection hG with hG; subst hG
  exact ⟨none, true, win default ((raw_zto6 a0n a0f a0).trans (DT.go_run _ _)) hr⟩
 ·cases hG
abbrev cx_zzxm : Cx := mkCx2 tyTab [(24, g_zlpd), (86, g_z3yc), (103, g_zto6), (104, g_zcxf)] [] [] []
theorem rdy_zzxm : Ready Tryz.prog tyTab [(24, g_zlpd), (86, g_z3yc), (103, g_zto6), (104, g_zcxf)] [] [] := ⟨consG2 zlpd_ok (consG2 z3yc_ok (consG2 zto6_ok (consG2 zcxf_ok (noneG2)))), noneI2, noneF2⟩
structure S.zzxm_T where
 x0 : Bool
 x1 : Bool
 deriving Inhabited
def S.zzxm_R (a0_0 a0_1 : Int) (a0_2 : ByteArray) (a1_0 a1_1 : Int) (a1_2 : ByteArray) : DT S.zzxm_T :=
let y0 : Nat := 0 + 2
let y1 : Int := (S.zlpd_o a0_1 a1_1).x0
let y2 : Int := (S.zcxf_o a0_2 a1_2).x0
let y3 : Li := sub [y1, y2] 0 y0
(.br (S.z3yc_is a0_0 a0_1 a0_2)
(.br (xnot (S.z3yc_o a0_0 a0_1 a0_2).x0)
(.leaf ⟨false, false⟩)
(.br (S.z3yc_is a1_0 a1_1 a1_2)
(.br (xnot (S.z3yc_o a1_0 a1_1 a1_2).x0)
(.leaf ⟨false, false⟩)
(.br (xneI a0_0 a1_0)
(.leaf ⟨false, false⟩)
(.br (S.zlpd_is a0_1 a1_1)
(.br (S.zcxf_is a0_2 a1_2)
(.br (xdec (y0 ≤ (((List.replicate 2 (dflt .int)).set 0 y1).set 1 y2).length) && true && true && S.zto6_is y3)
(.leaf ⟨xdec ((S.zto6_o y3).x0 < 0), true⟩)
.fail)
.fail)
.fail)))
.fail))
.fail)
def S.zzxm (a0_0 a0_1 : Int) (a0_2 : ByteArray) (a1_0 a1_1 : Int) (a1_2 : ByteArray) : Option S.zzxm_T := (S.zzxm_R a0_0 a0_1 a0_2 a1_0 a1_1 a1_2).run
def S.zzxm_is (a0_0 a0_1 : Int) (a0_2 : ByteArray) (a1_0 a1_1 : Int) (a1_2 : ByteArray) : Bool := (S.zzxm a0_0 a0_1 a0_2 a1_0 a1_1 a1_2).isSome
def S.zzxm_o (a0_0 a0_1 : Int) (a0_2 : ByteArray) (a1_0 a1_1 : Int) (a1_2 : ByteArray) : S.zzxm_T := (S.zzxm a0_0 a0_1 a0_2 a1_0 a1_1 a1_2).getD default
def ret_zzxm (b : Bool) (r : S.zzxm_T) : Ret := ⟨b, none, [(false, [cB r.x0]), (false, [cB r.x1])]⟩
def g_zzxm : Con
 | [(true, [.sc (.int .i64 a0_0), .sc (.int .i64 a0_1), .sc (.str a0_2)]), (true, [.sc (.int .i64 a1_0), .sc (.int .i64 a1_1), .sc (.str a1_2)])] => some (ret_zzxm (S.zzxm_is a0_0 a0_1 a0_2 a1_0 a1_1 a1_2) (S.zzxm_o a0_0 a0_1 a0_2 a1_0 a1_1 a1_2))
 | _ => none
theorem raw_zzxm (a0_0 a0_1 : Int) (a0_2 : ByteArray) (a1_0 a1_1 : Int) (a1_2 : ByteArray) : evR2 cx_zzxm (hdI cx_zzxm (find []) [] none 0) none Tryz.f101 101 none [(true, [dI a0_0, dI a0_1, .sc (.str a0_2)]), (true, [dI a1_0, dI a1_1, .sc (.str a1_2)])] some = (S.zzxm_R a0_0 a0_1 a0_2 a1_0 a1_1 a1_2).go (ret_zzxm true) := by kernel_rfl
theorem bs_zzxm : loopsIn Tryz.f101 [] = [] := by kernel_rfl
theorem zzxm_ok : Stands Tryz.prog tyTab 101 g_zzxm := by
 refine stands3 (L := find []) (n := 0) (hints := []) (cx_ok rfl) rdy_zzxm ⟨by kernel_rfl, by kernel_rfl, by kernel_rfl⟩ bs_zzxm nilB (fun das r hG hr => ?_)
 unfold g_zzxm at hG
 split at hG
 ·rename_i a0_0 a0_1 a0_2 a1_0 a1_1 a1_2
  injection hG with hG; subst hG
  exact ⟨none, true, win default ((raw_zzxm a0_0 a0_1 a0_2 a1_0 a1_1 a1_2).trans (DT.go_run _ _)) hr⟩
 ·cases hG
abbrev cx_zost : Cx := mkCx2 tyTab [] [] [] []
theorem rdy_zost : Ready Tryz.prog tyTab [] [] [] := ⟨noneG2, noneI2, noneF2⟩
structure S.zost_T where
 x0 : Int
 x1 : Bool
 deriving Inhabited
def S.zost_R (a0 a1 a2 : Int) : DT S.zost_T :=
let y0 : Int := xwrap .i64 (a1 + a2)
let y1 : Bool := xdec (a2 > 0)
let y2 : Int := xwrap .i64 (a1 - a2)
let y3 : Int := xwrap .i64 (a1 * a2)
let y4 : Int := -1
let y5 : Bool := xeqI a1 y4
let y6 : Bool := xnot (xeqI a2 y3)
(.br (xeqI a0 2)
(.leaf ⟨y0, xdec (y0 > a1) == y1⟩)
(.br (xeqI a0 3)
(.leaf ⟨y2, xdec (y2 < a1) == y1⟩)
(.br (xeqI a1 0)
(.leaf ⟨0, true⟩)
(.br (xeqI a2 0)
(.leaf ⟨0, true⟩)
(.br (xdec (a2 ≠ 0))
(.br (xeqI (xwrap .i64 (y3.tdiv a2)) a1)
(.br (xeqI a2 y4)
(.br (xnot (xeqI a1 y3))
(.br (y5)
(.leaf ⟨y3, y6⟩)
(.leaf ⟨y3, xnot false⟩))
(.leaf ⟨y3, false⟩))
(.br (y5)
(.leaf ⟨y3, y6⟩)
(.leaf ⟨y3, xnot false⟩)))
(.leaf ⟨y3, false⟩))
.fail)))))
def S.zost (a0 a1 a2 : Int) : Option S.zost_T := (S.zost_R a0 a1 a2).run
def S.zost_is (a0 a1 a2 : Int) : Bool := (S.zost a0 a1 a2).isSome
def S.zost_o (a0 a1 a2 : Int) : S.zost_T := (S.zost a0 a1 a2).getD default
def ret_zost (b : Bool) (r : S.zost_T) : Ret := ⟨b, none, [(false, [(cI r.x0)]), (false, [cB r.x1])]⟩
def g_zost : Con
 | [(false, [.sc (.int .i64 a0)]), (false, [.sc (.int .i64 a1)]), (false, [.sc (.int .i64 a2)])] => some (ret_zost (S.zost_is a0 a1 a2) (S.zost_o a0 a1 a2))
 | _ => none
theorem raw_zost (a0 a1 a2 : Int) : evR2 cx_zost (hdI cx_zost (find []) [] none 0) none Tryz.f102 102 none [(false, [dI a0]), (false, [dI a1]), (false, [dI a2])] some = (S.zost_R a0 a1 a2).go (ret_zost true) := by kernel_rfl
theorem bs_zost : loopsIn Tryz.f102 [] = [] := by kernel_rfl
theorem zost_ok : Stands Tryz.prog tyTab 102 g_zost := by
 refine stands3 (L := find []) (n := 0) (hints := []) (cx_ok rfl) rdy_zost ⟨by kernel_rfl, by kernel_rfl, by kernel_rfl⟩ bs_zost nilB (fun das r hG hr => ?_)
 unfold g_zost at hG
 split at hG
 ·rename_i a0 a1 a2
  injection hG with hG; subst hG
  exact ⟨none, true, win default ((raw_zost a0 a1 a2).trans (DT.go_run _ _)) hr⟩
 ·cases hG
abbrev cx_zq6h : Cx := mkCx2 tyTab [] [] [] []
theorem rdy_zq6h : Ready Tryz.prog tyTab [] [] [] := ⟨noneG2, noneI2, noneF2⟩
structure S.zq6h_T where
 x0 : Thing
 deriving Inhabited
def S.zq6h_R (a0_0 a0_1 : Int) (a0_2 : ByteArray) : DT S.zq6h_T :=
(.br (xeqI a0_0 0)
(.leaf ⟨Thing.one 165 (Sc.int IntKind.i64 a0_1)⟩)
(.br (xeqI a0_0 1)
(.leaf ⟨Thing.one 142 (Sc.bool (xeqI a0_1 1))⟩)
(.leaf ⟨Thing.val 167 { kind := a0_0, n := a0_1, s := a0_2 : Val }⟩)))
def S.zq6h (a0_0 a0_1 : Int) (a0_2 : ByteArray) : Option S.zq6h_T := (S.zq6h_R a0_0 a0_1 a0_2).run
def S.zq6h_is (a0_0 a0_1 : Int) (a0_2 : ByteArray) : Bool := (S.zq6h a0_0 a0_1 a0_2).isSome
def S.zq6h_o (a0_0 a0_1 : Int) (a0_2 : ByteArray) : S.zq6h_T := (S.zq6h a0_0 a0_1 a0_2).getD default
def ret_zq6h (b : Bool) (r : S.zq6h_T) : Ret := ⟨b, none, [(false, [C.d (D.th r.x0)])]⟩
def g_zq6h : Con
 | [(true, [.sc (.int .i64 a0_0), .sc (.int .i64 a0_1), .sc (.str a0_2)])] => some (ret_zq6h (S.zq6h_is a0_0 a0_1 a0_2) (S.zq6h_o a0_0 a0_1 a0_2))
 | _ => none
theorem raw_zq6h (a0_0 a0_1 : Int) (a0_2 : ByteArray) : evR2 cx_zq6h (hdI cx_zq6h (find []) [] none 0) none Tryz.f96 96 none [(true, [dI a0_0, dI a0_1, .sc (.str a0_2)])] some = (S.zq6h_R a0_0 a0_1 a0_2).go (ret_zq6h true) := by kernel_rfl
theorem bs_zq6h : loopsIn Tryz.f96 [] = [] := by kernel_rfl
theorem zq6h_ok : Stands Tryz.prog tyTab 96 g_zq6h := by
 refine stands3 (L := find []) (n := 0) (hints := []) (cx_ok rfl) rdy_zq6h ⟨by kernel_rfl, by kernel_rfl, by kernel_rfl⟩ bs_zq6h nilB (fun das r hG hr => ?_)
 unfold g_zq6h at hG
 split at hG
 ·rename_i a0_0 a0_1 a0_2
  injection hG with hG; subst hG
  exact ⟨none, true, win default ((raw_zq6h a0_0 a0_1 a0_2).trans (DT.go_run _ _)) hr⟩
 ·cases hG
abbrev cx_zzh4 : Cx := mkCx2 tyTab [] [] [] []
theorem rdy_zzh4 : Ready Tryz.prog tyTab [] [] [] := ⟨noneG2, noneI2, noneF2⟩
structure S.zzh4_T where
 x0 : Int
 x1 : Int
 x2 : ByteArray
 deriving Inhabited
def S.zzh4_R (a0 : Int) : DT S.zzh4_T :=
(.leaf ⟨0, a0, ByteArray.empty⟩)
def S.zzh4 (a0 : Int) : Option S.zzh4_T := (S.zzh4_R a0).run
def S.zzh4_is (a0 : Int) : Bool := (S.zzh4 a0).isSome
def S.zzh4_o (a0 : Int) : S.zzh4_T := (S.zzh4 a0).getD default
def ret_zzh4 (b : Bool) (r : S.zzh4_T) : Ret := ⟨b, none, [(true, [(cI r.x0), (cI r.x1), C.d (.sc (.str r.x2))])]⟩
def g_zzh4 : Con
 | [(false, [.sc (.int .i64 a0)])] => some (ret_zzh4 (S.zzh4_is a0) (S.zzh4_o a0))
 | _ => none
theorem raw_zzh4 (a0 : Int) : evR2 cx_zzh4 (hdI cx_zzh4 (find []) [] none 0) none Tryz.f121 121 none [(false, [dI a0])] some = (S.zzh4_R a0).go (ret_zzh4 true) := by kernel_rfl
theorem bs_zzh4 : loopsIn Tryz.f121 [] = [] := by kernel_rfl
theorem zzh4_ok : Stands Tryz.prog tyTab 121 g_zzh4 := by
 refine stands3 (L := find []) (n := 0) (hints := []) (cx_ok rfl) rdy_zzh4 ⟨by kernel_rfl, by kernel_rfl, by kernel_rfl⟩ bs_zzh4 nilB (fun das r hG hr => ?_)
 unfold g_zzh4 at hG
 split at hG
 ·rename_i a0
  injection hG with hG; subst hG
  exact ⟨none, true, win default ((raw_zzh4 a0).trans (DT.go_run _ _)) hr⟩
 ·cases hG
abbrev cx_zlhf : Cx := mkCx2 tyTab [] [] [] []
theorem rdy_zlhf : Ready Tryz.prog tyTab [] [] [] := ⟨noneG2, noneI2, noneF2⟩
structure S.zlhf_T where
 x0 : Int
 x1 : Int
 x2 : ByteArray
 deriving Inhabited
def S.zlhf_R (a0_0 a0_1 : Int) (a0_2 : ByteArray) : DT S.zlhf_T :=
(.leaf ⟨a0_0, a0_1, a0_2⟩)
def S.zlhf (a0_0 a0_1 : Int) (a0_2 : ByteArray) : Option S.zlhf_T := (S.zlhf_R a0_0 a0_1 a0_2).run
def S.zlhf_is (a0_0 a0_1 : Int) (a0_2 : ByteArray) : Bool := (S.zlhf a0_0 a0_1 a0_2).isSome
def S.zlhf_o (a0_0 a0_1 : Int) (a0_2 : ByteArray) : S.zlhf_T := (S.zlhf a0_0 a0_1 a0_2).getD default
def ret_zlhf (b : Bool) (r : S.zlhf_T) : Ret := ⟨b, none, [(true, [(cI r.x0), (cI r.x1), C.d (.sc (.str r.x2))])]⟩
def g_zlhf : Con
 | [(true, [.sc (.int .i64 a0_0), .sc (.int .i64 a0_1), .sc (.str a0_2)])] => some (ret_zlhf (S.zlhf_is a0_0 a0_1 a0_2) (S.zlhf_o a0_0 a0_1 a0_2))
 | _ => none
theorem raw_zlhf (a0_0 a0_1 : Int) (a0_2 : ByteArray) : evR2 cx_zlhf (hdI cx_zlhf (find []) [] none 0) none Tryz.f122 122 none [(true, [dI a0_0, dI a0_1, .sc (.str a0_2)])] some = (S.zlhf_R a0_0 a0_1 a0_2).go (ret_zlhf true) := by kernel_rfl
theorem bs_zlhf : loopsIn Tryz.f122 [] = [] := by kernel_rfl
theorem zlhf_ok : Stands Tryz.prog tyTab 122 g_zlhf := by
 refine stands3 (L := find []) (n := 0) (hints := []) (cx_ok rfl) rdy_zlhf ⟨by kernel_rfl, by kernel_rfl, by kernel_rfl⟩ bs_zlhf nilB (fun das r hG hr => ?_)
 unfold g_zlhf at hG
 split at hG
 ·rename_i a0_0 a0_1 a0_2
  injection hG with hG; subst hG
  exact ⟨none, true, win default ((raw_zlhf a0_0 a0_1 a0_2).trans (DT.go_run _ _)) hr⟩
 ·cases hG
abbrev cx_zo5k : Cx := mkCx2 tyTab [] [] [] []
theorem rdy_zo5k : Ready Tryz.prog tyTab [] [] [] := ⟨noneG2, noneI2, noneF2⟩
structure S.zo5k_T where
 x0 : Int
 x1 : Int
 x2 : ByteArray
 deriving Inhabited
def S.zo5k_R (a0 : Bool) : DT S.zo5k_T :=
(.br (a0)
(.leaf ⟨1, 1, ByteArray.empty⟩)
(.leaf ⟨1, 0, ByteArray.empty⟩))
def S.zo5k (a0 : Bool) : Option S.zo5k_T := (S.zo5k_R a0).run
def S.zo5k_is (a0 : Bool) : Bool := (S.zo5k a0).isSome
def S.zo5k_o (a0 : Bool) : S.zo5k_T := (S.zo5k a0).getD default
def ret_zo5k (b : Bool) (r : S.zo5k_T) : Ret := ⟨b, none, [(true, [(cI r.x0), (cI r.x1), C.d (.sc (.str r.x2))])]⟩
def g_zo5k : Con
 | [(false, [.sc (.bool a0)])] => some (ret_zo5k (S.zo5k_is a0) (S.zo5k_o a0))
 | _ => none
theorem raw_zo5k (a0 : Bool) : evR2 cx_zo5k (hdI cx_zo5k (find []) [] none 0) none Tryz.f81 81 none [(false, [.sc (.bool a0)])] some = (S.zo5k_R a0).go (ret_zo5k true) := by kernel_rfl
theorem bs_zo5k : loopsIn Tryz.f81 [] = [] := by kernel_rfl
theorem zo5k_ok : Stands Tryz.prog tyTab 81 g_zo5k := by
 refine stands3 (L := find []) (n := 0) (hints := []) (cx_ok rfl) rdy_zo5k ⟨by kernel_rfl, by kernel_rfl, by kernel_rfl⟩ bs_zo5k nilB (fun das r hG hr => ?_)
 unfold g_zo5k at hG
 split at hG
 ·rename_i a0
  injection hG with hG; subst hG
  exact ⟨none, true, win default ((raw_zo5k a0).trans (DT.go_run _ _)) hr⟩
 ·cases hG
abbrev cx_zk4o : Cx := mkCx2 tyTab [(86, g_z3yc)] [] [] []
theorem rdy_zk4o : Ready Tryz.prog tyTab [(86, g_z3yc)] [] [] := ⟨consG2 z3yc_ok (noneG2), noneI2, noneF2⟩
structure S.zk4o_T where
 x0 : Bool
 deriving Inhabited
def S.zk4o_R (a0_0 a0_1 a0_2 a0_3 : Int) (a0_4 : ByteArray) : DT S.zk4o_T :=
let y0 : Bool := xeqI a0_0 0
let y1 : Bool := xdec (a0_0 < 0)
let y2 : Bool := xdec (a0_0 ≥ 10)
let y3 : Bool := xdec (a0_1 < 0)
let y4 : Bool := xdec (a0_1 ≥ 6)
let y5 := S.z3yc_is a0_2 a0_3 a0_4
let y6 : Bool := xnot (S.z3yc_o a0_2 a0_3 a0_4).x0
let y7 : Bool := xnot (xeqI a0_2 0 && (xeqI a0_3 0 && xdec (a0_4 = ByteArray.empty)))
let y8 : Bool := xnot (xeqI a0_1 0)
(.br (xeqI a0_0 1)
(.br (y0)
(.br (y1)
(.leaf ⟨true⟩)
(.br (y2)
(.leaf ⟨true⟩)
(.br (y3)
(.leaf ⟨true⟩)
(.br (y4)
(.leaf ⟨true⟩)
(.br (y5)
(.leaf ⟨y6⟩)
.fail)))))
(.br (y1)
(.leaf ⟨true⟩)
(.br (y2)
(.leaf ⟨true⟩)
(.br (y3)
(.leaf ⟨true⟩)
(.br (y4)
(.leaf ⟨true⟩)
(.br (y7)
(.leaf ⟨true⟩)
(.br (y5)
(.leaf ⟨y6⟩)
.fail)))))))
(.br (y0)
(.br (y1)
(.leaf ⟨true⟩)
(.br (y2)
(.leaf ⟨true⟩)
(.br (y3)
(.leaf ⟨true⟩)
(.br (y4)
(.leaf ⟨true⟩)
(.br (y8)
(.leaf ⟨true⟩)
(.br (y5)
(.leaf ⟨y6⟩)
.fail))))))
(.br (y1)
(.leaf ⟨true⟩)
(.br (y2)
(.leaf ⟨true⟩)
(.br (y3)
(.leaf ⟨true⟩)
(.br (y4)
(.leaf ⟨true⟩)
(.br (y8)
(.leaf ⟨true⟩)
(.br (y7)
(.leaf ⟨true⟩)
(.br (y5)
(.leaf ⟨y6⟩)
.fail)))))))))
def S.zk4o (a0_0 a0_1 a0_2 a0_3 : Int) (a0_4 : ByteArray) : Option S.zk4o_T := (S.zk4o_R a0_0 a0_1 a0_2 a0_3 a0_4).run
def S.zk4o_is (a0_0 a0_1 a0_2 a0_3 : Int) (a0_4 : ByteArray) : Bool := (S.zk4o a0_0 a0_1 a0_2 a0_3 a0_4).isSome
def S.zk4o_o (a0_0 a0_1 a0_2 a0_3 : Int) (a0_4 : ByteArray) : S.zk4o_T := (S.zk4o a0_0 a0_1 a0_2 a0_3 a0_4).getD default
def ret_zk4o (b : Bool) (r : S.zk4o_T) : Ret := ⟨b, none, [(false, [cB r.x0])]⟩
def g_zk4o : Con
 | [(true, [.sc (.int .i64 a0_0), .sc (.int .i64 a0_1), .sc (.int .i64 a0_2), .sc (.int .i64 a0_3), .sc (.str a0_4)])] => some (ret_zk4o (S.zk4o_is a0_0 a0_1 a0_2 a0_3 a0_4) (S.zk4o_o a0_0 a0_1 a0_2 a0_3 a0_4))
 | _ => none
theorem raw_zk4o (a0_0 a0_1 a0_2 a0_3 : Int) (a0_4 : ByteArray) : evR2 cx_zk4o (hdI cx_zk4o (find []) [] none 0) none Tryz.f85 85 none [(true, [dI a0_0, dI a0_1, dI a0_2, dI a0_3, .sc (.str a0_4)])] some = (S.zk4o_R a0_0 a0_1 a0_2 a0_3 a0_4).go (ret_zk4o true) := by kernel_rfl
theorem bs_zk4o : loopsIn Tryz.f85 [] = [] := by kernel_rfl
theorem zk4o_ok : Stands Tryz.prog tyTab 85 g_zk4o := by
 refine stands3 (L := find []) (n := 0) (hints := []) (cx_ok rfl) rdy_zk4o ⟨by kernel_rfl, by kernel_rfl, by kernel_rfl⟩ bs_zk4o nilB (fun das r hG hr => ?_)
 unfold g_zk4o at hG
 split at hG
 ·rename_i a0_0 a0_1 a0_2 a0_3 a0_4
  injection hG with hG; subst hG
  exact ⟨none, true, win default ((raw_zk4o a0_0 a0_1 a0_2 a0_3 a0_4).trans (DT.go_run _ _)) hr⟩
 ·cases hG
abbrev cx_z6r7 : Cx := mkCx2 tyTab [(85, g_zk4o)] [] [(93, 2, { keep := [0, 1, 7, 8], acc := [] })] []
theorem rdy_z6r7 : Ready Tryz.prog tyTab [(85, g_zk4o)] [] [] := ⟨consG2 zk4o_ok (noneG2), noneI2, noneF2⟩
structure S.z6r7_2_V where
 t8_ : Int
def S.z6r7_2_R (qA : Lo) (qB : Int) (v : S.z6r7_2_V) : DT (Option Nat × S.z6r7_2_V) :=
let y0 : Ty .op := qA.getD v.t8_.toNat (dflt .op)
let y1 := y0.code
let y2 := y0.arg
let y3 := y0.v
let y4 := y3.kind
let y5 := y3.n
let y6 := y3.s
(.br (xdec (v.t8_ < qB))
(.br (xdec (0 ≤ v.t8_) && xdec (v.t8_ < (↑qA.length : Int)))
(.br (S.zk4o_is y1 y2 y4 y5 y6)
(.br ((S.zk4o_o y1 y2 y4 y5 y6).x0)
(.leaf (some 0, v))
(.leaf (none, ⟨xwrap .i64 (v.t8_ + 1)⟩)))
.fail)
.fail)
(.leaf (some 1, v)))
def S.z6r7_2_r (qA : Lo) (qB : Int) (v : S.z6r7_2_V) : Option (Option Nat × S.z6r7_2_V) := (S.z6r7_2_R qA qB v).run
def S.z6r7_2_j (qA : Lo) (qB : Int) (v : S.z6r7_2_V) (j : Nat) : Bool := Lp_j (S.z6r7_2_r qA qB) v j
def S.z6r7_2_v (qA : Lo) (qB : Int) (v : S.z6r7_2_V) : S.z6r7_2_V := Lp_v (S.z6r7_2_r qA qB) v
def mk_z6r7_2 (qC : OBz) (qD : Bool) (qA : Lo) (qB : Int) (v : S.z6r7_2_V) : St := ⟨(V.v false [C.d (.sl qC qD .op qA)] :: (V.v false [C.d (D.fn 85 [] [])] :: (vs 5 ((cV qB) :: ((cV v.t8_) :: (vs 10 [])))))), (ns 4 []), 0⟩
def ex_z6r7_2 (qC : OBz) (qD : Bool) (qA : Lo) (qB : Int) (j : Nat) (v : S.z6r7_2_V) : Ex × St := match j with
 | 0 => (Ex.ret, ⟨(vs 4 ((cV v.t8_) :: (vs 14 []))), (ns 15 []), 0⟩)
 | 1 => (Ex.exit 0, ⟨(vs 19 []), (ns 5 []), 0⟩)
 | _ => (.ret, ⟨[], [], 0⟩)
def T1_z6r7_2 : V → V → V → V → Tree
 | V.v false [C.d (.sl qC qD .op qA)], V.v false [C.d (D.fn 85 [] [])], V.v false [C.d (.sc (.int .i64 qB))], V.v false [C.d (.sc (.int .i64 t8_))] => exT (fun j => ex_z6r7_2 qC qD qA qB j (S.z6r7_2_v qA qB ⟨t8_⟩)) (S.z6r7_2_j qA qB ⟨t8_⟩) [0, 1]
 | _, _, _, _ => .bad
def T_z6r7_2 (st : St) : Tree := bif okSt 19 4 0 [] st then T1_z6r7_2 (st.env.getD 0 .any) (st.env.getD 1 .any) (st.env.getD 7 .any) (st.env.getD 8 .any) else .bad
def b_z6r7_2 : Code := loopBy Tryz.f93 2
theorem rnd_z6r7_2 (qC : OBz) (qD : Bool) (qA : Lo) (qB : Int) (v : S.z6r7_2_V) : round2 cx_z6r7 (hdI cx_z6r7 (find []) [] none 0) 93 b_z6r7_2 [] 4 [4] (mk_z6r7_2 qC qD qA qB v) = (S.z6r7_2_R qA qB v).go (roundOut (mk_z6r7_2 qC qD qA qB) (ex_z6r7_2 qC qD qA qB)) := by kernel_rfl
theorem bs_z6r7_2 : loopsOf b_z6r7_2 ++ loopsInl [] = [] := by kernel_rfl
theorem ci_z6r7_2 (qC : OBz) (qD : Bool) (qA : Lo) (qB : Int) : ∀ v j v2, Lp (S.z6r7_2_r qA qB) v = some (j, v2) → Circles Tryz.prog cx_z6r7 b_z6r7_2 (mk_z6r7_2 qC qD qA qB v) (ex_z6r7_2 qC qD qA qB j v2).1 (ex_z6r7_2 qC qD qA qB j v2).2 :=
 loop_ok2 (L := find []) (n := 0) (hints := [(93, 2, { keep := [0, 1, 7, 8], acc := [] })]) (cx_ok rfl) rdy_z6r7 bs_z6r7_2 nilB (fun v => (rnd_z6r7_2 qC qD qA qB v).trans (DT.go_run _ _)) (by intro j v; unfold ex_z6r7_2; split <;> rfl)
theorem mke_z6r7_2 (qC : OBz) (qD : Bool) (qA : Lo) (qB : Int) (v : S.z6r7_2_V) : mk_z6r7_2 qC qD qA qB v = ⟨envOf 19 [(0, V.v false [C.d (.sl qC qD .op qA)]), (1, V.v false [C.d (D.fn 85 [] [])]), (7, (cV qB)), (8, (cV v.t8_))], heapOf 4 [], 0⟩ := by kernel_rfl
theorem lo1_z6r7_2 (e0 e1 e7 e8 : V)  e st2 (h : (T1_z6r7_2 e0 e1 e7 e8).eval = some (e, st2)) : Circles Tryz.prog cx_z6r7 b_z6r7_2 ⟨envOf 19 [(0, e0), (1, e1), (7, e7), (8, e8)], heapOf 4 [], 0⟩ e st2 := by
 unfold T1_z6r7_2 at h
 split at h
 ·have := loop_tree (mk := mk_z6r7_2 _ _ _ _) (ci_z6r7_2 _ _ _ _) _ _ e st2 h
  rw [mke_z6r7_2] at this
  exact this
 ·cases h
theorem lok_z6r7_2 : LoopOk Tryz.prog cx_z6r7 b_z6r7_2 T_z6r7_2 := by
 intro st e st2 h
 unfold T_z6r7_2 at h
 cases hk : okSt 19 4 0 [] st with
 | false => rw [hk] at h; cases h
 | true =>
  rw [hk] at h
  exact circles_keep (ks := [0, 1, 7, 8]) hk (lo1_z6r7_2 _ _ _ _ e st2 h)
structure S.z6r7_T where
 x0 : Int
 deriving Inhabited
def S.z6r7_R (a0 : Lo) : DT S.z6r7_T :=
let y0 : Int := (↑a0.length : Int)
let y1 : S.z6r7_2_V := { t8_ := 0 : S.z6r7_2_V }
(.br (S.z6r7_2_j a0 y0 y1 0)
(.leaf ⟨(S.z6r7_2_v a0 y0 y1).t8_⟩)
(.br (S.z6r7_2_j a0 y0 y1 1)
(.leaf ⟨-1⟩)
.fail))
def S.z6r7 (a0 : Lo) : Option S.z6r7_T := (S.z6r7_R a0).run
def S.z6r7_is (a0 : Lo) : Bool := (S.z6r7 a0).isSome
def S.z6r7_o (a0 : Lo) : S.z6r7_T := (S.z6r7 a0).getD default
def ret_z6r7 (b : Bool) (r : S.z6r7_T) : Ret := ⟨b, none, [(false, [(cI r.x0)])]⟩
def g_z6r7 : Con
 | [(false, [.sl a0n a0f .op a0]), (false, [.fn 85 [] []])] => some (ret_z6r7 (S.z6r7_is a0) (S.z6r7_o a0))
 | _ => none
theorem raw_z6r7 (a0n : OBz) (a0f : Bool) (a0 : Lo) : evR2 cx_z6r7 (hdI cx_z6r7 (find [(2, T_z6r7_2)]) [] none 0) none Tryz.f93 93 none [(false, [.sl a0n a0f .op a0]), (false, [.fn 85 [] []])] some = (S.z6r7_R a0).go (ret_z6r7 true) := by kernel_rfl
theorem bs_z6r7 : loopsIn Tryz.f93 [] = [b_z6r7_2] := by kernel_rfl
theorem z6r7_ok : Stands Tryz.prog tyTab 93 g_z6r7 := by
 refine stands3 (L := find [(2, T_z6r7_2)]) (n := 0) (hints := [(93, 2, { keep := [0, 1, 7, 8], acc := [] })]) (cx_ok rfl) rdy_z6r7 ⟨by kernel_rfl, by kernel_rfl, by kernel_rfl⟩ bs_z6r7 (consB (fun T h => by have e : T_z6r7_2 = T := Option.some.inj (show some T_z6r7_2 = some T from h); exact e ▸ lok_z6r7_2) nilB) (fun das r hG hr => ?_)
 unfold g_z6r7 at hG
 split at hG
 ·rename_i a0n a0f a0
  injection hG with hG; subst hG
  exact ⟨none, true, win default ((raw_z6r7 a0n a0f a0).trans (DT.go_run _ _)) hr⟩
 ·cases hG
abbrev cx_zfbb : Cx := mkCx2 tyTab [(93, g_z6r7)] [] [] []
theorem rdy_zfbb : Ready Tryz.prog tyTab [(93, g_z6r7)] [] [] := ⟨consG2 z6r7_ok (noneG2), noneI2, noneF2⟩
structure S.zfbb_T where
 x0 : Bool
 deriving Inhabited
def S.zfbb_R (a0 : Lo) : DT S.zfbb_T :=
(.br (S.z6r7_is a0)
(.leaf ⟨xdec ((S.z6r7_o a0).x0 ≥ 0)⟩)
.fail)
def S.zfbb (a0 : Lo) : Option S.zfbb_T := (S.zfbb_R a0).run
def S.zfbb_is (a0 : Lo) : Bool := (S.zfbb a0).isSome
def S.zfbb_o (a0 : Lo) : S.zfbb_T := (S.zfbb a0).getD default
def ret_zfbb (b : Bool) (r : S.zfbb_T) : Ret := ⟨b, none, [(false, [cB r.x0])]⟩
def g_zfbb : Con
 | [(false, [.sl a0n a0f .op a0]), (false, [.fn 85 [] []])] => some (ret_zfbb (S.zfbb_is a0) (S.zfbb_o a0))
 | _ => none
theorem raw_zfbb (a0n : OBz) (a0f : Bool) (a0 : Lo) : evR2 cx_zfbb (hdI cx_zfbb (find []) [] none 0) none Tryz.f87 87 none [(false, [.sl a0n a0f .op a0]), (false, [.fn 85 [] []])] some = (S.zfbb_R a0).go (ret_zfbb true) := by kernel_rfl
theorem bs_zfbb : loopsIn Tryz.f87 [] = [] := by kernel_rfl
theorem zfbb_ok : Stands Tryz.prog tyTab 87 g_zfbb := by
 refine stands3 (L := find []) (n := 0) (hints := []) (cx_ok rfl) rdy_zfbb ⟨by kernel_rfl, by kernel_rfl, by kernel_rfl⟩ bs_zfbb nilB (fun das r hG hr => ?_)
 unfold g_zfbb at hG
 split at hG
 ·rename_i a0n a0f a0
  injection hG with hG; subst hG
  exact ⟨none, true, win default ((raw_zfbb a0n a0f a0).trans (DT.go_run _ _)) hr⟩
 ·cases hG
abbrev cx_zk66 : Cx := mkCx2 tyTab [(85, g_zk4o), (87, g_zfbb)] [] [] []
theorem rdy_zk66 : Ready Tryz.prog tyTab [(85, g_zk4o), (87, g_zfbb)] [] [] := ⟨consG2 zk4o_ok (consG2 zfbb_ok (noneG2)), noneI2, noneF2⟩
structure S.zk66_T where
 x0 : Bool
 deriving Inhabited
def S.zk66_R (a0 : Lo) : DT S.zk66_T :=
(.br (xdec ((↑a0.length : Int) ≤ 12))
(.br (S.zfbb_is a0)
(.leaf ⟨xnot (S.zfbb_o a0).x0⟩)
.fail)
(.leaf ⟨false⟩))
def S.zk66 (a0 : Lo) : Option S.zk66_T := (S.zk66_R a0).run
def S.zk66_is (a0 : Lo) : Bool := (S.zk66 a0).isSome
def S.zk66_o (a0 : Lo) : S.zk66_T := (S.zk66 a0).getD default
def ret_zk66 (b : Bool) (r : S.zk66_T) : Ret := ⟨b, none, [(false, [cB r.x0])]⟩
def g_zk66 : Con
 | [(false, [.sl a0n a0f .op a0])] => some (ret_zk66 (S.zk66_is a0) (S.zk66_o a0))
 | _ => none
theorem raw_zk66 (a0n : OBz) (a0f : Bool) (a0 : Lo) : evR2 cx_zk66 (hdI cx_zk66 (find []) [] none 0) none Tryz.f82 82 none [(false, [.sl a0n a0f .op a0])] some = (S.zk66_R a0).go (ret_zk66 true) := by kernel_rfl
theorem bs_zk66 : loopsIn Tryz.f82 [] = [] := by kernel_rfl
theorem zk66_ok : Stands Tryz.prog tyTab 82 g_zk66 := by
 refine stands3 (L := find []) (n := 0) (hints := []) (cx_ok rfl) rdy_zk66 ⟨by kernel_rfl, by kernel_rfl, by kernel_rfl⟩ bs_zk66 nilB (fun das r hG hr => ?_)
 unfold g_zk66 at hG
 split at hG
 ·rename_i a0n a0f a0
  injection hG with hG; subst hG
  exact ⟨none, true, win default ((raw_zk66 a0n a0f a0).trans (DT.go_run _ _)) hr⟩
 ·cases hG
abbrev cx_zsxf : Cx := mkCx2 tyTab [] [] [(79, 4, { keep := [0, 1, 12, 13], acc := [] })] []
theorem rdy_zsxf : Ready Tryz.prog tyTab [] [] [] := ⟨noneG2, noneI2, noneF2⟩
structure S.zsxf_4_V where
 t13_ : Int
def S.zsxf_4_R (qA qI : Lo) (qJ : Int) (v : S.zsxf_4_V) : DT (Option Nat × S.zsxf_4_V) :=
let y0 : Bool := xdec (0 ≤ v.t13_)
let y1 : Ty .op := qA.getD v.t13_.toNat (dflt .op)
let y2 : Ty .op := qI.getD v.t13_.toNat (dflt .op)
let y3 := y1.v
let y4 := y2.v
(.br (xdec (v.t13_ < qJ))
(.br (y0 && xdec (v.t13_ < (↑qA.length : Int)))
(.br (y0 && xdec (v.t13_ < (↑qI.length : Int)))
(.br (bif xeqI y1.code y2.code && (xeqI y1.arg y2.arg && (xeqI y3.kind y4.kind && (xeqI y3.n y4.n && xdec (y3.s = y4.s)))) then false else true)
(.leaf (some 0, v))
(.leaf (none, ⟨xwrap .i64 (v.t13_ + 1)⟩)))
.fail)
.fail)
(.leaf (some 1, v)))
def S.zsxf_4_r (qA qI : Lo) (qJ : Int) (v : S.zsxf_4_V) : Option (Option Nat × S.zsxf_4_V) := (S.zsxf_4_R qA qI qJ v).run
def S.zsxf_4_j (qA qI : Lo) (qJ : Int) (v : S.zsxf_4_V) (j : Nat) : Bool := Lp_j (S.zsxf_4_r qA qI qJ) v j
def S.zsxf_4_v (qA qI : Lo) (qJ : Int) (v : S.zsxf_4_V) : S.zsxf_4_V := Lp_v (S.zsxf_4_r qA qI qJ) v
def mk_zsxf_4 (qC : OBz) (qD : Bool) (qA : Lo) (qK : OBz) (qL : Bool) (qI : Lo) (qJ : Int) (v : S.zsxf_4_V) : St := ⟨(V.v false [C.d (.sl qC qD .op qA)] :: (V.v false [C.d (.sl qK qL .op qI)] :: (vs 10 ((cV qJ) :: ((cV v.t13_) :: (vs 12 [])))))), (ns 9 []), 0⟩
def ex_zsxf_4 (qC : OBz) (qD : Bool) (qA : Lo) (qK : OBz) (qL : Bool) (qI : Lo) (qJ : Int) (j : Nat) (v : S.zsxf_4_V) : Ex × St := match j with
 | 0 => (Ex.ret, ⟨(vs 4 (V.v false [cB false] :: (vs 21 []))), (ns 22 []), 0⟩)
 | 1 => (Ex.exit 0, ⟨(vs 26 []), (ns 10 []), 0⟩)
 | _ => (.ret, ⟨[], [], 0⟩)
def T1_zsxf_4 : V → V → V → V → Tree
 | V.v false [C.d (.sl qC qD .op qA)], V.v false [C.d (.sl qK qL .op qI)], V.v false [C.d (.sc (.int .i64 qJ))], V.v false [C.d (.sc (.int .i64 t13_))] => exT (fun j => ex_zsxf_4 qC qD qA qK qL qI qJ j (S.zsxf_4_v qA qI qJ ⟨t13_⟩)) (S.zsxf_4_j qA qI qJ ⟨t13_⟩) [0, 1]
 | _, _, _, _ => .bad
def T_zsxf_4 (st : St) : Tree := bif okSt 26 9 0 [] st then T1_zsxf_4 (st.env.getD 0 .any) (st.env.getD 1 .any) (st.env.getD 12 .any) (st.env.getD 13 .any) else .bad
def b_zsxf_4 : Code := loopBy Tryz.f79 4
theorem rnd_zsxf_4 (qC : OBz) (qD : Bool) (qA : Lo) (qK : OBz) (qL : Bool) (qI : Lo) (qJ : Int) (v : S.zsxf_4_V) : round2 cx_zsxf (hdI cx_zsxf (find []) [] none 0) 79 b_zsxf_4 [] 9 [4] (mk_zsxf_4 qC qD qA qK qL qI qJ v) = (S.zsxf_4_R qA qI qJ v).go (roundOut (mk_zsxf_4 qC qD qA qK qL qI qJ) (ex_zsxf_4 qC qD qA qK qL qI qJ)) := by kernel_rfl
theorem bs_zsxf_4 : loopsOf b_zsxf_4 ++ loopsInl [] = [] := by kernel_rfl
theorem ci_zsxf_4 (qC : OBz) (qD : Bool) (qA : Lo) (qK : OBz) (qL : Bool) (qI : Lo) (qJ : Int) : ∀ v j v2, Lp (S.zsxf_4_r qA qI qJ) v = some (j, v2) → Circles Tryz.prog cx_zsxf b_zsxf_4 (mk_zsxf_4 qC qD qA qK qL qI qJ v) (ex_zsxf_4 qC qD qA qK qL qI qJ j v2).1 (ex_zsxf_4 qC qD qA qK qL qI qJ j v2).2 :=
 loop_ok2 (L := find []) (n := 0) (hints := [(79, 4, { keep := [0, 1, 12, 13], acc := [] })]) (cx_ok rfl) rdy_zsxf bs_zsxf_4 nilB (fun v => (rnd_zsxf_4 qC qD qA qK qL qI qJ v).trans (DT.go_run _ _)) (by intro j v; unfold ex_zsxf_4; split <;> rfl)
theorem mke_zsxf_4 (qC : OBz) (qD : Bool) (qA : Lo) (qK : OBz) (qL : Bool) (qI : Lo) (qJ : Int) (v : S.zsxf_4_V) : mk_zsxf_4 qC qD qA qK qL qI qJ v = ⟨envOf 26 [(0, V.v false [C.d (.sl qC qD .op qA)]), (1, V.v false [C.d (.sl qK qL .op qI)]), (12, (cV qJ)), (13, (cV v.t13_))], heapOf 9 [], 0⟩ := by kernel_rfl
theorem lo1_zsxf_4 (e0 e1 e12 e13 : V)  e st2 (h : (T1_zsxf_4 e0 e1 e12 e13).eval = some (e, st2)) : Circles Tryz.prog cx_zsxf b_zsxf_4 ⟨envOf 26 [(0, e0), (1, e1), (12, e12), (13, e13)], heapOf 9 [], 0⟩ e st2 := by
 unfold T1_zsxf_4 at h
 split at h
 ·have := loop_tree (mk := mk_zsxf_4 _ _ _ _ _ _ _) (ci_zsxf_4 _ _ _ _ _ _ _) _ _ e st2 h
  rw [mke_zsxf_4] at this
  exact this
 ·cases h
theorem lok_zsxf_4 : LoopOk Tryz.prog cx_zsxf b_zsxf_4 T_zsxf_4 := by
 intro st e st2 h
 unfold T_zsxf_4 at h
 cases hk : okSt 26 9 0 [] st with
 | false => rw [hk] at h; cases h
 | true =>
  rw [hk] at h
  exact circles_keep (ks := [0, 1, 12, 13]) hk (lo1_zsxf_4 _ _ _ _ e st2 h)
structure S.zsxf_T where
 x0 : Bool
 deriving Inhabited
def S.zsxf_R (a0 a1 : Lo) : DT S.zsxf_T :=
let y0 : Int := (↑a0.length : Int)
let y1 : S.zsxf_4_V := { t13_ := 0 : S.zsxf_4_V }
(.br (xneI y0 (↑a1.length : Int))
(.leaf ⟨false⟩)
(.br (S.zsxf_4_j a0 a1 y0 y1 0)
(.leaf ⟨false⟩)
(.br (S.zsxf_4_j a0 a1 y0 y1 1)
(.leaf ⟨true⟩)
.fail)))
def S.zsxf (a0 a1 : Lo) : Option S.zsxf_T := (S.zsxf_R a0 a1).run
def S.zsxf_is (a0 a1 : Lo) : Bool := (S.zsxf a0 a1).isSome
def S.zsxf_o (a0 a1 : Lo) : S.zsxf_T := (S.zsxf a0 a1).getD default
def ret_zsxf (b : Bool) (r : S.zsxf_T) : Ret := ⟨b, none, [(false, [cB r.x0])]⟩
def g_zsxf : Con
 | [(false, [.sl a0n a0f .op a0]), (false, [.sl a1n a1f .op a1])] => some (ret_zsxf (S.zsxf_is a0 a1) (S.zsxf_o a0 a1))
 | _ => none
theorem raw_zsxf (a0n : OBz) (a0f : Bool) (a0 : Lo) (a1n : OBz) (a1f : Bool) (a1 : Lo) : evR2 cx_zsxf (hdI cx_zsxf (find [(4, T_zsxf_4)]) [] none 0) none Tryz.f79 79 none [(false, [.sl a0n a0f .op a0]), (false, [.sl a1n a1f .op a1])] some = (S.zsxf_R a0 a1).go (ret_zsxf true) := by kernel_rfl
theorem bs_zsxf : loopsIn Tryz.f79 [] = [b_zsxf_4] := by kernel_rfl
theorem zsxf_ok : Stands Tryz.prog tyTab 79 g_zsxf := by
 refine stands3 (L := find [(4, T_zsxf_4)]) (n := 0) (hints := [(79, 4, { keep := [0, 1, 12, 13], acc := [] })]) (cx_ok rfl) rdy_zsxf ⟨by kernel_rfl, by kernel_rfl, by kernel_rfl⟩ bs_zsxf (consB (fun T h => by have e : T_zsxf_4 = T := Option.some.inj (show some T_zsxf_4 = some T from h); exact e ▸ lok_zsxf_4) nilB) (fun das r hG hr => ?_)
 unfold g_zsxf at hG
 split at hG
 ·rename_i a0n a0f a0 a1n a1f a1
  injection hG with hG; subst hG
  exact ⟨none, true, win default ((raw_zsxf a0n a0f a0 a1n a1f a1).trans (DT.go_run _ _)) hr⟩
 ·cases hG
abbrev cx_zbrd : Cx := mkCx2 tyTab [(79, g_zsxf)] [] [] []
theorem rdy_zbrd : Ready Tryz.prog tyTab [(79, g_zsxf)] [] [] := ⟨consG2 zsxf_ok (noneG2), noneI2, noneF2⟩
structure S.zbrd_T where
 x0 : Bool
 deriving Inhabited
def S.zbrd_R (a0 a1 : Lo) : DT S.zbrd_T :=
(.br (S.zsxf_is a0 a1)
(.leaf ⟨(S.zsxf_o a0 a1).x0⟩)
.fail)
def S.zbrd (a0 a1 : Lo) : Option S.zbrd_T := (S.zbrd_R a0 a1).run
def S.zbrd_is (a0 a1 : Lo) : Bool := (S.zbrd a0 a1).isSome
def S.zbrd_o (a0 a1 : Lo) : S.zbrd_T := (S.zbrd a0 a1).getD default
def ret_zbrd (b : Bool) (r : S.zbrd_T) : Ret := ⟨b, none, [(false, [cB r.x0])]⟩
def g_zbrd : Con
 | [(false, [.sl a0n a0f .op a0]), (false, [.sl a1n a1f .op a1])] => some (ret_zbrd (S.zbrd_is a0 a1) (S.zbrd_o a0 a1))
 | _ => none
theorem raw_zbrd (a0n : OBz) (a0f : Bool) (a0 : Lo) (a1n : OBz) (a1f : Bool) (a1 : Lo) : evR2 cx_zbrd (hdI cx_zbrd (find []) [] none 0) none Tryz.f73 73 none [(false, [.sl a0n a0f .op a0]), (false, [.sl a1n a1f .op a1])] some = (S.zbrd_R a0 a1).go (ret_zbrd true) := by kernel_rfl
theorem bs_zbrd : loopsIn Tryz.f73 [] = [] := by kernel_rfl
theorem zbrd_ok : Stands Tryz.prog tyTab 73 g_zbrd := by
 refine stands3 (L := find []) (n := 0) (hints := []) (cx_ok rfl) rdy_zbrd ⟨by kernel_rfl, by kernel_rfl, by kernel_rfl⟩ bs_zbrd nilB (fun das r hG hr => ?_)
 unfold g_zbrd at hG
 split at hG
 ·rename_i a0n a0f a0 a1n a1f a1
  injection hG with hG; subst hG
  exact ⟨none, true, win default ((raw_zbrd a0n a0f a0 a1n a1f a1).trans (DT.go_run _ _)) hr⟩
 ·cases hG
end
end Go.Eng
