/- Contracts, laid by program. -/
import Derived.Test.YtoohnjneocohnaaGreatZG2
import Derived.Test.YtoohnjneocohnaaGreatZN2
set_option linter.unusedVariables false
namespace Go.Eng
noncomputable section
open Go Go.Eng Go.Proofs Go.Eng.Tab
abbrev cx_zwl5 : Cx := mkCx2 tyTab [(88, g_zajt), (89, g_zhh3), (90, g_z2hn)] [] [] []
theorem rdy_zwl5 : Ready Tryz.prog tyTab [(88, g_zajt), (89, g_zhh3), (90, g_z2hn)] [] [] := ⟨consG2 zajt_ok (consG2 zhh3_ok (consG2 z2hn_ok (noneG2))), noneI2, noneF2⟩
structure S.zwl5_T where
 x0 : Bool
 deriving Inhabited
def S.zwl5_R (a0_0 : ByteArray) (a0_1 : Int) (a0_2 : Lv) : DT S.zwl5_T :=
(.br (S.nmOk a0_0)
(.br (xdec (a0_1 ≥ 0))
(.br (xdec (a0_1 ≤ 1125899906842624))
(.br (xdec ((↑a0_2.length : Int) ≤ 6))
(.br (S.z2hn_is a0_2)
(.leaf ⟨xnot (S.z2hn_o a0_2).x0⟩)
.fail)
(.leaf ⟨false⟩))
(.leaf ⟨false⟩))
(.leaf ⟨false⟩))
(.leaf ⟨false⟩))
def S.zwl5 (a0_0 : ByteArray) (a0_1 : Int) (a0_2 : Lv) : Option S.zwl5_T := (S.zwl5_R a0_0 a0_1 a0_2).run
def S.zwl5_is (a0_0 : ByteArray) (a0_1 : Int) (a0_2 : Lv) : Bool := (S.zwl5 a0_0 a0_1 a0_2).isSome
def S.zwl5_o (a0_0 : ByteArray) (a0_1 : Int) (a0_2 : Lv) : S.zwl5_T := (S.zwl5 a0_0 a0_1 a0_2).getD default
def ret_zwl5 (b : Bool) (r : S.zwl5_T) : Ret := ⟨b, none, [(false, [cB r.x0])]⟩
def g_zwl5 : Con
 | [(true, [.sc (.str a0_0), .sc (.int .i64 a0_1), .sl a0_2n a0_2f .val a0_2])] => some (ret_zwl5 (S.zwl5_is a0_0 a0_1 a0_2) (S.zwl5_o a0_0 a0_1 a0_2))
 | _ => none
theorem raw_zwl5 (a0_0 : ByteArray) (a0_1 : Int) (a0_2n : OBz) (a0_2f : Bool) (a0_2 : Lv) : evR2 cx_zwl5 (hdI cx_zwl5 (find []) [] none 0) none Tryz.f83 83 none [(true, [.sc (.str a0_0), dI a0_1, .sl a0_2n a0_2f .val a0_2])] some = (S.zwl5_R a0_0 a0_1 a0_2).go (ret_zwl5 true) := by kernel_rfl
theorem bs_zwl5 : loopsIn Tryz.f83 [] = [] := by kernel_rfl
theorem zwl5_ok : Stands Tryz.prog tyTab 83 g_zwl5 := by
 refine stands3 (L := find []) (n := 0) (hints := []) (cx_ok rfl) rdy_zwl5 ⟨by kernel_rfl, by kernel_rfl, by kernel_rfl⟩ bs_zwl5 nilB (fun das r hG hr => ?_)
 unfold g_zwl5 at hG
 split at hG
 ·rename_i a0_0 a0_1 a0_2n a0_2f a0_2
  injection hG with hG; subst hG
  exact ⟨none, true, win default ((raw_zwl5 a0_0 a0_1 a0_2n a0_2f a0_2).trans (DT.go_run _ _)) hr⟩
 ·cases hG
abbrev cx_zoxb : Cx := mkCx2 tyTab [(101, g_zzxm), (102, g_zost)] [("towncrier/expr.value", g_zp57)] [] []
theorem rdy_zoxb : Ready Tryz.prog tyTab [(101, g_zzxm), (102, g_zost)] [("towncrier/expr.value", g_zp57)] [] := ⟨consG2 zzxm_ok (consG2 zost_ok (noneG2)), consI2 zp57_ok (noneI2), noneF2⟩
structure S.zoxb_T where
 x0 : Thing
 x1 : Int
 deriving Inhabited
def S.zoxb_R (a0 : Int) (a1 : Thing) (a2 : Thing) : DT S.zoxb_T :=
let y0 : Bool := Thing.isB 142 a1
let y1 : Bool := xeqI a0 7
let y2 : Bool := xnot y0
let y3 : Bool := Thing.isB 142 a2
let y4 : Bool := Thing.asB 142 a1
let y5 : Bool := Thing.asB 142 a2
let y6 : Thing := Thing.one 142 (Sc.bool true)
let y7 : Bool := xeqI a0 8
let y8 : Thing := Thing.one 142 (Sc.bool y5)
let y9 : Thing := Thing.one 142 (Sc.bool false)
let y10 : Bool := xnot (Thing.isI 165 IntKind.i64 a1)
let y11 : Bool := Thing.isI 165 IntKind.i64 a2
let y12 : Int := Thing.asI 165 IntKind.i64 a1
let y13 : Int := Thing.asI 165 IntKind.i64 a2
let y14 := S.zost_is a0 y12 y13
let y15 := S.zost_o a0 y12 y13
let y16 : Bool := xnot y15.x1
let y17 : Thing := Thing.one 165 (Sc.int IntKind.i64 y15.x0)
(.br (S.thingIs a1)
(.br (S.thingIs a2)
(.br (xneI (S.thingV a1).kind (S.thingV a2).kind)
(.leaf ⟨Thing.nil, 5⟩)
(.br (xeqI a0 6)
(.leaf ⟨Thing.one 142 (Sc.bool (xeqI (S.thingV a1).kind (S.thingV a2).kind && (xeqI (S.thingV a1).n (S.thingV a2).n && xdec ((S.thingV a1).s = (S.thingV a2).s)))), 0⟩)
(.br (xeqI a0 5)
(.br (S.zzxm_is (S.thingV a1).kind (S.thingV a1).n (S.thingV a1).s (S.thingV a2).kind (S.thingV a2).n (S.thingV a2).s)
(.br (y0)
(.leaf ⟨Thing.nil, 5⟩)
(.leaf ⟨Thing.one 142 (Sc.bool (S.zzxm_o (S.thingV a1).kind (S.thingV a1).n (S.thingV a1).s (S.thingV a2).kind (S.thingV a2).n (S.thingV a2).s).x0), 0⟩))
.fail)
(.br (y1)
(.br (y1)
(.br (y2)
(.leaf ⟨Thing.nil, 5⟩)
(.br (y0)
(.br (y3)
(.br (y4)
(.br (y5)
(.leaf ⟨y6, 0⟩)
(.br (y7)
(.br (y4)
(.leaf ⟨y6, 0⟩)
(.leaf ⟨y8, 0⟩))
(.leaf ⟨y9, 0⟩)))
(.br (y7)
(.br (y4)
(.leaf ⟨y6, 0⟩)
(.leaf ⟨y8, 0⟩))
(.leaf ⟨y9, 0⟩)))
.fail)
.fail))
(.br (y10)
(.leaf ⟨Thing.nil, 5⟩)
(.br (y11)
(.br (y14)
(.br (y16)
(.leaf ⟨Thing.nil, 6⟩)
(.leaf ⟨y17, 0⟩))
.fail)
.fail)))
(.br (y7)
(.br (y2)
(.leaf ⟨Thing.nil, 5⟩)
(.br (y0)
(.br (y3)
(.br (y4)
(.br (y5)
(.leaf ⟨y6, 0⟩)
(.br (y7)
(.br (y4)
(.leaf ⟨y6, 0⟩)
(.leaf ⟨y8, 0⟩))
(.leaf ⟨y9, 0⟩)))
(.br (y7)
(.br (y4)
(.leaf ⟨y6, 0⟩)
(.leaf ⟨y8, 0⟩))
(.leaf ⟨y9, 0⟩)))
.fail)
.fail))
(.br (y10)
(.leaf ⟨Thing.nil, 5⟩)
(.br (y11)
(.br (y14)
(.br (y16)
(.leaf ⟨Thing.nil, 6⟩)
(.leaf ⟨y17, 0⟩))
.fail)
.fail)))))))
.fail)
.fail)
def S.zoxb (a0 : Int) (a1 : Thing) (a2 : Thing) : Option S.zoxb_T := (S.zoxb_R a0 a1 a2).run
def S.zoxb_is (a0 : Int) (a1 : Thing) (a2 : Thing) : Bool := (S.zoxb a0 a1 a2).isSome
def S.zoxb_o (a0 : Int) (a1 : Thing) (a2 : Thing) : S.zoxb_T := (S.zoxb a0 a1 a2).getD default
def ret_zoxb (b : Bool) (r : S.zoxb_T) : Ret := ⟨b, none, [(false, [C.d (D.th r.x0)]), (false, [(cI r.x1)])]⟩
def g_zoxb : Con
 | [(false, [.sc (.int .i64 a0)]), (false, [.th a1]), (false, [.th a2])] => some (ret_zoxb (S.zoxb_is a0 a1 a2) (S.zoxb_o a0 a1 a2))
 | _ => none
theorem raw_zoxb (a0 : Int) (a1 : Thing) (a2 : Thing) : evR2 cx_zoxb (hdI cx_zoxb (find []) [] none 0) none Tryz.f99 99 none [(false, [dI a0]), (false, [.th a1]), (false, [.th a2])] some = (S.zoxb_R a0 a1 a2).go (ret_zoxb true) := by kernel_rfl
theorem bs_zoxb : loopsIn Tryz.f99 [] = [] := by kernel_rfl
theorem zoxb_ok : Stands Tryz.prog tyTab 99 g_zoxb := by
 refine stands3 (L := find []) (n := 0) (hints := []) (cx_ok rfl) rdy_zoxb ⟨by kernel_rfl, by kernel_rfl, by kernel_rfl⟩ bs_zoxb nilB (fun das r hG hr => ?_)
 unfold g_zoxb at hG
 split at hG
 ·rename_i a0 a1 a2
  injection hG with hG; subst hG
  exact ⟨none, true, win default ((raw_zoxb a0 a1 a2).trans (DT.go_run _ _)) hr⟩
 ·cases hG
abbrev cx_zndv : Cx := mkCx2 tyTab [] [] [] []
theorem rdy_zndv : Ready Tryz.prog tyTab [] [] [] := ⟨noneG2, noneI2, noneF2⟩
structure S.zndv_T where
 x0 : Lt
 x1 : Nat
 deriving Inhabited
def S.zndv_R  : DT S.zndv_T :=
(.leaf ⟨[], 0⟩)
def S.zndv  : Option S.zndv_T := (S.zndv_R ).run
def S.zndv_is  : Bool := (S.zndv ).isSome
def S.zndv_o  : S.zndv_T := (S.zndv ).getD default
def ret_zndv (b : Bool) (r : S.zndv_T) : Ret := ⟨b, some (154, (⟨.thing, r.x0⟩ : (t : ET) × List (Ty t))), [(false, [C.own 4 .thing false 0 r.x1])]⟩
def g_zndv : Con
 | [(false, [.sl (some true) true .thing []])] => some (ret_zndv (S.zndv_is ) (S.zndv_o ))
 | _ => none
theorem raw_zndv  : evR2 cx_zndv (hdI cx_zndv (find []) [] none 0) none Tryz.f100 100 (some 154) [(false, [.sl (some true) true .thing []])] some = (S.zndv_R ).go (ret_zndv true) := by kernel_rfl
theorem bs_zndv : loopsIn Tryz.f100 [] = [] := by kernel_rfl
theorem zndv_ok : Stands Tryz.prog tyTab 100 g_zndv := by
 refine stands3 (L := find []) (n := 0) (hints := []) (cx_ok rfl) rdy_zndv ⟨by kernel_rfl, by kernel_rfl, by kernel_rfl⟩ bs_zndv nilB (fun das r hG hr => ?_)
 unfold g_zndv at hG
 split at hG
 ·injection hG with hG; subst hG
  exact ⟨(some 154), true, win default ((raw_zndv ).trans (DT.go_run _ _)) hr⟩
 ·cases hG
abbrev cx_zfst : Cx := mkCx2 tyTab [] [] [] []
theorem rdy_zfst : Ready Tryz.prog tyTab [] [] [] := ⟨noneG2, noneI2, noneF2⟩
structure S.zfst_T where
 x0 : Lt
 x1 : Nat
 deriving Inhabited
def S.zfst_R (a0 : Lt) : DT S.zfst_T :=
let y0 : Nat := 0 + a0.length
(.br (xdec (0 ≤ (List.replicate 0 (dflt .thing)).length) && xdec (y0 ≤ 1048576))
(.leaf ⟨List.take 0 [] ++ a0, y0⟩)
.fail)
def S.zfst (a0 : Lt) : Option S.zfst_T := (S.zfst_R a0).run
def S.zfst_is (a0 : Lt) : Bool := (S.zfst a0).isSome
def S.zfst_o (a0 : Lt) : S.zfst_T := (S.zfst a0).getD default
def ret_zfst (b : Bool) (r : S.zfst_T) : Ret := ⟨b, some (154, (⟨.thing, r.x0⟩ : (t : ET) × List (Ty t))), [(false, [C.own 5 .thing false 0 r.x1])]⟩
def g_zfst : Con
 | [(false, [.sl (some false) false .thing a0])] => some (ret_zfst (S.zfst_is a0) (S.zfst_o a0))
 | _ => none
theorem raw_zfst (a0 : Lt) : evR2 cx_zfst (hdI cx_zfst (find []) [] none 0) none Tryz.f100 100 (some 154) [(false, [.sl (some false) false .thing a0])] some = (S.zfst_R a0).go (ret_zfst true) := by kernel_rfl
theorem bs_zfst : loopsIn Tryz.f100 [] = [] := by kernel_rfl
theorem zfst_ok : Stands Tryz.prog tyTab 100 g_zfst := by
 refine stands3 (L := find []) (n := 0) (hints := []) (cx_ok rfl) rdy_zfst ⟨by kernel_rfl, by kernel_rfl, by kernel_rfl⟩ bs_zfst nilB (fun das r hG hr => ?_)
 unfold g_zfst at hG
 split at hG
 ·rename_i a0
  injection hG with hG; subst hG
  exact ⟨(some 154), true, win default ((raw_zfst a0).trans (DT.go_run _ _)) hr⟩
 ·cases hG
def g_zn4q : Con := fun das => match das with | [(false, [.sl _ _ t2 l])] => if e : t2 = .thing then some (ret_zfst (S.zfst_is (e ▸ l : List (Ty .thing))) (S.zfst_o (e ▸ l : List (Ty .thing)))) else none | _ => none
theorem zn4q_ok : Stands Tryz.prog tyTab 100 g_zn4q := nil_split (t := .thing) (r := fun l => ret_zfst (S.zfst_is l) (S.zfst_o l)) zndv_ok zfst_ok (r0 := ret_zndv true (S.zndv_o)) (by kernel_rfl) ⟨by kernel_rfl, by kernel_rfl, fun nm => by kernel_rfl⟩ (fun l => rfl)
abbrev cx_zn3l : Cx := mkCx2 tyTab [(82, g_zk66), (83, g_zwl5), (96, g_zq6h), (99, g_zoxb), (100, g_zn4q)] [("towncrier/expr.value", g_zp57)] [(84, 2, { keep := [0, 4, 9, 10, 11], acc := [(0, some 0, .thing, 154)] })] [(84, Tryz.f84), (91, Tryz.f91), (95, Tryz.f95), (97, Tryz.f97), (98, Tryz.f98)]
theorem rdy_zn3l : Ready Tryz.prog tyTab [(82, g_zk66), (83, g_zwl5), (96, g_zq6h), (99, g_zoxb), (100, g_zn4q)] [("towncrier/expr.value", g_zp57)] [(84, Tryz.f84), (91, Tryz.f91), (95, Tryz.f95), (97, Tryz.f97), (98, Tryz.f98)] := ⟨consG2 zk66_ok (consG2 zwl5_ok (consG2 zq6h_ok (consG2 zoxb_ok (consG2 zn4q_ok (noneG2))))), consI2 zp57_ok (noneI2), consF2 ⟨by kernel_rfl, by kernel_rfl, by kernel_rfl⟩ (consF2 ⟨by kernel_rfl, by kernel_rfl, by kernel_rfl⟩ (consF2 ⟨by kernel_rfl, by kernel_rfl, by kernel_rfl⟩ (consF2 ⟨by kernel_rfl, by kernel_rfl, by kernel_rfl⟩ (consF2 ⟨by kernel_rfl, by kernel_rfl, by kernel_rfl⟩ (noneF2)))))⟩
structure S.zn3l_2_V where
 t11_ : Int
 h14_f : Bool
 h14_l : Nat
 h_28 : Lt
def S.zn3l_2_R (qA : Lo) (qB : Int) (qC : Lv) (qD : Bool) (v : S.zn3l_2_V) : DT (Option Nat × S.zn3l_2_V) :=
let y0 : Ty .op := qA.getD v.t11_.toNat (dflt .op)
let y1 := y0.code
let y2 := y0.v
let y3 := y2.kind
let y4 := y2.n
let y5 := y2.s
let y6 : Nat := 0 + 1
let y7 : Lt := List.replicate 1 (dflt .thing)
let y8 : Thing := (S.zq6h_o y3 y4 y5).x0
let y9 : Nat := v.h_28.length
let y10 : Bool := xdec (v.h14_l ≤ y9)
let y11 : Nat := v.h14_l + 1
let y12 : Int := xwrap .i64 (v.t11_ + 1)
let y13 : Lt := List.take v.h14_l v.h_28
let y14 := y0.arg
let y15 : Int := (↑qC.length : Int)
let y16 : Ty .val := qC.getD y14.toNat (dflt .val)
let y17 := y16.kind
let y18 := y16.n
let y19 := y16.s
let y20 : Thing := (S.zq6h_o y17 y18 y19).x0
let y21 : Int := (↑v.h14_l : Int)
let y22 : Int := xwrap .i64 (y21 - 1)
let y23 : Bool := xdec (0 ≤ y22)
let y24 := y22.toNat
let y25 : Nat := 0 + y24
let y26 : Nat := y25 + (v.h14_l - y24)
let y27 : Lt := sub v.h_28 y25 y26
let y28 : Bool := xdec (0 ≤ 0)
let y29 := S.zfst_o y27
let y30 : Nat := 0 + Int.toNat 0
let y31 := y29.x0
let y32 : Ty .thing := y31.getD y30 (dflt .thing)
let y33 : Thing := Thing.one 142 (Sc.bool (xnot (Thing.asB 142 y32)))
let y34 : Nat := y24 + 1
let y35 : Int := xwrap .i64 (y21 - 2)
let y36 : Bool := xdec (0 ≤ y35)
let y37 := y35.toNat
let y38 : Nat := 0 + y37
let y39 : Nat := y38 + (v.h14_l - y37)
let y40 : Lt := sub v.h_28 y38 y39
let y41 := S.zfst_o y40
let y42 : Int := (↑y41.x1 : Int)
let y43 := y41.x0
let y44 := y43.length
let y45 : Nat := 0 + Int.toNat 1
let y46 : Ty .thing := y43.getD y30 (dflt .thing)
let y47 : Ty .thing := y43.getD y45 (dflt .thing)
let y48 := S.zoxb_o y1 y46 y47
let y49 := y48.x1
let y50 : Thing := Thing.one 165 (Sc.int IntKind.i64 0)
let y51 : Bool := xdec (y37 ≤ y9)
let y52 : Nat := y37 + 1
let y53 : Lt := List.take y37 v.h_28
let y54 : Bool := xeqI y49 0
let y55 := y48.x0
let y56 : Bool := xdec (y6 ≤ (y7.set 0 y55).length) && y51 && xdec (y52 ≤ 1048576)
let y57 : Bool := xneI y49 0
let y58 : Lt := y53 ++ [y55]
let y59 : Bool := v.h14_f && xdec (y35 = y21)
(.br (xdec (v.t11_ < qB))
(.br (xdec (0 ≤ v.t11_) && xdec (v.t11_ < (↑qA.length : Int)))
(.br (xeqI y1 0)
(.br (S.zq6h_is y3 y4 y5)
(.br (xdec (y6 ≤ (y7.set 0 y8).length) && y10 && xdec (y11 ≤ 1048576))
(.leaf (none, ⟨y12, false, y11, y13 ++ [y8]⟩))
.fail)
.fail)
(.br (xeqI y1 1)
(.br (xdec (y14 ≥ y15))
(.leaf (some 0, v))
(.br (xdec (0 ≤ y14) && xdec (y14 < y15))
(.br (S.zq6h_is y17 y18 y19)
(.br (xdec (y6 ≤ (y7.set 0 y20).length) && y10 && xdec (y11 ≤ 1048576))
(.leaf (none, ⟨y12, false, y11, y13 ++ [y20]⟩))
.fail)
.fail)
.fail))
(.br (xeqI y1 9)
(.br (xdec (y22 < 0))
(.leaf (some 1, v))
(.br (y23 && xdec (y22 ≤ Int.ofNat v.h14_l) && true && true)
(.br (xdec (y26 ≤ y9) && true && true && S.zfst_is y27)
(.br (y23 && xdec (y22 ≤ Int.ofNat v.h14_l) && true)
(.br (y28 && xdec (0 < (↑y29.x1 : Int)))
(.br (xdec (y30 < y31.length))
(.br (xnot (Thing.isB 142 y32))
(.leaf (some 2, v))
(.br (xdec (y6 ≤ (y7.set 0 y33).length) && xdec (y24 ≤ y9) && xdec (y34 ≤ 1048576))
(.leaf (none, ⟨y12, false, y34, List.take y24 v.h_28 ++ [y33]⟩))
.fail))
.fail)
.fail)
.fail)
.fail)
.fail))
(.br (xdec (y35 < 0))
(.leaf (some 3, v))
(.br (y36 && xdec (y35 ≤ Int.ofNat v.h14_l) && true && true)
(.br (xdec (y39 ≤ y9) && true && true && S.zfst_is y40)
(.br (y36 && xdec (y35 ≤ Int.ofNat v.h14_l) && true)
(.br (y28 && xdec (0 < y42))
(.br (xdec (y30 < y44))
(.br (xdec (0 ≤ 1) && xdec (1 < y42))
(.br (xdec (y45 < y44))
(.br (S.zoxb_is y1 y46 y47)
(.br (qD)
(.br (xeqI y49 6)
(.br (xdec (y6 ≤ (y7.set 0 y50).length) && y51 && xdec (y52 ≤ 1048576))
(.leaf (none, ⟨y12, false, y52, y53 ++ [y50]⟩))
.fail)
(.br (y54)
(.br (y56)
(.br (y57)
(.leaf (some 4, v))
(.leaf (none, ⟨y12, false, y52, y58⟩)))
.fail)
(.br (y57)
(.leaf (some 5, v))
(.leaf (none, ⟨y12, y59, y37, v.h_28⟩)))))
(.br (y54)
(.br (y56)
(.br (y57)
(.leaf (some 4, v))
(.leaf (none, ⟨y12, false, y52, y58⟩)))
.fail)
(.br (y57)
(.leaf (some 5, v))
(.leaf (none, ⟨y12, y59, y37, v.h_28⟩)))))
.fail)
.fail)
.fail)
.fail)
.fail)
.fail)
.fail)
.fail)))))
.fail)
(.leaf (some 6, v)))
def S.zn3l_2_r (qA : Lo) (qB : Int) (qC : Lv) (qD : Bool) (v : S.zn3l_2_V) : Option (Option Nat × S.zn3l_2_V) := (S.zn3l_2_R qA qB qC qD v).run
def S.zn3l_2_j (qA : Lo) (qB : Int) (qC : Lv) (qD : Bool) (v : S.zn3l_2_V) (j : Nat) : Bool := Lp_j (S.zn3l_2_r qA qB qC qD) v j
def S.zn3l_2_v (qA : Lo) (qB : Int) (qC : Lv) (qD : Bool) (v : S.zn3l_2_V) : S.zn3l_2_V := Lp_v (S.zn3l_2_r qA qB qC qD) v
def mk_zn3l_2 (qE : OBz) (qF : Bool) (qA : Lo) (qB : Int) (qG : ByteArray) (qH : Int) (qI : OBz) (qJ : Bool) (qK : Lv) (qL qM : Int) (qN : ByteArray) (qO : OBz) (qP : Bool) (qC : Lv) (qD : Bool) (qQ qR : Int) (qS : ByteArray) (v : S.zn3l_2_V) : St := ⟨(V.v false [C.ptr 14 0] :: (vs 3 (V.v false [C.ptr 23 0] :: (vs 4 (V.v false [C.d (.sl qE qF .op qA)] :: ((cV qB) :: ((cV v.t11_) :: (vs 25 [])))))))), (some (Blk.box 43 [C.d (.sc (.str qG)), (cI qH), C.d (.sl qI qJ .val qK)]) :: (some (Blk.box 93 [(cI qL), (cI qM), C.d (.sc (.str qN))]) :: (ns 12 (some (Blk.box 147 [C.own 28 .thing v.h14_f 0 v.h14_l, C.d (.sl qO qP .val qC), cB qD]) :: (ns 8 (some (Blk.box 93 [(cI qQ), (cI qR), C.d (.sc (.str qS))]) :: (ns 4 (some (Blk.arr 154 .thing v.h_28) :: [])))))))), 23⟩
def ex_zn3l_2 (qE : OBz) (qF : Bool) (qA : Lo) (qB : Int) (qG : ByteArray) (qH : Int) (qI : OBz) (qJ : Bool) (qK : Lv) (qL qM : Int) (qN : ByteArray) (qO : OBz) (qP : Bool) (qC : Lv) (qD : Bool) (qQ qR : Int) (qS : ByteArray) (j : Nat) (v : S.zn3l_2_V) : Ex × St := match j with
 | 0 => (Ex.ret, ⟨(V.v false [C.ptr 14 0] :: (vs 3 (V.v false [C.ptr 23 0] :: ((cV 3) :: (vs 31 []))))), (some (Blk.box 43 [C.d (.sc (.str qG)), (cI qH), C.d (.sl qI qJ .val qK)]) :: (some (Blk.box 93 [(cI qL), (cI qM), C.d (.sc (.str qN))]) :: (ns 12 (some (Blk.box 147 [C.own 28 .thing v.h14_f 0 v.h14_l, C.d (.sl qO qP .val qC), cB qD]) :: (ns 8 (some (Blk.box 93 [(cI 0), (cI 0), C.d (.sc (.str ByteArray.empty))]) :: (ns 4 (some (Blk.arr 154 .thing v.h_28) :: (ns 3 (some
  (Blk.box 95
   [(cI (qA.getD v.t11_.toNat (dflt .op)).code), (cI (qA.getD v.t11_.toNat (dflt .op)).arg),
    (cI (qA.getD v.t11_.toNat (dflt .op)).v.kind), (cI (qA.getD v.t11_.toNat (dflt .op)).v.n),
    C.d (.sc (.str (qA.getD v.t11_.toNat (dflt .op)).v.s))]) :: (ns 5 (some
  (Blk.box 95
   [(cI (qA.getD v.t11_.toNat (dflt .op)).code), (cI (qA.getD v.t11_.toNat (dflt .op)).arg),
    (cI (qA.getD v.t11_.toNat (dflt .op)).v.kind), (cI (qA.getD v.t11_.toNat (dflt .op)).v.n),
    C.d (.sc (.str (qA.getD v.t11_.toNat (dflt .op)).v.s))]) :: (ns 22 []))))))))))))), 23⟩)
 | 1 => (Ex.ret, ⟨(V.v false [C.ptr 14 0] :: (vs 3 (V.v false [C.ptr 23 0] :: ((cV 2) :: (vs 31 []))))), (some (Blk.box 43 [C.d (.sc (.str qG)), (cI qH), C.d (.sl qI qJ .val qK)]) :: (some (Blk.box 93 [(cI qL), (cI qM), C.d (.sc (.str qN))]) :: (ns 12 (some (Blk.box 147 [C.own 28 .thing v.h14_f 0 v.h14_l, C.d (.sl qO qP .val qC), cB qD]) :: (ns 8 (some (Blk.box 93 [(cI 0), (cI 0), C.d (.sc (.str ByteArray.empty))]) :: (ns 4 (some (Blk.arr 154 .thing v.h_28) :: (ns 3 (some
  (Blk.box 95
   [(cI (qA.getD v.t11_.toNat (dflt .op)).code), (cI (qA.getD v.t11_.toNat (dflt .op)).arg),
    (cI (qA.getD v.t11_.toNat (dflt .op)).v.kind), (cI (qA.getD v.t11_.toNat (dflt .op)).v.n),
    C.d (.sc (.str (qA.getD v.t11_.toNat (dflt .op)).v.s))]) :: (ns 5 (some
  (Blk.box 95
   [(cI (qA.getD v.t11_.toNat (dflt .op)).code), (cI (qA.getD v.t11_.toNat (dflt .op)).arg),
    (cI (qA.getD v.t11_.toNat (dflt .op)).v.kind), (cI (qA.getD v.t11_.toNat (dflt .op)).v.n),
    C.d (.sc (.str (qA.getD v.t11_.toNat (dflt .op)).v.s))]) :: (ns 43 []))))))))))))), 23⟩)
 | 2 => (Ex.ret, ⟨(V.v false [C.ptr 14 0] :: (vs 3 (V.v false [C.ptr 23 0] :: ((cV 5) :: (vs 31 []))))), (some (Blk.box 43 [C.d (.sc (.str qG)), (cI qH), C.d (.sl qI qJ .val qK)]) :: (some (Blk.box 93 [(cI qL), (cI qM), C.d (.sc (.str qN))]) :: (ns 12 (some
  (Blk.box 147
   [C.own 28 .thing (v.h14_f && xdec (xwrap .i64 ((↑v.h14_l : Int) - 1) = (↑v.h14_l : Int))) 0 (xwrap .i64 ((↑v.h14_l : Int) - 1)).toNat,
    C.d (.sl qO qP .val qC), cB qD]) :: (ns 8 (some (Blk.box 93 [(cI 0), (cI 0), C.d (.sc (.str ByteArray.empty))]) :: (ns 4 (some (Blk.arr 154 .thing v.h_28) :: (ns 3 (some
  (Blk.box 95
   [(cI (qA.getD v.t11_.toNat (dflt .op)).code), (cI (qA.getD v.t11_.toNat (dflt .op)).arg),
    (cI (qA.getD v.t11_.toNat (dflt .op)).v.kind), (cI (qA.getD v.t11_.toNat (dflt .op)).v.n),
    C.d (.sc (.str (qA.getD v.t11_.toNat (dflt .op)).v.s))]) :: (ns 5 (some
  (Blk.box 95
   [(cI (qA.getD v.t11_.toNat (dflt .op)).code), (cI (qA.getD v.t11_.toNat (dflt .op)).arg),
    (cI (qA.getD v.t11_.toNat (dflt .op)).v.kind), (cI (qA.getD v.t11_.toNat (dflt .op)).v.n),
    C.d (.sc (.str (qA.getD v.t11_.toNat (dflt .op)).v.s))]) :: (ns 38 (some
  (Blk.arr 154 .thing
   (S.zfst_o
       (sub v.h_28 (0 + (xwrap .i64 ((↑v.h14_l : Int) - 1)).toNat)
        (0 + (xwrap .i64 ((↑v.h14_l : Int) - 1)).toNat + (v.h14_l - (xwrap .i64 ((↑v.h14_l : Int) - 1)).toNat)))).x0) :: (ns 34 []))))))))))))))), 23⟩)
 | 3 => (Ex.ret, ⟨(V.v false [C.ptr 14 0] :: (vs 3 (V.v false [C.ptr 23 0] :: ((cV 2) :: (vs 31 []))))), (some (Blk.box 43 [C.d (.sc (.str qG)), (cI qH), C.d (.sl qI qJ .val qK)]) :: (some (Blk.box 93 [(cI qL), (cI qM), C.d (.sc (.str qN))]) :: (ns 12 (some (Blk.box 147 [C.own 28 .thing v.h14_f 0 v.h14_l, C.d (.sl qO qP .val qC), cB qD]) :: (ns 8 (some (Blk.box 93 [(cI 0), (cI 0), C.d (.sc (.str ByteArray.empty))]) :: (ns 4 (some (Blk.arr 154 .thing v.h_28) :: (ns 3 (some
  (Blk.box 95
   [(cI (qA.getD v.t11_.toNat (dflt .op)).code), (cI (qA.getD v.t11_.toNat (dflt .op)).arg),
    (cI (qA.getD v.t11_.toNat (dflt .op)).v.kind), (cI (qA.getD v.t11_.toNat (dflt .op)).v.n),
    C.d (.sc (.str (qA.getD v.t11_.toNat (dflt .op)).v.s))]) :: (ns 5 (some
  (Blk.box 95
   [(cI (qA.getD v.t11_.toNat (dflt .op)).code), (cI (qA.getD v.t11_.toNat (dflt .op)).arg),
    (cI (qA.getD v.t11_.toNat (dflt .op)).v.kind), (cI (qA.getD v.t11_.toNat (dflt .op)).v.n),
    C.d (.sc (.str (qA.getD v.t11_.toNat (dflt .op)).v.s))]) :: (ns 39 []))))))))))))), 23⟩)
 | 4 => (Ex.ret, ⟨(V.v false [C.ptr 14 0] :: (vs 3 (V.v false [C.ptr 23 0] :: (V.v false
  [C.d
      (D.sc
       (Sc.int IntKind.i64
        (S.zoxb_o (qA.getD v.t11_.toNat (dflt .op)).code
            ((S.zfst_o
                    (sub v.h_28 (0 + (xwrap .i64 ((↑v.h14_l : Int) - 2)).toNat)
                     (0 + (xwrap .i64 ((↑v.h14_l : Int) - 2)).toNat + (v.h14_l - (xwrap .i64 ((↑v.h14_l : Int) - 2)).toNat)))).x0.getD
             (0 + Int.toNat 0) (dflt .thing))
            ((S.zfst_o
                    (sub v.h_28 (0 + (xwrap .i64 ((↑v.h14_l : Int) - 2)).toNat)
                     (0 + (xwrap .i64 ((↑v.h14_l : Int) - 2)).toNat + (v.h14_l - (xwrap .i64 ((↑v.h14_l : Int) - 2)).toNat)))).x0.getD
             (0 + Int.toNat 1) (dflt .thing))).x1))] :: (vs 31 []))))), (some (Blk.box 43 [C.d (.sc (.str qG)), (cI qH), C.d (.sl qI qJ .val qK)]) :: (some (Blk.box 93 [(cI qL), (cI qM), C.d (.sc (.str qN))]) :: (ns 12 (some
  (Blk.box 147
   [C.own (117 + 7) .thing false 0 ((xwrap .i64 ((↑v.h14_l : Int) - 2)).toNat + 1), C.d (.sl qO qP .val qC), cB qD]) :: (ns 8 (some (Blk.box 93 [(cI 0), (cI 0), C.d (.sc (.str ByteArray.empty))]) :: (ns 8 (some
  (Blk.box 95
   [(cI (qA.getD v.t11_.toNat (dflt .op)).code), (cI (qA.getD v.t11_.toNat (dflt .op)).arg),
    (cI (qA.getD v.t11_.toNat (dflt .op)).v.kind), (cI (qA.getD v.t11_.toNat (dflt .op)).v.n),
    C.d (.sc (.str (qA.getD v.t11_.toNat (dflt .op)).v.s))]) :: (ns 5 (some
  (Blk.box 95
   [(cI (qA.getD v.t11_.toNat (dflt .op)).code), (cI (qA.getD v.t11_.toNat (dflt .op)).arg),
    (cI (qA.getD v.t11_.toNat (dflt .op)).v.kind), (cI (qA.getD v.t11_.toNat (dflt .op)).v.n),
    C.d (.sc (.str (qA.getD v.t11_.toNat (dflt .op)).v.s))]) :: (ns 34 (some
  (Blk.arr 154 .thing
   (S.zfst_o
       (sub v.h_28 (0 + (xwrap .i64 ((↑v.h14_l : Int) - 2)).toNat)
        (0 + (xwrap .i64 ((↑v.h14_l : Int) - 2)).toNat + (v.h14_l - (xwrap .i64 ((↑v.h14_l : Int) - 2)).toNat)))).x0) :: (ns 49 (some
  (Blk.arr 154 .thing
   ((List.replicate 1 (dflt .thing)).set 0
    (S.zoxb_o (qA.getD v.t11_.toNat (dflt .op)).code
        ((S.zfst_o
                (sub v.h_28 (0 + (xwrap .i64 ((↑v.h14_l : Int) - 2)).toNat)
                 (0 + (xwrap .i64 ((↑v.h14_l : Int) - 2)).toNat + (v.h14_l - (xwrap .i64 ((↑v.h14_l : Int) - 2)).toNat)))).x0.getD
         (0 + Int.toNat 0) (dflt .thing))
        ((S.zfst_o
                (sub v.h_28 (0 + (xwrap .i64 ((↑v.h14_l : Int) - 2)).toNat)
                 (0 + (xwrap .i64 ((↑v.h14_l : Int) - 2)).toNat + (v.h14_l - (xwrap .i64 ((↑v.h14_l : Int) - 2)).toNat)))).x0.getD
         (0 + Int.toNat 1) (dflt .thing))).x0)) :: (some
  (Blk.arr 154 .thing
   (List.take (xwrap .i64 ((↑v.h14_l : Int) - 2)).toNat v.h_28 ++
    [(S.zoxb_o (qA.getD v.t11_.toNat (dflt .op)).code
          ((S.zfst_o
                  (sub v.h_28 (0 + (xwrap .i64 ((↑v.h14_l : Int) - 2)).toNat)
                   (0 + (xwrap .i64 ((↑v.h14_l : Int) - 2)).toNat + (v.h14_l - (xwrap .i64 ((↑v.h14_l : Int) - 2)).toNat)))).x0.getD
           (0 + Int.toNat 0) (dflt .thing))
          ((S.zfst_o
                  (sub v.h_28 (0 + (xwrap .i64 ((↑v.h14_l : Int) - 2)).toNat)
                   (0 + (xwrap .i64 ((↑v.h14_l : Int) - 2)).toNat + (v.h14_l - (xwrap .i64 ((↑v.h14_l : Int) - 2)).toNat)))).x0.getD
           (0 + Int.toNat 1) (dflt .thing))).x0])) :: (ns 11 [])))))))))))))))), 23⟩)
 | 5 => (Ex.ret, ⟨(V.v false [C.ptr 14 0] :: (vs 3 (V.v false [C.ptr 23 0] :: (V.v false
  [C.d
      (D.sc
       (Sc.int IntKind.i64
        (S.zoxb_o (qA.getD v.t11_.toNat (dflt .op)).code
            ((S.zfst_o
                    (sub v.h_28 (0 + (xwrap .i64 ((↑v.h14_l : Int) - 2)).toNat)
                     (0 + (xwrap .i64 ((↑v.h14_l : Int) - 2)).toNat + (v.h14_l - (xwrap .i64 ((↑v.h14_l : Int) - 2)).toNat)))).x0.getD
             (0 + Int.toNat 0) (dflt .thing))
            ((S.zfst_o
                    (sub v.h_28 (0 + (xwrap .i64 ((↑v.h14_l : Int) - 2)).toNat)
                     (0 + (xwrap .i64 ((↑v.h14_l : Int) - 2)).toNat + (v.h14_l - (xwrap .i64 ((↑v.h14_l : Int) - 2)).toNat)))).x0.getD
             (0 + Int.toNat 1) (dflt .thing))).x1))] :: (vs 31 []))))), (some (Blk.box 43 [C.d (.sc (.str qG)), (cI qH), C.d (.sl qI qJ .val qK)]) :: (some (Blk.box 93 [(cI qL), (cI qM), C.d (.sc (.str qN))]) :: (ns 12 (some
  (Blk.box 147
   [C.own 28 .thing (v.h14_f && xdec (xwrap .i64 ((↑v.h14_l : Int) - 2) = (↑v.h14_l : Int))) 0 (xwrap .i64 ((↑v.h14_l : Int) - 2)).toNat,
    C.d (.sl qO qP .val qC), cB qD]) :: (ns 8 (some (Blk.box 93 [(cI 0), (cI 0), C.d (.sc (.str ByteArray.empty))]) :: (ns 4 (some (Blk.arr 154 .thing v.h_28) :: (ns 3 (some
  (Blk.box 95
   [(cI (qA.getD v.t11_.toNat (dflt .op)).code), (cI (qA.getD v.t11_.toNat (dflt .op)).arg),
    (cI (qA.getD v.t11_.toNat (dflt .op)).v.kind), (cI (qA.getD v.t11_.toNat (dflt .op)).v.n),
    C.d (.sc (.str (qA.getD v.t11_.toNat (dflt .op)).v.s))]) :: (ns 5 (some
  (Blk.box 95
   [(cI (qA.getD v.t11_.toNat (dflt .op)).code), (cI (qA.getD v.t11_.toNat (dflt .op)).arg),
    (cI (qA.getD v.t11_.toNat (dflt .op)).v.kind), (cI (qA.getD v.t11_.toNat (dflt .op)).v.n),
    C.d (.sc (.str (qA.getD v.t11_.toNat (dflt .op)).v.s))]) :: (ns 34 (some
  (Blk.arr 154 .thing
   (S.zfst_o
       (sub v.h_28 (0 + (xwrap .i64 ((↑v.h14_l : Int) - 2)).toNat)
        (0 + (xwrap .i64 ((↑v.h14_l : Int) - 2)).toNat + (v.h14_l - (xwrap .i64 ((↑v.h14_l : Int) - 2)).toNat)))).x0) :: (ns 48 []))))))))))))))), 23⟩)
 | 6 => (Ex.exit 0, ⟨(V.v false [C.ptr 14 0] :: (vs 3 (V.v false [C.ptr 23 0] :: (vs 32 [])))), (some (Blk.box 43 [C.d (.sc (.str qG)), (cI qH), C.d (.sl qI qJ .val qK)]) :: (some (Blk.box 93 [(cI qL), (cI qM), C.d (.sc (.str qN))]) :: (ns 12 (some (Blk.box 147 [C.own 28 .thing v.h14_f 0 v.h14_l, C.d (.sl qO qP .val qC), cB qD]) :: (ns 8 (some (Blk.box 93 [(cI qQ), (cI qR), C.d (.sc (.str qS))]) :: (ns 4 (some (Blk.arr 154 .thing v.h_28) :: (none :: []))))))))), 23⟩)
 | _ => (.ret, ⟨[], [], 0⟩)
def T1_zn3l_2 : V → V → V → V → V → Option Blk → Option Blk → Option Blk → Option Blk → Option Blk → Tree
 | V.v false [C.ptr 14 0], V.v false [C.ptr 23 0], V.v false [C.d (.sl qE qF .op qA)], V.v false [C.d (.sc (.int .i64 qB))], V.v false [C.d (.sc (.int .i64 t11_))], some (Blk.box 43 [C.d (.sc (.str qG)), C.d (.sc (.int .i64 qH)), C.d (.sl qI qJ .val qK)]), some (Blk.box 93 [C.d (.sc (.int .i64 qL)), C.d (.sc (.int .i64 qM)), C.d (.sc (.str qN))]), some (Blk.box 147 [C.own 28 .thing h14_f 0 h14_l, C.d (.sl qO qP .val qC), C.d (.sc (.bool qD))]), some (Blk.box 93 [C.d (.sc (.int .i64 qQ)), C.d (.sc (.int .i64 qR)), C.d (.sc (.str qS))]), some (Blk.arr 154 .thing h_28) => exT (fun j => ex_zn3l_2 qE qF qA qB qG qH qI qJ qK qL qM qN qO qP qC qD qQ qR qS j (S.zn3l_2_v qA qB qC qD ⟨t11_, h14_f, h14_l, h_28⟩)) (S.zn3l_2_j qA qB qC qD ⟨t11_, h14_f, h14_l, h_28⟩) [0, 1, 2, 3, 4, 5, 6]
 | _, _, _, _, _, _, _, _, _, _ => .bad
def T_zn3l_2 (st : St) : Tree := bif okSt 37 29 23 [0, 1, 14, 23, 28] st then T1_zn3l_2 (st.env.getD 0 .any) (st.env.getD 4 .any) (st.env.getD 9 .any) (st.env.getD 10 .any) (st.env.getD 11 .any) (lk st.heap 0) (lk st.heap 1) (lk st.heap 14) (lk st.heap 23) (lk st.heap 28) else .bad
def b_zn3l_2 : Code := loopBy Tryz.f84 2
theorem rnd_zn3l_2 (qE : OBz) (qF : Bool) (qA : Lo) (qB : Int) (qG : ByteArray) (qH : Int) (qI : OBz) (qJ : Bool) (qK : Lv) (qL qM : Int) (qN : ByteArray) (qO : OBz) (qP : Bool) (qC : Lv) (qD : Bool) (qQ qR : Int) (qS : ByteArray) (v : S.zn3l_2_V) : round2 cx_zn3l (hdI cx_zn3l (find []) [(84, Tryz.f84), (91, Tryz.f91), (95, Tryz.f95), (97, Tryz.f97), (98, Tryz.f98)] none 6) 84 b_zn3l_2 [28] 29 [0, 4, 5] (mk_zn3l_2 qE qF qA qB qG qH qI qJ qK qL qM qN qO qP qC qD qQ qR qS v) = (S.zn3l_2_R qA qB qC qD v).go (roundOut (mk_zn3l_2 qE qF qA qB qG qH qI qJ qK qL qM qN qO qP qC qD qQ qR qS) (ex_zn3l_2 qE qF qA qB qG qH qI qJ qK qL qM qN qO qP qC qD qQ qR qS)) := by kernel_rfl
theorem bs_zn3l_2 : loopsOf b_zn3l_2 ++ loopsInl [(84, Tryz.f84), (91, Tryz.f91), (95, Tryz.f95), (97, Tryz.f97), (98, Tryz.f98)] = [b_zn3l_2] := by kernel_rfl
theorem ci_zn3l_2 (qE : OBz) (qF : Bool) (qA : Lo) (qB : Int) (qG : ByteArray) (qH : Int) (qI : OBz) (qJ : Bool) (qK : Lv) (qL qM : Int) (qN : ByteArray) (qO : OBz) (qP : Bool) (qC : Lv) (qD : Bool) (qQ qR : Int) (qS : ByteArray) : ∀ v j v2, Lp (S.zn3l_2_r qA qB qC qD) v = some (j, v2) → Circles Tryz.prog cx_zn3l b_zn3l_2 (mk_zn3l_2 qE qF qA qB qG qH qI qJ qK qL qM qN qO qP qC qD qQ qR qS v) (ex_zn3l_2 qE qF qA qB qG qH qI qJ qK qL qM qN qO qP qC qD qQ qR qS j v2).1 (ex_zn3l_2 qE qF qA qB qG qH qI qJ qK qL qM qN qO qP qC qD qQ qR qS j v2).2 :=
 loop_ok2 (L := find []) (n := 6) (hints := [(84, 2, { keep := [0, 4, 9, 10, 11], acc := [(0, some 0, .thing, 154)] })]) (cx_ok rfl) rdy_zn3l bs_zn3l_2 (consB (fun T h => by have e : (none : Option (St → Tree)) = some T := h; cases e) nilB) (fun v => (rnd_zn3l_2 qE qF qA qB qG qH qI qJ qK qL qM qN qO qP qC qD qQ qR qS v).trans (DT.go_run _ _)) (by intro j v; unfold ex_zn3l_2; split <;> rfl)
theorem mke_zn3l_2 (qE : OBz) (qF : Bool) (qA : Lo) (qB : Int) (qG : ByteArray) (qH : Int) (qI : OBz) (qJ : Bool) (qK : Lv) (qL qM : Int) (qN : ByteArray) (qO : OBz) (qP : Bool) (qC : Lv) (qD : Bool) (qQ qR : Int) (qS : ByteArray) (v : S.zn3l_2_V) : mk_zn3l_2 qE qF qA qB qG qH qI qJ qK qL qM qN qO qP qC qD qQ qR qS v = ⟨envOf 37 [(0, V.v false [C.ptr 14 0]), (4, V.v false [C.ptr 23 0]), (9, V.v false [C.d (.sl qE qF .op qA)]), (10, (cV qB)), (11, (cV v.t11_))], heapOf 29 [(0, some (Blk.box 43 [C.d (.sc (.str qG)), (cI qH), C.d (.sl qI qJ .val qK)])), (1, some (Blk.box 93 [(cI qL), (cI qM), C.d (.sc (.str qN))])), (14, some (Blk.box 147 [C.own 28 .thing v.h14_f 0 v.h14_l, C.d (.sl qO qP .val qC), cB qD])), (23, some (Blk.box 93 [(cI qQ), (cI qR), C.d (.sc (.str qS))])), (28, some (Blk.arr 154 .thing v.h_28))], 23⟩ := by kernel_rfl
theorem lo1_zn3l_2 (e0 e4 e9 e10 e11 : V) (h0 h1 h14 h23 h28 : Option Blk) e st2 (h : (T1_zn3l_2 e0 e4 e9 e10 e11 h0 h1 h14 h23 h28).eval = some (e, st2)) : Circles Tryz.prog cx_zn3l b_zn3l_2 ⟨envOf 37 [(0, e0), (4, e4), (9, e9), (10, e10), (11, e11)], heapOf 29 [(0, h0), (1, h1), (14, h14), (23, h23), (28, h28)], 23⟩ e st2 := by
 unfold T1_zn3l_2 at h
 split at h
 ·have := loop_tree (mk := mk_zn3l_2 _ _ _ _ _ _ _ _ _ _ _ _ _ _ _ _ _ _ _) (ci_zn3l_2 _ _ _ _ _ _ _ _ _ _ _ _ _ _ _ _ _ _ _) _ _ e st2 h
  rw [mke_zn3l_2] at this
  exact this
 ·cases h
theorem lok_zn3l_2 : LoopOk Tryz.prog cx_zn3l b_zn3l_2 T_zn3l_2 := by
 intro st e st2 h
 unfold T_zn3l_2 at h
 cases hk : okSt 37 29 23 [0, 1, 14, 23, 28] st with
 | false => rw [hk] at h; cases h
 | true =>
  rw [hk] at h
  exact circles_keep (ks := [0, 4, 9, 10, 11]) hk (lo1_zn3l_2 _ _ _ _ _ _ _ _ _ _ e st2 h)
structure S.zn3l_T where
 x0 : Int
 x1 : Int
 x2 : ByteArray
 x3 : Int
 deriving Inhabited
def S.zn3l_R (a0_0 : ByteArray) (a0_1 : Int) (a0_2 : Lv) (a1 : Lo) : DT S.zn3l_T :=
let y0 : Int := (↑a1.length : Int)
let y1 : S.zn3l_2_V := { t11_ := 0, h14_f := true, h14_l := 0, h_28 := [] : S.zn3l_2_V }
let y2 := S.zn3l_2_v a1 y0 a0_2 false y1
let y3 := y2.h_28
let y4 := y2.h14_l
let y5 : Int := (↑y4 : Int)
let y6 : Nat := (xwrap .i64 (y5 - 2)).toNat
let y7 : Nat := 0 + y6
let y8 : Lt := (S.zfst_o (sub y3 y7 (y7 + (y4 - y6)))).x0
let y9 : Nat := 0 + Int.toNat 0
let y10 : Int := (S.zoxb_o (a1.getD y2.t11_.toNat (dflt .op)).code (y8.getD y9 (dflt .thing)) (y8.getD (0 + Int.toNat 1) (dflt .thing))).x1
let y11 : Ty .thing := y3.getD y9 (dflt .thing)
let y12 := S.thingV y11
(.br (S.zk66_is a1)
(.br (xnot (S.zk66_o a1).x0)
(.leaf ⟨0, 0, ByteArray.empty, 1⟩)
(.br (S.zwl5_is a0_0 a0_1 a0_2)
(.br (xnot (S.zwl5_o a0_0 a0_1 a0_2).x0)
(.leaf ⟨0, 0, ByteArray.empty, 1⟩)
(.br (S.zn3l_2_j a1 y0 a0_2 false y1 0)
(.leaf ⟨0, 0, ByteArray.empty, 3⟩)
(.br (S.zn3l_2_j a1 y0 a0_2 false y1 1)
(.leaf ⟨0, 0, ByteArray.empty, 2⟩)
(.br (S.zn3l_2_j a1 y0 a0_2 false y1 2)
(.leaf ⟨0, 0, ByteArray.empty, 5⟩)
(.br (S.zn3l_2_j a1 y0 a0_2 false y1 3)
(.leaf ⟨0, 0, ByteArray.empty, 2⟩)
(.br (S.zn3l_2_j a1 y0 a0_2 false y1 4)
(.leaf ⟨0, 0, ByteArray.empty, y10⟩)
(.br (S.zn3l_2_j a1 y0 a0_2 false y1 5)
(.leaf ⟨0, 0, ByteArray.empty, y10⟩)
(.br (S.zn3l_2_j a1 y0 a0_2 false y1 6)
(.br (xneI y5 1)
(.leaf ⟨0, 0, ByteArray.empty, 2⟩)
(.br (xdec (0 ≤ 0) && xdec (0 < y5))
(.br (xdec (y9 < y3.length))
(.br (S.thingIs y11)
(.leaf ⟨y12.kind, y12.n, y12.s, 0⟩)
.fail)
.fail)
.fail))
.fail))))))))
.fail))
.fail)
def S.zn3l (a0_0 : ByteArray) (a0_1 : Int) (a0_2 : Lv) (a1 : Lo) : Option S.zn3l_T := (S.zn3l_R a0_0 a0_1 a0_2 a1).run
def S.zn3l_is (a0_0 : ByteArray) (a0_1 : Int) (a0_2 : Lv) (a1 : Lo) : Bool := (S.zn3l a0_0 a0_1 a0_2 a1).isSome
def S.zn3l_o (a0_0 : ByteArray) (a0_1 : Int) (a0_2 : Lv) (a1 : Lo) : S.zn3l_T := (S.zn3l a0_0 a0_1 a0_2 a1).getD default
def ret_zn3l (b : Bool) (r : S.zn3l_T) : Ret := ⟨b, none, [(true, [(cI r.x0), (cI r.x1), C.d (.sc (.str r.x2))]), (false, [(cI r.x3)])]⟩
def g_zn3l : Con
 | [(true, [.sc (.str a0_0), .sc (.int .i64 a0_1), .sl a0_2n a0_2f .val a0_2]), (false, [.sl a1n a1f .op a1])] => some (ret_zn3l (S.zn3l_is a0_0 a0_1 a0_2 a1) (S.zn3l_o a0_0 a0_1 a0_2 a1))
 | _ => none
theorem raw_zn3l (a0_0 : ByteArray) (a0_1 : Int) (a0_2n : OBz) (a0_2f : Bool) (a0_2 : Lv) (a1n : OBz) (a1f : Bool) (a1 : Lo) : evR2 cx_zn3l (hdI cx_zn3l (find [(2, T_zn3l_2)]) [(84, Tryz.f84), (91, Tryz.f91), (95, Tryz.f95), (97, Tryz.f97), (98, Tryz.f98)] none 6) none Tryz.f80 80 none [(true, [.sc (.str a0_0), dI a0_1, .sl a0_2n a0_2f .val a0_2]), (false, [.sl a1n a1f .op a1])] some = (S.zn3l_R a0_0 a0_1 a0_2 a1).go (ret_zn3l true) := by kernel_rfl
theorem bs_zn3l : loopsIn Tryz.f80 [(84, Tryz.f84), (91, Tryz.f91), (95, Tryz.f95), (97, Tryz.f97), (98, Tryz.f98)] = [b_zn3l_2] := by kernel_rfl
theorem zn3l_ok : Stands Tryz.prog tyTab 80 g_zn3l := by
 refine stands3 (L := find [(2, T_zn3l_2)]) (n := 6) (hints := [(84, 2, { keep := [0, 4, 9, 10, 11], acc := [(0, some 0, .thing, 154)] })]) (cx_ok rfl) rdy_zn3l ⟨by kernel_rfl, by kernel_rfl, by kernel_rfl⟩ bs_zn3l (consB (fun T h => by have e : T_zn3l_2 = T := Option.some.inj (show some T_zn3l_2 = some T from h); exact e ▸ lok_zn3l_2) nilB) (fun das r hG hr => ?_)
 unfold g_zn3l at hG
 split at hG
 ·rename_i a0_0 a0_1 a0_2n a0_2f a0_2 a1n a1f a1
  injection hG with hG; subst hG
  exact ⟨none, true, win default ((raw_zn3l a0_0 a0_1 a0_2n a0_2f a0_2 a1n a1f a1).trans (DT.go_run _ _)) hr⟩
 ·cases hG
end
end Go.Eng
