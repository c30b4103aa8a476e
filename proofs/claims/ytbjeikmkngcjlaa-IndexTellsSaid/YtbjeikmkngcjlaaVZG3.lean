/- Contracts, laid by program. -/
import Derived.Test.YtbjeikmkngcjlaaVZG2
import Derived.Test.YtbjeikmkngcjlaaVZN2
set_option linter.unusedVariables false
namespace Go.Eng
noncomputable section
open Go Go.Eng Go.Proofs Go.Eng.Tab
abbrev cx_zwl5 : Cx := mkCx2 tyTab [(149, g_zajt), (150, g_zhh3), (151, g_z2hn)] [] [] []
theorem rdy_zwl5 : Ready Try.prog tyTab [(149, g_zajt), (150, g_zhh3), (151, g_z2hn)] [] [] := ⟨consG2 zajt_ok (consG2 zhh3_ok (consG2 z2hn_ok (noneG2))), noneI2, noneF2⟩
structure S.zwl5_T where
 x0 : Bool
 deriving Inhabited
def S.zwl5_R (a0_0 : ByteArray) (a0_1 : Int) (a0_2 : List (Ty .val)) : DT S.zwl5_T :=
(.br (S.nmOk a0_0)
(.br (xdec (a0_1 ≥ 0))
(.br (xdec (a0_1 ≤ 1125899906842624))
(.br (xdec ((↑a0_2.length : Int) ≤ 6))
(.br (S.z2hn_is a0_2)
(.leaf ⟨xnot (S.z2hn_o a0_2).x0⟩)
.fail)
(.leaf ⟨false⟩))
(.leaf ⟨false⟩))
(.leaf ⟨false⟩))
(.leaf ⟨false⟩))
def S.zwl5 (a0_0 : ByteArray) (a0_1 : Int) (a0_2 : List (Ty .val)) : Option S.zwl5_T := (S.zwl5_R a0_0 a0_1 a0_2).run
def S.zwl5_is (a0_0 : ByteArray) (a0_1 : Int) (a0_2 : List (Ty .val)) : Bool := (S.zwl5 a0_0 a0_1 a0_2).isSome
def S.zwl5_o (a0_0 : ByteArray) (a0_1 : Int) (a0_2 : List (Ty .val)) : S.zwl5_T := (S.zwl5 a0_0 a0_1 a0_2).getD default
def ret_zwl5 (b : Bool) (r : S.zwl5_T) : Ret := ⟨b, none, [(false, [C.d (.sc (.bool r.x0))])]⟩
def g_zwl5 : Con
 | [(true, [.sc (.str a0_0), .sc (.int .i64 a0_1), .sl a0_2n a0_2f .val a0_2])] => some (ret_zwl5 (S.zwl5_is a0_0 a0_1 a0_2) (S.zwl5_o a0_0 a0_1 a0_2))
 | _ => none
theorem raw_zwl5 (a0_0 : ByteArray) (a0_1 : Int) (a0_2n : Option Bool) (a0_2f : Bool) (a0_2 : List (Ty .val)) : evR2 cx_zwl5 (hdI cx_zwl5 (find []) [] none 0) none Try.f126 126 none [(true, [.sc (.str a0_0), .sc (.int .i64 a0_1), .sl a0_2n a0_2f .val a0_2])] some = (S.zwl5_R a0_0 a0_1 a0_2).go (ret_zwl5 true) := by kernel_rfl
theorem bs_zwl5 : loopsIn Try.f126 [] = [] := by kernel_rfl
theorem zwl5_ok : Stands Try.prog tyTab 126 g_zwl5 := by
 refine stands3 (L := find []) (n := 0) (hints := []) (cx_ok rfl) rdy_zwl5 ⟨by kernel_rfl, by kernel_rfl, by kernel_rfl⟩ bs_zwl5 nilB (fun das r hG hr => ?_)
 unfold g_zwl5 at hG
 split at hG
 ·rename_i a0_0 a0_1 a0_2n a0_2f a0_2
  injection hG with hG; subst hG
  exact ⟨none, true, win default ((raw_zwl5 a0_0 a0_1 a0_2n a0_2f a0_2).trans (DT.go_run _ _)) hr⟩
 ·cases hG
abbrev cx_zoxb : Cx := mkCx2 tyTab [(177, g_zzxm), (178, g_zost)] [("towncrier/expr.value", g_zp57)] [] []
theorem rdy_zoxb : Ready Try.prog tyTab [(177, g_zzxm), (178, g_zost)] [("towncrier/expr.value", g_zp57)] [] := ⟨consG2 zzxm_ok (consG2 zost_ok (noneG2)), consI2 zp57_ok (noneI2), noneF2⟩
structure S.zoxb_T where
 x0 : Thing
 x1 : Int
 deriving Inhabited
def S.zoxb_R (a0 : Int) (a1 : Thing) (a2 : Thing) : DT S.zoxb_T :=
let y0 : Bool := Thing.isB 128 a1
let y1 : Bool := xeqI a0 7
let y2 : Bool := xnot y0
let y3 : Bool := Thing.isB 128 a2
let y4 : Bool := Thing.asB 128 a1
let y5 : Bool := Thing.asB 128 a2
let y6 : Thing := Thing.one 128 (Sc.bool true)
let y7 : Bool := xeqI a0 8
let y8 : Thing := Thing.one 128 (Sc.bool y5)
let y9 : Thing := Thing.one 128 (Sc.bool false)
let y10 : Bool := xnot (Thing.isI 207 IntKind.i64 a1)
let y11 : Bool := Thing.isI 207 IntKind.i64 a2
let y12 : Int := Thing.asI 207 IntKind.i64 a1
let y13 : Int := Thing.asI 207 IntKind.i64 a2
let y14 : Bool := S.zost_is a0 y12 y13
let y15 : S.zost_T := S.zost_o a0 y12 y13
let y16 : Bool := xnot y15.x1
let y17 : Thing := Thing.one 207 (Sc.int IntKind.i64 y15.x0)
(.br (S.thingIs a1)
(.br (S.thingIs a2)
(.br (xneI (S.thingV a1).kind (S.thingV a2).kind)
(.leaf ⟨Thing.nil, 5⟩)
(.br (xeqI a0 6)
(.leaf ⟨Thing.one 128 (Sc.bool (xeqI (S.thingV a1).kind (S.thingV a2).kind && (xeqI (S.thingV a1).n (S.thingV a2).n && xdec ((S.thingV a1).s = (S.thingV a2).s)))), 0⟩)
(.br (xeqI a0 5)
(.br (S.zzxm_is (S.thingV a1).kind (S.thingV a1).n (S.thingV a1).s (S.thingV a2).kind (S.thingV a2).n (S.thingV a2).s)
(.br (y0)
(.leaf ⟨Thing.nil, 5⟩)
(.leaf ⟨Thing.one 128 (Sc.bool (S.zzxm_o (S.thingV a1).kind (S.thingV a1).n (S.thingV a1).s (S.thingV a2).kind (S.thingV a2).n (S.thingV a2).s).x0), 0⟩))
.fail)
(.br (y1)
(.br (y1)
(.br (y2)
(.leaf ⟨Thing.nil, 5⟩)
(.br (y0)
(.br (y3)
(.br (y4)
(.br (y5)
(.leaf ⟨y6, 0⟩)
(.br (y7)
(.br (y4)
(.leaf ⟨y6, 0⟩)
(.leaf ⟨y8, 0⟩))
(.leaf ⟨y9, 0⟩)))
(.br (y7)
(.br (y4)
(.leaf ⟨y6, 0⟩)
(.leaf ⟨y8, 0⟩))
(.leaf ⟨y9, 0⟩)))
.fail)
.fail))
(.br (y10)
(.leaf ⟨Thing.nil, 5⟩)
(.br (y11)
(.br (y14)
(.br (y16)
(.leaf ⟨Thing.nil, 6⟩)
(.leaf ⟨y17, 0⟩))
.fail)
.fail)))
(.br (y7)
(.br (y2)
(.leaf ⟨Thing.nil, 5⟩)
(.br (y0)
(.br (y3)
(.br (y4)
(.br (y5)
(.leaf ⟨y6, 0⟩)
(.br (y7)
(.br (y4)
(.leaf ⟨y6, 0⟩)
(.leaf ⟨y8, 0⟩))
(.leaf ⟨y9, 0⟩)))
(.br (y7)
(.br (y4)
(.leaf ⟨y6, 0⟩)
(.leaf ⟨y8, 0⟩))
(.leaf ⟨y9, 0⟩)))
.fail)
.fail))
(.br (y10)
(.leaf ⟨Thing.nil, 5⟩)
(.br (y11)
(.br (y14)
(.br (y16)
(.leaf ⟨Thing.nil, 6⟩)
(.leaf ⟨y17, 0⟩))
.fail)
.fail)))))))
.fail)
.fail)
def S.zoxb (a0 : Int) (a1 : Thing) (a2 : Thing) : Option S.zoxb_T := (S.zoxb_R a0 a1 a2).run
def S.zoxb_is (a0 : Int) (a1 : Thing) (a2 : Thing) : Bool := (S.zoxb a0 a1 a2).isSome
def S.zoxb_o (a0 : Int) (a1 : Thing) (a2 : Thing) : S.zoxb_T := (S.zoxb a0 a1 a2).getD default
def ret_zoxb (b : Bool) (r : S.zoxb_T) : Ret := ⟨b, none, [(false, [C.d (D.th r.x0)]), (false, [C.d (.sc (.int .i64 r.x1))])]⟩
def g_zoxb : Con
 | [(false, [.sc (.int .i64 a0)]), (false, [.th a1]), (false, [.th a2])] => some (ret_zoxb (S.zoxb_is a0 a1 a2) (S.zoxb_o a0 a1 a2))
 | _ => none
theorem raw_zoxb (a0 : Int) (a1 : Thing) (a2 : Thing) : evR2 cx_zoxb (hdI cx_zoxb (find []) [] none 0) none Try.f170 170 none [(false, [.sc (.int .i64 a0)]), (false, [.th a1]), (false, [.th a2])] some = (S.zoxb_R a0 a1 a2).go (ret_zoxb true) := by kernel_rfl
theorem bs_zoxb : loopsIn Try.f170 [] = [] := by kernel_rfl
theorem zoxb_ok : Stands Try.prog tyTab 170 g_zoxb := by
 refine stands3 (L := find []) (n := 0) (hints := []) (cx_ok rfl) rdy_zoxb ⟨by kernel_rfl, by kernel_rfl, by kernel_rfl⟩ bs_zoxb nilB (fun das r hG hr => ?_)
 unfold g_zoxb at hG
 split at hG
 ·rename_i a0 a1 a2
  injection hG with hG; subst hG
  exact ⟨none, true, win default ((raw_zoxb a0 a1 a2).trans (DT.go_run _ _)) hr⟩
 ·cases hG
abbrev cx_zndv : Cx := mkCx2 tyTab [] [] [] []
theorem rdy_zndv : Ready Try.prog tyTab [] [] [] := ⟨noneG2, noneI2, noneF2⟩
structure S.zndv_T where
 x0 : List (Ty .thing)
 x1 : Nat
 deriving Inhabited
def S.zndv_R  : DT S.zndv_T :=
(.leaf ⟨[], 0⟩)
def S.zndv  : Option S.zndv_T := (S.zndv_R ).run
def S.zndv_is  : Bool := (S.zndv ).isSome
def S.zndv_o  : S.zndv_T := (S.zndv ).getD default
def ret_zndv (b : Bool) (r : S.zndv_T) : Ret := ⟨b, some (188, (⟨.thing, r.x0⟩ : (t : ET) × List (Ty t))), [(false, [C.own 4 .thing false 0 r.x1])]⟩
def g_zndv : Con
 | [(false, [.sl (some true) true .thing []])] => some (ret_zndv (S.zndv_is ) (S.zndv_o ))
 | _ => none
theorem raw_zndv  : evR2 cx_zndv (hdI cx_zndv (find []) [] none 0) none Try.f176 176 (some 188) [(false, [.sl (some true) true .thing []])] some = (S.zndv_R ).go (ret_zndv true) := by kernel_rfl
theorem bs_zndv : loopsIn Try.f176 [] = [] := by kernel_rfl
theorem zndv_ok : Stands Try.prog tyTab 176 g_zndv := by
 refine stands3 (L := find []) (n := 0) (hints := []) (cx_ok rfl) rdy_zndv ⟨by kernel_rfl, by kernel_rfl, by kernel_rfl⟩ bs_zndv nilB (fun das r hG hr => ?_)
 unfold g_zndv at hG
 split at hG
 ·injection hG with hG; subst hG
  exact ⟨(some 188), true, win default ((raw_zndv ).trans (DT.go_run _ _)) hr⟩
 ·cases hG
abbrev cx_zfst : Cx := mkCx2 tyTab [] [] [] []
theorem rdy_zfst : Ready Try.prog tyTab [] [] [] := ⟨noneG2, noneI2, noneF2⟩
structure S.zfst_T where
 x0 : List (Ty .thing)
 x1 : Nat
 deriving Inhabited
def S.zfst_R (a0 : List (Ty .thing)) : DT S.zfst_T :=
let y0 : Nat := 0 + a0.length
(.br (xdec (0 ≤ (List.replicate 0 (dflt .thing)).length) && xdec (y0 ≤ 1048576))
(.leaf ⟨List.take 0 [] ++ a0, y0⟩)
.fail)
def S.zfst (a0 : List (Ty .thing)) : Option S.zfst_T := (S.zfst_R a0).run
def S.zfst_is (a0 : List (Ty .thing)) : Bool := (S.zfst a0).isSome
def S.zfst_o (a0 : List (Ty .thing)) : S.zfst_T := (S.zfst a0).getD default
def ret_zfst (b : Bool) (r : S.zfst_T) : Ret := ⟨b, some (188, (⟨.thing, r.x0⟩ : (t : ET) × List (Ty t))), [(false, [C.own 5 .thing false 0 r.x1])]⟩
def g_zfst : Con
 | [(false, [.sl (some false) false .thing a0])] => some (ret_zfst (S.zfst_is a0) (S.zfst_o a0))
 | _ => none
theorem raw_zfst (a0 : List (Ty .thing)) : evR2 cx_zfst (hdI cx_zfst (find []) [] none 0) none Try.f176 176 (some 188) [(false, [.sl (some false) false .thing a0])] some = (S.zfst_R a0).go (ret_zfst true) := by kernel_rfl
theorem bs_zfst : loopsIn Try.f176 [] = [] := by kernel_rfl
theorem zfst_ok : Stands Try.prog tyTab 176 g_zfst := by
 refine stands3 (L := find []) (n := 0) (hints := []) (cx_ok rfl) rdy_zfst ⟨by kernel_rfl, by kernel_rfl, by kernel_rfl⟩ bs_zfst nilB (fun das r hG hr => ?_)
 unfold g_zfst at hG
 split at hG
 ·rename_i a0
  injection hG with hG; subst hG
  exact ⟨(some 188), true, win default ((raw_zfst a0).trans (DT.go_run _ _)) hr⟩
 ·cases hG
def g_zn4q : Con := fun das => match das with | [(false, [.sl _ _ t2 l])] => if e : t2 = .thing then some (ret_zfst (S.zfst_is (e ▸ l)) (S.zfst_o (e ▸ l))) else none | _ => none
theorem zn4q_ok : Stands Try.prog tyTab 176 g_zn4q := nil_split (t := .thing) (r := fun l => ret_zfst (S.zfst_is l) (S.zfst_o l)) zndv_ok zfst_ok (r0 := ret_zndv true (S.zndv_o)) (by kernel_rfl) ⟨by kernel_rfl, by kernel_rfl, fun nm => by kernel_rfl⟩ (fun l => rfl)
abbrev cx_zn3l : Cx := mkCx2 tyTab [(125, g_zk66), (126, g_zwl5), (167, g_expr_of), (170, g_zoxb), (176, g_zn4q)] [("towncrier/expr.value", g_zp57)] [(127, 2, { keep := [0, 4, 9, 10, 11], acc := [(0, some 0, .thing, 188)] })] [(127, Try.f127), (152, Try.f152), (166, Try.f166), (168, Try.f168), (169, Try.f169)]
theorem rdy_zn3l : Ready Try.prog tyTab [(125, g_zk66), (126, g_zwl5), (167, g_expr_of), (170, g_zoxb), (176, g_zn4q)] [("towncrier/expr.value", g_zp57)] [(127, Try.f127), (152, Try.f152), (166, Try.f166), (168, Try.f168), (169, Try.f169)] := ⟨consG2 zk66_ok (consG2 zwl5_ok (consG2 expr_of_ok (consG2 zoxb_ok (consG2 zn4q_ok (noneG2))))), consI2 zp57_ok (noneI2), consF2 ⟨by kernel_rfl, by kernel_rfl, by kernel_rfl⟩ (consF2 ⟨by kernel_rfl, by kernel_rfl, by kernel_rfl⟩ (consF2 ⟨by kernel_rfl, by kernel_rfl, by kernel_rfl⟩ (consF2 ⟨by kernel_rfl, by kernel_rfl, by kernel_rfl⟩ (consF2 ⟨by kernel_rfl, by kernel_rfl, by kernel_rfl⟩ (noneF2)))))⟩
structure S.zn3l_2_V where
 t11_ : Int
 h14_f : Bool
 h14_l : Nat
 h_28 : List (Ty .thing)
def S.zn3l_2_R (qA : List (Ty .op)) (qB : Int) (qC : List (Ty .val)) (qD : Bool) (v : S.zn3l_2_V) : DT (Option Nat × S.zn3l_2_V) :=
let y0 : Ty .op := qA.getD v.t11_.toNat (dflt .op)
let y1 : Int := y0.code
let y2 : Val := y0.v
let y3 : Int := y2.kind
let y4 : Int := y2.n
let y5 : ByteArray := y2.s
let y6 : Nat := 0 + 1
let y7 : List (Ty .thing) := List.replicate 1 (dflt .thing)
let y8 : Thing := (S.expr_of_o y3 y4 y5).x0
let y9 : Nat := v.h_28.length
let y10 : Bool := xdec (v.h14_l ≤ y9)
let y11 : Nat := v.h14_l + 1
let y12 : Bool := xneI 0 0
let y13 : Int := xwrap .i64 (v.t11_ + 1)
let y14 : List (Ty .thing) := List.take v.h14_l v.h_28
let y15 : Int := y0.arg
let y16 : Int := (↑qC.length : Int)
let y17 : Ty .val := qC.getD y15.toNat (dflt .val)
let y18 : Int := y17.kind
let y19 : Int := y17.n
let y20 : ByteArray := y17.s
let y21 : Thing := (S.expr_of_o y18 y19 y20).x0
let y22 : Int := (↑v.h14_l : Int)
let y23 : Int := xwrap .i64 (y22 - 1)
let y24 : Bool := xneI 2 0
let y25 : Bool := xdec (0 ≤ 0)
let y26 : Int := (↑0 : Int)
let y27 : Bool := y25 && xdec (0 < y26)
let y28 : Nat := Int.toNat 0
let y29 : Ty .thing := [].getD y28 (dflt .thing)
let y30 : Bool := xneI 5 0
let y31 : Thing := Thing.one 128 (Sc.bool (xnot (Thing.asB 128 y29)))
let y32 : Bool := xdec (0 ≤ y23)
let y33 : Nat := y23.toNat
let y34 : Nat := 0 + y33
let y35 : Nat := y34 + (v.h14_l - y33)
let y36 : List (Ty .thing) := sub v.h_28 y34 y35
let y37 : Bool := v.h14_f && xdec (y23 = y22)
let y38 : S.zfst_T := S.zfst_o y36
let y39 : Nat := 0 + y28
let y40 : List (Ty .thing) := y38.x0
let y41 : Ty .thing := y40.getD y39 (dflt .thing)
let y42 : Thing := Thing.one 128 (Sc.bool (xnot (Thing.asB 128 y41)))
let y43 : Nat := y33 + 1
let y44 : Int := xwrap .i64 (y22 - 2)
let y45 : Bool := xdec (0 ≤ 1)
let y46 : Nat := Int.toNat 1
let y47 : Ty .thing := [].getD y46 (dflt .thing)
let y48 : S.zoxb_T := S.zoxb_o y1 y29 y47
let y49 : Int := y48.x1
let y50 : Bool := xeqI 0 0
let y51 : Thing := Thing.one 207 (Sc.int IntKind.i64 0)
let y52 : Bool := xdec (y6 ≤ (y7.set 0 y51).length)
let y53 : List (Ty .thing) := [y51]
let y54 : Bool := xeqI y49 0
let y55 : Thing := y48.x0
let y56 : Bool := xdec (y6 ≤ (y7.set 0 y55).length) && y10 && xdec (y11 ≤ 1048576)
let y57 : Bool := xneI y49 0
let y58 : List (Ty .thing) := y14 ++ [y55]
let y59 : Bool := xdec (0 ≤ y44)
let y60 : Nat := y44.toNat
let y61 : Nat := 0 + y60
let y62 : Nat := y61 + (v.h14_l - y60)
let y63 : List (Ty .thing) := sub v.h_28 y61 y62
let y64 : Bool := v.h14_f && xdec (y44 = y22)
let y65 : S.zfst_T := S.zfst_o y63
let y66 : Int := (↑y65.x1 : Int)
let y67 : List (Ty .thing) := y65.x0
let y68 : Nat := y67.length
let y69 : Nat := 0 + y46
let y70 : Ty .thing := y67.getD y39 (dflt .thing)
let y71 : Ty .thing := y67.getD y69 (dflt .thing)
let y72 : S.zoxb_T := S.zoxb_o y1 y70 y71
let y73 : Int := y72.x1
let y74 : Bool := xdec (y60 ≤ y9)
let y75 : Nat := y60 + 1
let y76 : List (Ty .thing) := List.take y60 v.h_28
let y77 : Bool := xeqI y73 0
let y78 : Thing := y72.x0
let y79 : Bool := xdec (y6 ≤ (y7.set 0 y78).length) && y74 && xdec (y75 ≤ 1048576)
let y80 : Bool := xneI y73 0
let y81 : List (Ty .thing) := y76 ++ [y78]
(.br (xdec (v.t11_ < qB))
(.br (xdec (0 ≤ v.t11_) && xdec (v.t11_ < (↑qA.length : Int)))
(.br (xeqI y1 0)
(.br (S.expr_of_is y3 y4 y5)
(.br (xdec (y6 ≤ (y7.set 0 y8).length) && y10 && xdec (y11 ≤ 1048576))
(.br (y12)
(.leaf (some 0, v))
(.leaf (none, ⟨y13, false, y11, y14 ++ [y8]⟩)))
.fail)
.fail)
(.br (xeqI y1 1)
(.br (xdec (y15 ≥ y16))
(.br (xneI 3 0)
(.leaf (some 1, v))
(.leaf (none, ⟨y13, v.h14_f, v.h14_l, v.h_28⟩)))
(.br (xdec (0 ≤ y15) && xdec (y15 < y16))
(.br (S.expr_of_is y18 y19 y20)
(.br (xdec (y6 ≤ (y7.set 0 y21).length) && y10 && xdec (y11 ≤ 1048576))
(.br (y12)
(.leaf (some 2, v))
(.leaf (none, ⟨y13, false, y11, y14 ++ [y21]⟩)))
.fail)
.fail)
.fail))
(.br (xeqI y1 9)
(.br (xdec (y23 < 0))
(.br (xnot false)
(.br (y24)
(.leaf (some 3, v))
(.leaf (none, ⟨y13, v.h14_f, v.h14_l, v.h_28⟩)))
(.br (y27)
(.br (xnot (Thing.isB 128 y29))
(.br (y30)
(.leaf (some 4, v))
(.leaf (none, ⟨y13, v.h14_f, v.h14_l, v.h_28⟩)))
(.br (xdec (y6 ≤ (y7.set 0 y31).length) && y10 && xdec (y11 ≤ 1048576))
(.br (y12)
(.leaf (some 5, v))
(.leaf (none, ⟨y13, false, y11, y14 ++ [y31]⟩)))
.fail))
.fail))
(.br (y32 && xdec (y23 ≤ Int.ofNat v.h14_l) && true && true)
(.br (xdec (y35 ≤ y9) && true && true && S.zfst_is y36)
(.br (y32 && xdec (y23 ≤ Int.ofNat v.h14_l) && true)
(.br (xnot true)
(.br (y24)
(.leaf (some 6, v))
(.leaf (none, ⟨y13, y37, y33, v.h_28⟩)))
(.br (y25 && xdec (0 < (↑y38.x1 : Int)))
(.br (xdec (y39 < y40.length))
(.br (xnot (Thing.isB 128 y41))
(.br (y30)
(.leaf (some 7, v))
(.leaf (none, ⟨y13, y37, y33, v.h_28⟩)))
(.br (xdec (y6 ≤ (y7.set 0 y42).length) && xdec (y33 ≤ y9) && xdec (y43 ≤ 1048576))
(.br (y12)
(.leaf (some 8, v))
(.leaf (none, ⟨y13, false, y43, List.take y33 v.h_28 ++ [y42]⟩)))
.fail))
.fail)
.fail))
.fail)
.fail)
.fail))
(.br (xdec (y44 < 0))
(.br (xnot false)
(.br (y24)
(.leaf (some 9, v))
(.leaf (none, ⟨y13, v.h14_f, v.h14_l, v.h_28⟩)))
(.br (y27)
(.br (y45 && xdec (1 < y26))
(.br (S.zoxb_is y1 y29 y47)
(.br (qD)
(.br (xeqI y49 6)
(.br (y50)
(.br (y52 && y10 && xdec (y11 ≤ 1048576))
(.br (y12)
(.leaf (some 10, v))
(.leaf (none, ⟨y13, false, y11, y14 ++ y53⟩)))
.fail)
(.br (y12)
(.leaf (some 11, v))
(.leaf (none, ⟨y13, v.h14_f, v.h14_l, v.h_28⟩))))
(.br (y54)
(.br (y56)
(.br (y57)
(.leaf (some 12, v))
(.leaf (none, ⟨y13, false, y11, y58⟩)))
.fail)
(.br (y57)
(.leaf (some 13, v))
(.leaf (none, ⟨y13, v.h14_f, v.h14_l, v.h_28⟩)))))
(.br (y54)
(.br (y56)
(.br (y57)
(.leaf (some 12, v))
(.leaf (none, ⟨y13, false, y11, y58⟩)))
.fail)
(.br (y57)
(.leaf (some 13, v))
(.leaf (none, ⟨y13, v.h14_f, v.h14_l, v.h_28⟩)))))
.fail)
.fail)
.fail))
(.br (y59 && xdec (y44 ≤ Int.ofNat v.h14_l) && true && true)
(.br (xdec (y62 ≤ y9) && true && true && S.zfst_is y63)
(.br (y59 && xdec (y44 ≤ Int.ofNat v.h14_l) && true)
(.br (xnot true)
(.br (y24)
(.leaf (some 14, v))
(.leaf (none, ⟨y13, y64, y60, v.h_28⟩)))
(.br (y25 && xdec (0 < y66))
(.br (xdec (y39 < y68))
(.br (y45 && xdec (1 < y66))
(.br (xdec (y69 < y68))
(.br (S.zoxb_is y1 y70 y71)
(.br (qD)
(.br (xeqI y73 6)
(.br (y50)
(.br (y52 && y74 && xdec (y75 ≤ 1048576))
(.br (y12)
(.leaf (some 15, v))
(.leaf (none, ⟨y13, false, y75, y76 ++ y53⟩)))
.fail)
(.br (y12)
(.leaf (some 16, v))
(.leaf (none, ⟨y13, y64, y60, v.h_28⟩))))
(.br (y77)
(.br (y79)
(.br (y80)
(.leaf (some 17, v))
(.leaf (none, ⟨y13, false, y75, y81⟩)))
.fail)
(.br (y80)
(.leaf (some 18, v))
(.leaf (none, ⟨y13, y64, y60, v.h_28⟩)))))
(.br (y77)
(.br (y79)
(.br (y80)
(.leaf (some 17, v))
(.leaf (none, ⟨y13, false, y75, y81⟩)))
.fail)
(.br (y80)
(.leaf (some 18, v))
(.leaf (none, ⟨y13, y64, y60, v.h_28⟩)))))
.fail)
.fail)
.fail)
.fail)
.fail))
.fail)
.fail)
.fail)))))
.fail)
(.leaf (some 19, v)))
def S.zn3l_2_r (qA : List (Ty .op)) (qB : Int) (qC : List (Ty .val)) (qD : Bool) (v : S.zn3l_2_V) : Option (Option Nat × S.zn3l_2_V) := (S.zn3l_2_R qA qB qC qD v).run
def S.zn3l_2_j (qA : List (Ty .op)) (qB : Int) (qC : List (Ty .val)) (qD : Bool) (v : S.zn3l_2_V) (j : Nat) : Bool := Lp_j (S.zn3l_2_r qA qB qC qD) v j
def S.zn3l_2_v (qA : List (Ty .op)) (qB : Int) (qC : List (Ty .val)) (qD : Bool) (v : S.zn3l_2_V) : S.zn3l_2_V := Lp_v (S.zn3l_2_r qA qB qC qD) v
def mk_zn3l_2 (qE : Option Bool) (qF : Bool) (qA : List (Ty .op)) (qB : Int) (qG : ByteArray) (qH : Int) (qI : Option Bool) (qJ : Bool) (qK : List (Ty .val)) (qL : Int) (qM : Int) (qN : ByteArray) (qO : Option Bool) (qP : Bool) (qC : List (Ty .val)) (qD : Bool) (qQ : Int) (qR : Int) (qS : ByteArray) (v : S.zn3l_2_V) : St := ⟨(V.v false [C.ptr 14 0] :: (vs 3 (V.v false [C.ptr 23 0] :: (vs 4 (V.v false [C.d (.sl qE qF .op qA)] :: ((cV qB) :: ((cV v.t11_) :: (vs 25 [])))))))), (some (Blk.box 29 [C.d (.sc (.str qG)), (cI qH), C.d (.sl qI qJ .val qK)]) :: (some (Blk.box 52 [(cI qL), (cI qM), C.d (.sc (.str qN))]) :: (ns 12 (some (Blk.box 166 [C.own 28 .thing v.h14_f 0 v.h14_l, C.d (.sl qO qP .val qC), C.d (.sc (.bool qD))]) :: (ns 8 (some (Blk.box 52 [(cI qQ), (cI qR), C.d (.sc (.str qS))]) :: (ns 4 (some (Blk.arr 188 .thing v.h_28) :: [])))))))), 23⟩
def ex_zn3l_2 (qE : Option Bool) (qF : Bool) (qA : List (Ty .op)) (qB : Int) (qG : ByteArray) (qH : Int) (qI : Option Bool) (qJ : Bool) (qK : List (Ty .val)) (qL : Int) (qM : Int) (qN : ByteArray) (qO : Option Bool) (qP : Bool) (qC : List (Ty .val)) (qD : Bool) (qQ : Int) (qR : Int) (qS : ByteArray) (j : Nat) (v : S.zn3l_2_V) : Ex × St := match j with
 | 0 => (Ex.ret, ⟨(V.v false [C.ptr 14 0] :: (vs 3 (V.v false [C.ptr 23 0] :: ((cV 0) :: (vs 31 []))))), (some (Blk.box 29 [C.d (.sc (.str qG)), (cI qH), C.d (.sl qI qJ .val qK)]) :: (some (Blk.box 52 [(cI qL), (cI qM), C.d (.sc (.str qN))]) :: (ns 12 (some (Blk.box 166 [C.own (49 + 7) .thing false 0 (v.h14_l + 1), C.d (.sl qO qP .val qC), C.d (.sc (.bool qD))]) :: (ns 8 (some (Blk.box 52 [(cI 0), (cI 0), C.d (.sc (.str ByteArray.empty))]) :: (ns 8 (some
  (Blk.box 115
   [(cI (qA.getD v.t11_.toNat (dflt .op)).code), (cI (qA.getD v.t11_.toNat (dflt .op)).arg),
    (cI (qA.getD v.t11_.toNat (dflt .op)).v.kind), (cI (qA.getD v.t11_.toNat (dflt .op)).v.n),
    C.d (.sc (.str (qA.getD v.t11_.toNat (dflt .op)).v.s))]) :: (ns 5 (some
  (Blk.box 115
   [(cI (qA.getD v.t11_.toNat (dflt .op)).code), (cI (qA.getD v.t11_.toNat (dflt .op)).arg),
    (cI (qA.getD v.t11_.toNat (dflt .op)).v.kind), (cI (qA.getD v.t11_.toNat (dflt .op)).v.n),
    C.d (.sc (.str (qA.getD v.t11_.toNat (dflt .op)).v.s))]) :: (ns 16 (some
  (Blk.arr 188 .thing
   ((List.replicate 1 (dflt .thing)).set 0
    (S.expr_of_o (qA.getD v.t11_.toNat (dflt .op)).v.kind (qA.getD v.t11_.toNat (dflt .op)).v.n (qA.getD v.t11_.toNat (dflt .op)).v.s).x0)) :: (some
  (Blk.arr 188 .thing
   (List.take v.h14_l v.h_28 ++
    [(S.expr_of_o (qA.getD v.t11_.toNat (dflt .op)).v.kind (qA.getD v.t11_.toNat (dflt .op)).v.n (qA.getD v.t11_.toNat (dflt .op)).v.s).x0])) :: (ns 10 [])))))))))))))), 23⟩)
 | 1 => (Ex.ret, ⟨(V.v false [C.ptr 14 0] :: (vs 3 (V.v false [C.ptr 23 0] :: ((cV 3) :: (vs 31 []))))), (some (Blk.box 29 [C.d (.sc (.str qG)), (cI qH), C.d (.sl qI qJ .val qK)]) :: (some (Blk.box 52 [(cI qL), (cI qM), C.d (.sc (.str qN))]) :: (ns 12 (some (Blk.box 166 [C.own 28 .thing v.h14_f 0 v.h14_l, C.d (.sl qO qP .val qC), C.d (.sc (.bool qD))]) :: (ns 8 (some (Blk.box 52 [(cI 0), (cI 0), C.d (.sc (.str ByteArray.empty))]) :: (ns 4 (some (Blk.arr 188 .thing v.h_28) :: (ns 3 (some
  (Blk.box 115
   [(cI (qA.getD v.t11_.toNat (dflt .op)).code), (cI (qA.getD v.t11_.toNat (dflt .op)).arg),
    (cI (qA.getD v.t11_.toNat (dflt .op)).v.kind), (cI (qA.getD v.t11_.toNat (dflt .op)).v.n),
    C.d (.sc (.str (qA.getD v.t11_.toNat (dflt .op)).v.s))]) :: (ns 5 (some
  (Blk.box 115
   [(cI (qA.getD v.t11_.toNat (dflt .op)).code), (cI (qA.getD v.t11_.toNat (dflt .op)).arg),
    (cI (qA.getD v.t11_.toNat (dflt .op)).v.kind), (cI (qA.getD v.t11_.toNat (dflt .op)).v.n),
    C.d (.sc (.str (qA.getD v.t11_.toNat (dflt .op)).v.s))]) :: (ns 22 []))))))))))))), 23⟩)
 | 2 => (Ex.ret, ⟨(V.v false [C.ptr 14 0] :: (vs 3 (V.v false [C.ptr 23 0] :: ((cV 0) :: (vs 31 []))))), (some (Blk.box 29 [C.d (.sc (.str qG)), (cI qH), C.d (.sl qI qJ .val qK)]) :: (some (Blk.box 52 [(cI qL), (cI qM), C.d (.sc (.str qN))]) :: (ns 12 (some (Blk.box 166 [C.own (65 + 7) .thing false 0 (v.h14_l + 1), C.d (.sl qO qP .val qC), C.d (.sc (.bool qD))]) :: (ns 8 (some (Blk.box 52 [(cI 0), (cI 0), C.d (.sc (.str ByteArray.empty))]) :: (ns 8 (some
  (Blk.box 115
   [(cI (qA.getD v.t11_.toNat (dflt .op)).code), (cI (qA.getD v.t11_.toNat (dflt .op)).arg),
    (cI (qA.getD v.t11_.toNat (dflt .op)).v.kind), (cI (qA.getD v.t11_.toNat (dflt .op)).v.n),
    C.d (.sc (.str (qA.getD v.t11_.toNat (dflt .op)).v.s))]) :: (ns 5 (some
  (Blk.box 115
   [(cI (qA.getD v.t11_.toNat (dflt .op)).code), (cI (qA.getD v.t11_.toNat (dflt .op)).arg),
    (cI (qA.getD v.t11_.toNat (dflt .op)).v.kind), (cI (qA.getD v.t11_.toNat (dflt .op)).v.n),
    C.d (.sc (.str (qA.getD v.t11_.toNat (dflt .op)).v.s))]) :: (ns 32 (some
  (Blk.arr 188 .thing
   ((List.replicate 1 (dflt .thing)).set 0
    (S.expr_of_o (qC.getD (qA.getD v.t11_.toNat (dflt .op)).arg.toNat (dflt .val)).kind
        (qC.getD (qA.getD v.t11_.toNat (dflt .op)).arg.toNat (dflt .val)).n (qC.getD (qA.getD v.t11_.toNat (dflt .op)).arg.toNat (dflt .val)).s).x0)) :: (some
  (Blk.arr 188 .thing
   (List.take v.h14_l v.h_28 ++
    [(S.expr_of_o (qC.getD (qA.getD v.t11_.toNat (dflt .op)).arg.toNat (dflt .val)).kind
          (qC.getD (qA.getD v.t11_.toNat (dflt .op)).arg.toNat (dflt .val)).n
          (qC.getD (qA.getD v.t11_.toNat (dflt .op)).arg.toNat (dflt .val)).s).x0])) :: (ns 10 [])))))))))))))), 23⟩)
 | 3 => (Ex.ret, ⟨(V.v false [C.ptr 14 0] :: (vs 3 (V.v false [C.ptr 23 0] :: ((cV 2) :: (vs 31 []))))), (some (Blk.box 29 [C.d (.sc (.str qG)), (cI qH), C.d (.sl qI qJ .val qK)]) :: (some (Blk.box 52 [(cI qL), (cI qM), C.d (.sc (.str qN))]) :: (ns 12 (some (Blk.box 166 [C.own 28 .thing v.h14_f 0 v.h14_l, C.d (.sl qO qP .val qC), C.d (.sc (.bool qD))]) :: (ns 8 (some (Blk.box 52 [(cI 0), (cI 0), C.d (.sc (.str ByteArray.empty))]) :: (ns 4 (some (Blk.arr 188 .thing v.h_28) :: (ns 3 (some
  (Blk.box 115
   [(cI (qA.getD v.t11_.toNat (dflt .op)).code), (cI (qA.getD v.t11_.toNat (dflt .op)).arg),
    (cI (qA.getD v.t11_.toNat (dflt .op)).v.kind), (cI (qA.getD v.t11_.toNat (dflt .op)).v.n),
    C.d (.sc (.str (qA.getD v.t11_.toNat (dflt .op)).v.s))]) :: (ns 5 (some
  (Blk.box 115
   [(cI (qA.getD v.t11_.toNat (dflt .op)).code), (cI (qA.getD v.t11_.toNat (dflt .op)).arg),
    (cI (qA.getD v.t11_.toNat (dflt .op)).v.kind), (cI (qA.getD v.t11_.toNat (dflt .op)).v.n),
    C.d (.sc (.str (qA.getD v.t11_.toNat (dflt .op)).v.s))]) :: (ns 43 []))))))))))))), 23⟩)
 | 4 => (Ex.ret, ⟨(V.v false [C.ptr 14 0] :: (vs 3 (V.v false [C.ptr 23 0] :: ((cV 5) :: (vs 31 []))))), (some (Blk.box 29 [C.d (.sc (.str qG)), (cI qH), C.d (.sl qI qJ .val qK)]) :: (some (Blk.box 52 [(cI qL), (cI qM), C.d (.sc (.str qN))]) :: (ns 12 (some (Blk.box 166 [C.own 28 .thing v.h14_f 0 v.h14_l, C.d (.sl qO qP .val qC), C.d (.sc (.bool qD))]) :: (ns 8 (some (Blk.box 52 [(cI 0), (cI 0), C.d (.sc (.str ByteArray.empty))]) :: (ns 4 (some (Blk.arr 188 .thing v.h_28) :: (ns 3 (some
  (Blk.box 115
   [(cI (qA.getD v.t11_.toNat (dflt .op)).code), (cI (qA.getD v.t11_.toNat (dflt .op)).arg),
    (cI (qA.getD v.t11_.toNat (dflt .op)).v.kind), (cI (qA.getD v.t11_.toNat (dflt .op)).v.n),
    C.d (.sc (.str (qA.getD v.t11_.toNat (dflt .op)).v.s))]) :: (ns 5 (some
  (Blk.box 115
   [(cI (qA.getD v.t11_.toNat (dflt .op)).code), (cI (qA.getD v.t11_.toNat (dflt .op)).arg),
    (cI (qA.getD v.t11_.toNat (dflt .op)).v.kind), (cI (qA.getD v.t11_.toNat (dflt .op)).v.n),
    C.d (.sc (.str (qA.getD v.t11_.toNat (dflt .op)).v.s))]) :: (ns 54 []))))))))))))), 23⟩)
 | 5 => (Ex.ret, ⟨(V.v false [C.ptr 14 0] :: (vs 3 (V.v false [C.ptr 23 0] :: ((cV 0) :: (vs 31 []))))), (some (Blk.box 29 [C.d (.sc (.str qG)), (cI qH), C.d (.sl qI qJ .val qK)]) :: (some (Blk.box 52 [(cI qL), (cI qM), C.d (.sc (.str qN))]) :: (ns 12 (some (Blk.box 166 [C.own (91 + 7) .thing false 0 (v.h14_l + 1), C.d (.sl qO qP .val qC), C.d (.sc (.bool qD))]) :: (ns 8 (some (Blk.box 52 [(cI 0), (cI 0), C.d (.sc (.str ByteArray.empty))]) :: (ns 8 (some
  (Blk.box 115
   [(cI (qA.getD v.t11_.toNat (dflt .op)).code), (cI (qA.getD v.t11_.toNat (dflt .op)).arg),
    (cI (qA.getD v.t11_.toNat (dflt .op)).v.kind), (cI (qA.getD v.t11_.toNat (dflt .op)).v.n),
    C.d (.sc (.str (qA.getD v.t11_.toNat (dflt .op)).v.s))]) :: (ns 5 (some
  (Blk.box 115
   [(cI (qA.getD v.t11_.toNat (dflt .op)).code), (cI (qA.getD v.t11_.toNat (dflt .op)).arg),
    (cI (qA.getD v.t11_.toNat (dflt .op)).v.kind), (cI (qA.getD v.t11_.toNat (dflt .op)).v.n),
    C.d (.sc (.str (qA.getD v.t11_.toNat (dflt .op)).v.s))]) :: (ns 58 (some (Blk.arr 188 .thing ((List.replicate 1 (dflt .thing)).set 0 (Thing.one 128 (Sc.bool (xnot (Thing.asB 128 ([].getD (Int.toNat 0) (dflt .thing)))))))) :: (some (Blk.arr 188 .thing (List.take v.h14_l v.h_28 ++ [Thing.one 128 (Sc.bool (xnot (Thing.asB 128 ([].getD (Int.toNat 0) (dflt .thing)))))])) :: (ns 10 [])))))))))))))), 23⟩)
 | 6 => (Ex.ret, ⟨(V.v false [C.ptr 14 0] :: (vs 3 (V.v false [C.ptr 23 0] :: ((cV 2) :: (vs 31 []))))), (some (Blk.box 29 [C.d (.sc (.str qG)), (cI qH), C.d (.sl qI qJ .val qK)]) :: (some (Blk.box 52 [(cI qL), (cI qM), C.d (.sc (.str qN))]) :: (ns 12 (some
  (Blk.box 166
   [C.own 28 .thing (v.h14_f && xdec (xwrap .i64 ((↑v.h14_l : Int) - 1) = (↑v.h14_l : Int))) 0 (xwrap .i64 ((↑v.h14_l : Int) - 1)).toNat,
    C.d (.sl qO qP .val qC), C.d (.sc (.bool qD))]) :: (ns 8 (some (Blk.box 52 [(cI 0), (cI 0), C.d (.sc (.str ByteArray.empty))]) :: (ns 4 (some (Blk.arr 188 .thing v.h_28) :: (ns 3 (some
  (Blk.box 115
   [(cI (qA.getD v.t11_.toNat (dflt .op)).code), (cI (qA.getD v.t11_.toNat (dflt .op)).arg),
    (cI (qA.getD v.t11_.toNat (dflt .op)).v.kind), (cI (qA.getD v.t11_.toNat (dflt .op)).v.n),
    C.d (.sc (.str (qA.getD v.t11_.toNat (dflt .op)).v.s))]) :: (ns 5 (some
  (Blk.box 115
   [(cI (qA.getD v.t11_.toNat (dflt .op)).code), (cI (qA.getD v.t11_.toNat (dflt .op)).arg),
    (cI (qA.getD v.t11_.toNat (dflt .op)).v.kind), (cI (qA.getD v.t11_.toNat (dflt .op)).v.n),
    C.d (.sc (.str (qA.getD v.t11_.toNat (dflt .op)).v.s))]) :: (ns 38 (some
  (Blk.arr 188 .thing
   (S.zfst_o
       (sub v.h_28 (0 + (xwrap .i64 ((↑v.h14_l : Int) - 1)).toNat)
        (0 + (xwrap .i64 ((↑v.h14_l : Int) - 1)).toNat + (v.h14_l - (xwrap .i64 ((↑v.h14_l : Int) - 1)).toNat)))).x0) :: (ns 23 []))))))))))))))), 23⟩)
 | 7 => (Ex.ret, ⟨(V.v false [C.ptr 14 0] :: (vs 3 (V.v false [C.ptr 23 0] :: ((cV 5) :: (vs 31 []))))), (some (Blk.box 29 [C.d (.sc (.str qG)), (cI qH), C.d (.sl qI qJ .val qK)]) :: (some (Blk.box 52 [(cI qL), (cI qM), C.d (.sc (.str qN))]) :: (ns 12 (some
  (Blk.box 166
   [C.own 28 .thing (v.h14_f && xdec (xwrap .i64 ((↑v.h14_l : Int) - 1) = (↑v.h14_l : Int))) 0 (xwrap .i64 ((↑v.h14_l : Int) - 1)).toNat,
    C.d (.sl qO qP .val qC), C.d (.sc (.bool qD))]) :: (ns 8 (some (Blk.box 52 [(cI 0), (cI 0), C.d (.sc (.str ByteArray.empty))]) :: (ns 4 (some (Blk.arr 188 .thing v.h_28) :: (ns 3 (some
  (Blk.box 115
   [(cI (qA.getD v.t11_.toNat (dflt .op)).code), (cI (qA.getD v.t11_.toNat (dflt .op)).arg),
    (cI (qA.getD v.t11_.toNat (dflt .op)).v.kind), (cI (qA.getD v.t11_.toNat (dflt .op)).v.n),
    C.d (.sc (.str (qA.getD v.t11_.toNat (dflt .op)).v.s))]) :: (ns 5 (some
  (Blk.box 115
   [(cI (qA.getD v.t11_.toNat (dflt .op)).code), (cI (qA.getD v.t11_.toNat (dflt .op)).arg),
    (cI (qA.getD v.t11_.toNat (dflt .op)).v.kind), (cI (qA.getD v.t11_.toNat (dflt .op)).v.n),
    C.d (.sc (.str (qA.getD v.t11_.toNat (dflt .op)).v.s))]) :: (ns 38 (some
  (Blk.arr 188 .thing
   (S.zfst_o
       (sub v.h_28 (0 + (xwrap .i64 ((↑v.h14_l : Int) - 1)).toNat)
        (0 + (xwrap .i64 ((↑v.h14_l : Int) - 1)).toNat + (v.h14_l - (xwrap .i64 ((↑v.h14_l : Int) - 1)).toNat)))).x0) :: (ns 34 []))))))))))))))), 23⟩)
 | 8 => (Ex.ret, ⟨(V.v false [C.ptr 14 0] :: (vs 3 (V.v false [C.ptr 23 0] :: ((cV 0) :: (vs 31 []))))), (some (Blk.box 29 [C.d (.sc (.str qG)), (cI qH), C.d (.sl qI qJ .val qK)]) :: (some (Blk.box 52 [(cI qL), (cI qM), C.d (.sc (.str qN))]) :: (ns 12 (some
  (Blk.box 166
   [C.own (110 + 7) .thing false 0 ((xwrap .i64 ((↑v.h14_l : Int) - 1)).toNat + 1), C.d (.sl qO qP .val qC), C.d (.sc (.bool qD))]) :: (ns 8 (some (Blk.box 52 [(cI 0), (cI 0), C.d (.sc (.str ByteArray.empty))]) :: (ns 8 (some
  (Blk.box 115
   [(cI (qA.getD v.t11_.toNat (dflt .op)).code), (cI (qA.getD v.t11_.toNat (dflt .op)).arg),
    (cI (qA.getD v.t11_.toNat (dflt .op)).v.kind), (cI (qA.getD v.t11_.toNat (dflt .op)).v.n),
    C.d (.sc (.str (qA.getD v.t11_.toNat (dflt .op)).v.s))]) :: (ns 5 (some
  (Blk.box 115
   [(cI (qA.getD v.t11_.toNat (dflt .op)).code), (cI (qA.getD v.t11_.toNat (dflt .op)).arg),
    (cI (qA.getD v.t11_.toNat (dflt .op)).v.kind), (cI (qA.getD v.t11_.toNat (dflt .op)).v.n),
    C.d (.sc (.str (qA.getD v.t11_.toNat (dflt .op)).v.s))]) :: (ns 38 (some
  (Blk.arr 188 .thing
   (S.zfst_o
       (sub v.h_28 (0 + (xwrap .i64 ((↑v.h14_l : Int) - 1)).toNat)
        (0 + (xwrap .i64 ((↑v.h14_l : Int) - 1)).toNat + (v.h14_l - (xwrap .i64 ((↑v.h14_l : Int) - 1)).toNat)))).x0) :: (ns 38 (some
  (Blk.arr 188 .thing
   ((List.replicate 1 (dflt .thing)).set 0
    (Thing.one 128
     (Sc.bool
      (xnot
       (Thing.asB 128
        ((S.zfst_o
                (sub v.h_28 (0 + (xwrap .i64 ((↑v.h14_l : Int) - 1)).toNat)
                 (0 + (xwrap .i64 ((↑v.h14_l : Int) - 1)).toNat + (v.h14_l - (xwrap .i64 ((↑v.h14_l : Int) - 1)).toNat)))).x0.getD
         (0 + Int.toNat 0) (dflt .thing)))))))) :: (some
  (Blk.arr 188 .thing
   (List.take (xwrap .i64 ((↑v.h14_l : Int) - 1)).toNat v.h_28 ++
    [Thing.one 128
        (Sc.bool
         (xnot
          (Thing.asB 128
           ((S.zfst_o
                   (sub v.h_28 (0 + (xwrap .i64 ((↑v.h14_l : Int) - 1)).toNat)
                    (0 + (xwrap .i64 ((↑v.h14_l : Int) - 1)).toNat + (v.h14_l - (xwrap .i64 ((↑v.h14_l : Int) - 1)).toNat)))).x0.getD
            (0 + Int.toNat 0) (dflt .thing)))))])) :: (ns 10 [])))))))))))))))), 23⟩)
 | 9 => (Ex.ret, ⟨(V.v false [C.ptr 14 0] :: (vs 3 (V.v false [C.ptr 23 0] :: ((cV 2) :: (vs 31 []))))), (some (Blk.box 29 [C.d (.sc (.str qG)), (cI qH), C.d (.sl qI qJ .val qK)]) :: (some (Blk.box 52 [(cI qL), (cI qM), C.d (.sc (.str qN))]) :: (ns 12 (some (Blk.box 166 [C.own 28 .thing v.h14_f 0 v.h14_l, C.d (.sl qO qP .val qC), C.d (.sc (.bool qD))]) :: (ns 8 (some (Blk.box 52 [(cI 0), (cI 0), C.d (.sc (.str ByteArray.empty))]) :: (ns 4 (some (Blk.arr 188 .thing v.h_28) :: (ns 3 (some
  (Blk.box 115
   [(cI (qA.getD v.t11_.toNat (dflt .op)).code), (cI (qA.getD v.t11_.toNat (dflt .op)).arg),
    (cI (qA.getD v.t11_.toNat (dflt .op)).v.kind), (cI (qA.getD v.t11_.toNat (dflt .op)).v.n),
    C.d (.sc (.str (qA.getD v.t11_.toNat (dflt .op)).v.s))]) :: (ns 5 (some
  (Blk.box 115
   [(cI (qA.getD v.t11_.toNat (dflt .op)).code), (cI (qA.getD v.t11_.toNat (dflt .op)).arg),
    (cI (qA.getD v.t11_.toNat (dflt .op)).v.kind), (cI (qA.getD v.t11_.toNat (dflt .op)).v.n),
    C.d (.sc (.str (qA.getD v.t11_.toNat (dflt .op)).v.s))]) :: (ns 39 []))))))))))))), 23⟩)
 | 10 => (Ex.ret, ⟨(V.v false [C.ptr 14 0] :: (vs 3 (V.v false [C.ptr 23 0] :: ((cV 0) :: (vs 31 []))))), (some (Blk.box 29 [C.d (.sc (.str qG)), (cI qH), C.d (.sl qI qJ .val qK)]) :: (some (Blk.box 52 [(cI qL), (cI qM), C.d (.sc (.str qN))]) :: (ns 12 (some (Blk.box 166 [C.own (101 + 7) .thing false 0 (v.h14_l + 1), C.d (.sl qO qP .val qC), C.d (.sc (.bool qD))]) :: (ns 8 (some (Blk.box 52 [(cI 0), (cI 0), C.d (.sc (.str ByteArray.empty))]) :: (ns 8 (some
  (Blk.box 115
   [(cI (qA.getD v.t11_.toNat (dflt .op)).code), (cI (qA.getD v.t11_.toNat (dflt .op)).arg),
    (cI (qA.getD v.t11_.toNat (dflt .op)).v.kind), (cI (qA.getD v.t11_.toNat (dflt .op)).v.n),
    C.d (.sc (.str (qA.getD v.t11_.toNat (dflt .op)).v.s))]) :: (ns 5 (some
  (Blk.box 115
   [(cI (qA.getD v.t11_.toNat (dflt .op)).code), (cI (qA.getD v.t11_.toNat (dflt .op)).arg),
    (cI (qA.getD v.t11_.toNat (dflt .op)).v.kind), (cI (qA.getD v.t11_.toNat (dflt .op)).v.n),
    C.d (.sc (.str (qA.getD v.t11_.toNat (dflt .op)).v.s))]) :: (ns 68 (some (Blk.arr 188 .thing ((List.replicate 1 (dflt .thing)).set 0 (Thing.one 207 (Sc.int IntKind.i64 0)))) :: (some (Blk.arr 188 .thing (List.take v.h14_l v.h_28 ++ [Thing.one 207 (Sc.int IntKind.i64 0)])) :: (ns 11 [])))))))))))))), 23⟩)
 | 11 => (Ex.ret, ⟨(V.v false [C.ptr 14 0] :: (vs 3 (V.v false [C.ptr 23 0] :: ((cV 0) :: (vs 31 []))))), (some (Blk.box 29 [C.d (.sc (.str qG)), (cI qH), C.d (.sl qI qJ .val qK)]) :: (some (Blk.box 52 [(cI qL), (cI qM), C.d (.sc (.str qN))]) :: (ns 12 (some (Blk.box 166 [C.own 28 .thing v.h14_f 0 v.h14_l, C.d (.sl qO qP .val qC), C.d (.sc (.bool qD))]) :: (ns 8 (some (Blk.box 52 [(cI 0), (cI 0), C.d (.sc (.str ByteArray.empty))]) :: (ns 4 (some (Blk.arr 188 .thing v.h_28) :: (ns 3 (some
  (Blk.box 115
   [(cI (qA.getD v.t11_.toNat (dflt .op)).code), (cI (qA.getD v.t11_.toNat (dflt .op)).arg),
    (cI (qA.getD v.t11_.toNat (dflt .op)).v.kind), (cI (qA.getD v.t11_.toNat (dflt .op)).v.n),
    C.d (.sc (.str (qA.getD v.t11_.toNat (dflt .op)).v.s))]) :: (ns 5 (some
  (Blk.box 115
   [(cI (qA.getD v.t11_.toNat (dflt .op)).code), (cI (qA.getD v.t11_.toNat (dflt .op)).arg),
    (cI (qA.getD v.t11_.toNat (dflt .op)).v.kind), (cI (qA.getD v.t11_.toNat (dflt .op)).v.n),
    C.d (.sc (.str (qA.getD v.t11_.toNat (dflt .op)).v.s))]) :: (ns 67 []))))))))))))), 23⟩)
 | 12 => (Ex.ret, ⟨(V.v false [C.ptr 14 0] :: (vs 3 (V.v false [C.ptr 23 0] :: (V.v false
  [C.d
      (D.sc
       (Sc.int IntKind.i64 (S.zoxb_o (qA.getD v.t11_.toNat (dflt .op)).code ([].getD (Int.toNat 0) (dflt .thing)) ([].getD (Int.toNat 1) (dflt .thing))).x1))] :: (vs 31 []))))), (some (Blk.box 29 [C.d (.sc (.str qG)), (cI qH), C.d (.sl qI qJ .val qK)]) :: (some (Blk.box 52 [(cI qL), (cI qM), C.d (.sc (.str qN))]) :: (ns 12 (some (Blk.box 166 [C.own (98 + 7) .thing false 0 (v.h14_l + 1), C.d (.sl qO qP .val qC), C.d (.sc (.bool qD))]) :: (ns 8 (some (Blk.box 52 [(cI 0), (cI 0), C.d (.sc (.str ByteArray.empty))]) :: (ns 8 (some
  (Blk.box 115
   [(cI (qA.getD v.t11_.toNat (dflt .op)).code), (cI (qA.getD v.t11_.toNat (dflt .op)).arg),
    (cI (qA.getD v.t11_.toNat (dflt .op)).v.kind), (cI (qA.getD v.t11_.toNat (dflt .op)).v.n),
    C.d (.sc (.str (qA.getD v.t11_.toNat (dflt .op)).v.s))]) :: (ns 5 (some
  (Blk.box 115
   [(cI (qA.getD v.t11_.toNat (dflt .op)).code), (cI (qA.getD v.t11_.toNat (dflt .op)).arg),
    (cI (qA.getD v.t11_.toNat (dflt .op)).v.kind), (cI (qA.getD v.t11_.toNat (dflt .op)).v.n),
    C.d (.sc (.str (qA.getD v.t11_.toNat (dflt .op)).v.s))]) :: (ns 65 (some
  (Blk.arr 188 .thing
   ((List.replicate 1 (dflt .thing)).set 0
    (S.zoxb_o (qA.getD v.t11_.toNat (dflt .op)).code ([].getD (Int.toNat 0) (dflt .thing)) ([].getD (Int.toNat 1) (dflt .thing))).x0)) :: (some
  (Blk.arr 188 .thing
   (List.take v.h14_l v.h_28 ++
    [(S.zoxb_o (qA.getD v.t11_.toNat (dflt .op)).code ([].getD (Int.toNat 0) (dflt .thing)) ([].getD (Int.toNat 1) (dflt .thing))).x0])) :: (ns 11 [])))))))))))))), 23⟩)
 | 13 => (Ex.ret, ⟨(V.v false [C.ptr 14 0] :: (vs 3 (V.v false [C.ptr 23 0] :: (V.v false
  [C.d
      (D.sc
       (Sc.int IntKind.i64 (S.zoxb_o (qA.getD v.t11_.toNat (dflt .op)).code ([].getD (Int.toNat 0) (dflt .thing)) ([].getD (Int.toNat 1) (dflt .thing))).x1))] :: (vs 31 []))))), (some (Blk.box 29 [C.d (.sc (.str qG)), (cI qH), C.d (.sl qI qJ .val qK)]) :: (some (Blk.box 52 [(cI qL), (cI qM), C.d (.sc (.str qN))]) :: (ns 12 (some (Blk.box 166 [C.own 28 .thing v.h14_f 0 v.h14_l, C.d (.sl qO qP .val qC), C.d (.sc (.bool qD))]) :: (ns 8 (some (Blk.box 52 [(cI 0), (cI 0), C.d (.sc (.str ByteArray.empty))]) :: (ns 4 (some (Blk.arr 188 .thing v.h_28) :: (ns 3 (some
  (Blk.box 115
   [(cI (qA.getD v.t11_.toNat (dflt .op)).code), (cI (qA.getD v.t11_.toNat (dflt .op)).arg),
    (cI (qA.getD v.t11_.toNat (dflt .op)).v.kind), (cI (qA.getD v.t11_.toNat (dflt .op)).v.n),
    C.d (.sc (.str (qA.getD v.t11_.toNat (dflt .op)).v.s))]) :: (ns 5 (some
  (Blk.box 115
   [(cI (qA.getD v.t11_.toNat (dflt .op)).code), (cI (qA.getD v.t11_.toNat (dflt .op)).arg),
    (cI (qA.getD v.t11_.toNat (dflt .op)).v.kind), (cI (qA.getD v.t11_.toNat (dflt .op)).v.n),
    C.d (.sc (.str (qA.getD v.t11_.toNat (dflt .op)).v.s))]) :: (ns 64 []))))))))))))), 23⟩)
 | 14 => (Ex.ret, ⟨(V.v false [C.ptr 14 0] :: (vs 3 (V.v false [C.ptr 23 0] :: ((cV 2) :: (vs 31 []))))), (some (Blk.box 29 [C.d (.sc (.str qG)), (cI qH), C.d (.sl qI qJ .val qK)]) :: (some (Blk.box 52 [(cI qL), (cI qM), C.d (.sc (.str qN))]) :: (ns 12 (some
  (Blk.box 166
   [C.own 28 .thing (v.h14_f && xdec (xwrap .i64 ((↑v.h14_l : Int) - 2) = (↑v.h14_l : Int))) 0 (xwrap .i64 ((↑v.h14_l : Int) - 2)).toNat,
    C.d (.sl qO qP .val qC), C.d (.sc (.bool qD))]) :: (ns 8 (some (Blk.box 52 [(cI 0), (cI 0), C.d (.sc (.str ByteArray.empty))]) :: (ns 4 (some (Blk.arr 188 .thing v.h_28) :: (ns 3 (some
  (Blk.box 115
   [(cI (qA.getD v.t11_.toNat (dflt .op)).code), (cI (qA.getD v.t11_.toNat (dflt .op)).arg),
    (cI (qA.getD v.t11_.toNat (dflt .op)).v.kind), (cI (qA.getD v.t11_.toNat (dflt .op)).v.n),
    C.d (.sc (.str (qA.getD v.t11_.toNat (dflt .op)).v.s))]) :: (ns 5 (some
  (Blk.box 115
   [(cI (qA.getD v.t11_.toNat (dflt .op)).code), (cI (qA.getD v.t11_.toNat (dflt .op)).arg),
    (cI (qA.getD v.t11_.toNat (dflt .op)).v.kind), (cI (qA.getD v.t11_.toNat (dflt .op)).v.n),
    C.d (.sc (.str (qA.getD v.t11_.toNat (dflt .op)).v.s))]) :: (ns 34 (some
  (Blk.arr 188 .thing
   (S.zfst_o
       (sub v.h_28 (0 + (xwrap .i64 ((↑v.h14_l : Int) - 2)).toNat)
        (0 + (xwrap .i64 ((↑v.h14_l : Int) - 2)).toNat + (v.h14_l - (xwrap .i64 ((↑v.h14_l : Int) - 2)).toNat)))).x0) :: (ns 23 []))))))))))))))), 23⟩)
 | 15 => (Ex.ret, ⟨(V.v false [C.ptr 14 0] :: (vs 3 (V.v false [C.ptr 23 0] :: ((cV 0) :: (vs 31 []))))), (some (Blk.box 29 [C.d (.sc (.str qG)), (cI qH), C.d (.sl qI qJ .val qK)]) :: (some (Blk.box 52 [(cI qL), (cI qM), C.d (.sc (.str qN))]) :: (ns 12 (some
  (Blk.box 166
   [C.own (120 + 7) .thing false 0 ((xwrap .i64 ((↑v.h14_l : Int) - 2)).toNat + 1), C.d (.sl qO qP .val qC), C.d (.sc (.bool qD))]) :: (ns 8 (some (Blk.box 52 [(cI 0), (cI 0), C.d (.sc (.str ByteArray.empty))]) :: (ns 8 (some
  (Blk.box 115
   [(cI (qA.getD v.t11_.toNat (dflt .op)).code), (cI (qA.getD v.t11_.toNat (dflt .op)).arg),
    (cI (qA.getD v.t11_.toNat (dflt .op)).v.kind), (cI (qA.getD v.t11_.toNat (dflt .op)).v.n),
    C.d (.sc (.str (qA.getD v.t11_.toNat (dflt .op)).v.s))]) :: (ns 5 (some
  (Blk.box 115
   [(cI (qA.getD v.t11_.toNat (dflt .op)).code), (cI (qA.getD v.t11_.toNat (dflt .op)).arg),
    (cI (qA.getD v.t11_.toNat (dflt .op)).v.kind), (cI (qA.getD v.t11_.toNat (dflt .op)).v.n),
    C.d (.sc (.str (qA.getD v.t11_.toNat (dflt .op)).v.s))]) :: (ns 34 (some
  (Blk.arr 188 .thing
   (S.zfst_o
       (sub v.h_28 (0 + (xwrap .i64 ((↑v.h14_l : Int) - 2)).toNat)
        (0 + (xwrap .i64 ((↑v.h14_l : Int) - 2)).toNat + (v.h14_l - (xwrap .i64 ((↑v.h14_l : Int) - 2)).toNat)))).x0) :: (ns 52 (some (Blk.arr 188 .thing ((List.replicate 1 (dflt .thing)).set 0 (Thing.one 207 (Sc.int IntKind.i64 0)))) :: (some (Blk.arr 188 .thing (List.take (xwrap .i64 ((↑v.h14_l : Int) - 2)).toNat v.h_28 ++ [Thing.one 207 (Sc.int IntKind.i64 0)])) :: (ns 11 [])))))))))))))))), 23⟩)
 | 16 => (Ex.ret, ⟨(V.v false [C.ptr 14 0] :: (vs 3 (V.v false [C.ptr 23 0] :: ((cV 0) :: (vs 31 []))))), (some (Blk.box 29 [C.d (.sc (.str qG)), (cI qH), C.d (.sl qI qJ .val qK)]) :: (some (Blk.box 52 [(cI qL), (cI qM), C.d (.sc (.str qN))]) :: (ns 12 (some
  (Blk.box 166
   [C.own 28 .thing (v.h14_f && xdec (xwrap .i64 ((↑v.h14_l : Int) - 2) = (↑v.h14_l : Int))) 0 (xwrap .i64 ((↑v.h14_l : Int) - 2)).toNat,
    C.d (.sl qO qP .val qC), C.d (.sc (.bool qD))]) :: (ns 8 (some (Blk.box 52 [(cI 0), (cI 0), C.d (.sc (.str ByteArray.empty))]) :: (ns 4 (some (Blk.arr 188 .thing v.h_28) :: (ns 3 (some
  (Blk.box 115
   [(cI (qA.getD v.t11_.toNat (dflt .op)).code), (cI (qA.getD v.t11_.toNat (dflt .op)).arg),
    (cI (qA.getD v.t11_.toNat (dflt .op)).v.kind), (cI (qA.getD v.t11_.toNat (dflt .op)).v.n),
    C.d (.sc (.str (qA.getD v.t11_.toNat (dflt .op)).v.s))]) :: (ns 5 (some
  (Blk.box 115
   [(cI (qA.getD v.t11_.toNat (dflt .op)).code), (cI (qA.getD v.t11_.toNat (dflt .op)).arg),
    (cI (qA.getD v.t11_.toNat (dflt .op)).v.kind), (cI (qA.getD v.t11_.toNat (dflt .op)).v.n),
    C.d (.sc (.str (qA.getD v.t11_.toNat (dflt .op)).v.s))]) :: (ns 34 (some
  (Blk.arr 188 .thing
   (S.zfst_o
       (sub v.h_28 (0 + (xwrap .i64 ((↑v.h14_l : Int) - 2)).toNat)
        (0 + (xwrap .i64 ((↑v.h14_l : Int) - 2)).toNat + (v.h14_l - (xwrap .i64 ((↑v.h14_l : Int) - 2)).toNat)))).x0) :: (ns 51 []))))))))))))))), 23⟩)
 | 17 => (Ex.ret, ⟨(V.v false [C.ptr 14 0] :: (vs 3 (V.v false [C.ptr 23 0] :: (V.v false
  [C.d
      (D.sc
       (Sc.int IntKind.i64
        (S.zoxb_o (qA.getD v.t11_.toNat (dflt .op)).code
            ((S.zfst_o
                    (sub v.h_28 (0 + (xwrap .i64 ((↑v.h14_l : Int) - 2)).toNat)
                     (0 + (xwrap .i64 ((↑v.h14_l : Int) - 2)).toNat + (v.h14_l - (xwrap .i64 ((↑v.h14_l : Int) - 2)).toNat)))).x0.getD
             (0 + Int.toNat 0) (dflt .thing))
            ((S.zfst_o
                    (sub v.h_28 (0 + (xwrap .i64 ((↑v.h14_l : Int) - 2)).toNat)
                     (0 + (xwrap .i64 ((↑v.h14_l : Int) - 2)).toNat + (v.h14_l - (xwrap .i64 ((↑v.h14_l : Int) - 2)).toNat)))).x0.getD
             (0 + Int.toNat 1) (dflt .thing))).x1))] :: (vs 31 []))))), (some (Blk.box 29 [C.d (.sc (.str qG)), (cI qH), C.d (.sl qI qJ .val qK)]) :: (some (Blk.box 52 [(cI qL), (cI qM), C.d (.sc (.str qN))]) :: (ns 12 (some
  (Blk.box 166
   [C.own (117 + 7) .thing false 0 ((xwrap .i64 ((↑v.h14_l : Int) - 2)).toNat + 1), C.d (.sl qO qP .val qC), C.d (.sc (.bool qD))]) :: (ns 8 (some (Blk.box 52 [(cI 0), (cI 0), C.d (.sc (.str ByteArray.empty))]) :: (ns 8 (some
  (Blk.box 115
   [(cI (qA.getD v.t11_.toNat (dflt .op)).code), (cI (qA.getD v.t11_.toNat (dflt .op)).arg),
    (cI (qA.getD v.t11_.toNat (dflt .op)).v.kind), (cI (qA.getD v.t11_.toNat (dflt .op)).v.n),
    C.d (.sc (.str (qA.getD v.t11_.toNat (dflt .op)).v.s))]) :: (ns 5 (some
  (Blk.box 115
   [(cI (qA.getD v.t11_.toNat (dflt .op)).code), (cI (qA.getD v.t11_.toNat (dflt .op)).arg),
    (cI (qA.getD v.t11_.toNat (dflt .op)).v.kind), (cI (qA.getD v.t11_.toNat (dflt .op)).v.n),
    C.d (.sc (.str (qA.getD v.t11_.toNat (dflt .op)).v.s))]) :: (ns 34 (some
  (Blk.arr 188 .thing
   (S.zfst_o
       (sub v.h_28 (0 + (xwrap .i64 ((↑v.h14_l : Int) - 2)).toNat)
        (0 + (xwrap .i64 ((↑v.h14_l : Int) - 2)).toNat + (v.h14_l - (xwrap .i64 ((↑v.h14_l : Int) - 2)).toNat)))).x0) :: (ns 49 (some
  (Blk.arr 188 .thing
   ((List.replicate 1 (dflt .thing)).set 0
    (S.zoxb_o (qA.getD v.t11_.toNat (dflt .op)).code
        ((S.zfst_o
                (sub v.h_28 (0 + (xwrap .i64 ((↑v.h14_l : Int) - 2)).toNat)
                 (0 + (xwrap .i64 ((↑v.h14_l : Int) - 2)).toNat + (v.h14_l - (xwrap .i64 ((↑v.h14_l : Int) - 2)).toNat)))).x0.getD
         (0 + Int.toNat 0) (dflt .thing))
        ((S.zfst_o
                (sub v.h_28 (0 + (xwrap .i64 ((↑v.h14_l : Int) - 2)).toNat)
                 (0 + (xwrap .i64 ((↑v.h14_l : Int) - 2)).toNat + (v.h14_l - (xwrap .i64 ((↑v.h14_l : Int) - 2)).toNat)))).x0.getD
         (0 + Int.toNat 1) (dflt .thing))).x0)) :: (some
  (Blk.arr 188 .thing
   (List.take (xwrap .i64 ((↑v.h14_l : Int) - 2)).toNat v.h_28 ++
    [(S.zoxb_o (qA.getD v.t11_.toNat (dflt .op)).code
          ((S.zfst_o
                  (sub v.h_28 (0 + (xwrap .i64 ((↑v.h14_l : Int) - 2)).toNat)
                   (0 + (xwrap .i64 ((↑v.h14_l : Int) - 2)).toNat + (v.h14_l - (xwrap .i64 ((↑v.h14_l : Int) - 2)).toNat)))).x0.getD
           (0 + Int.toNat 0) (dflt .thing))
          ((S.zfst_o
                  (sub v.h_28 (0 + (xwrap .i64 ((↑v.h14_l : Int) - 2)).toNat)
                   (0 + (xwrap .i64 ((↑v.h14_l : Int) - 2)).toNat + (v.h14_l - (xwrap .i64 ((↑v.h14_l : Int) - 2)).toNat)))).x0.getD
           (0 + Int.toNat 1) (dflt .thing))).x0])) :: (ns 11 [])))))))))))))))), 23⟩)
 | 18 => (Ex.ret, ⟨(V.v false [C.ptr 14 0] :: (vs 3 (V.v false [C.ptr 23 0] :: (V.v false
  [C.d
      (D.sc
       (Sc.int IntKind.i64
        (S.zoxb_o (qA.getD v.t11_.toNat (dflt .op)).code
            ((S.zfst_o
                    (sub v.h_28 (0 + (xwrap .i64 ((↑v.h14_l : Int) - 2)).toNat)
                     (0 + (xwrap .i64 ((↑v.h14_l : Int) - 2)).toNat + (v.h14_l - (xwrap .i64 ((↑v.h14_l : Int) - 2)).toNat)))).x0.getD
             (0 + Int.toNat 0) (dflt .thing))
            ((S.zfst_o
                    (sub v.h_28 (0 + (xwrap .i64 ((↑v.h14_l : Int) - 2)).toNat)
                     (0 + (xwrap .i64 ((↑v.h14_l : Int) - 2)).toNat + (v.h14_l - (xwrap .i64 ((↑v.h14_l : Int) - 2)).toNat)))).x0.getD
             (0 + Int.toNat 1) (dflt .thing))).x1))] :: (vs 31 []))))), (some (Blk.box 29 [C.d (.sc (.str qG)), (cI qH), C.d (.sl qI qJ .val qK)]) :: (some (Blk.box 52 [(cI qL), (cI qM), C.d (.sc (.str qN))]) :: (ns 12 (some
  (Blk.box 166
   [C.own 28 .thing (v.h14_f && xdec (xwrap .i64 ((↑v.h14_l : Int) - 2) = (↑v.h14_l : Int))) 0 (xwrap .i64 ((↑v.h14_l : Int) - 2)).toNat,
    C.d (.sl qO qP .val qC), C.d (.sc (.bool qD))]) :: (ns 8 (some (Blk.box 52 [(cI 0), (cI 0), C.d (.sc (.str ByteArray.empty))]) :: (ns 4 (some (Blk.arr 188 .thing v.h_28) :: (ns 3 (some
  (Blk.box 115
   [(cI (qA.getD v.t11_.toNat (dflt .op)).code), (cI (qA.getD v.t11_.toNat (dflt .op)).arg),
    (cI (qA.getD v.t11_.toNat (dflt .op)).v.kind), (cI (qA.getD v.t11_.toNat (dflt .op)).v.n),
    C.d (.sc (.str (qA.getD v.t11_.toNat (dflt .op)).v.s))]) :: (ns 5 (some
  (Blk.box 115
   [(cI (qA.getD v.t11_.toNat (dflt .op)).code), (cI (qA.getD v.t11_.toNat (dflt .op)).arg),
    (cI (qA.getD v.t11_.toNat (dflt .op)).v.kind), (cI (qA.getD v.t11_.toNat (dflt .op)).v.n),
    C.d (.sc (.str (qA.getD v.t11_.toNat (dflt .op)).v.s))]) :: (ns 34 (some
  (Blk.arr 188 .thing
   (S.zfst_o
       (sub v.h_28 (0 + (xwrap .i64 ((↑v.h14_l : Int) - 2)).toNat)
        (0 + (xwrap .i64 ((↑v.h14_l : Int) - 2)).toNat + (v.h14_l - (xwrap .i64 ((↑v.h14_l : Int) - 2)).toNat)))).x0) :: (ns 48 []))))))))))))))), 23⟩)
 | 19 => (Ex.exit 0, ⟨(V.v false [C.ptr 14 0] :: (vs 3 (V.v false [C.ptr 23 0] :: (vs 32 [])))), (some (Blk.box 29 [C.d (.sc (.str qG)), (cI qH), C.d (.sl qI qJ .val qK)]) :: (some (Blk.box 52 [(cI qL), (cI qM), C.d (.sc (.str qN))]) :: (ns 12 (some (Blk.box 166 [C.own 28 .thing v.h14_f 0 v.h14_l, C.d (.sl qO qP .val qC), C.d (.sc (.bool qD))]) :: (ns 8 (some (Blk.box 52 [(cI qQ), (cI qR), C.d (.sc (.str qS))]) :: (ns 4 (some (Blk.arr 188 .thing v.h_28) :: (none :: []))))))))), 23⟩)
 | _ => (.ret, ⟨[], [], 0⟩)
def T1_zn3l_2 : V → V → V → V → V → Option Blk → Option Blk → Option Blk → Option Blk → Option Blk → Tree
 | V.v false [C.ptr 14 0], V.v false [C.ptr 23 0], V.v false [C.d (.sl qE qF .op qA)], V.v false [C.d (.sc (.int .i64 qB))], V.v false [C.d (.sc (.int .i64 t11_))], some (Blk.box 29 [C.d (.sc (.str qG)), C.d (.sc (.int .i64 qH)), C.d (.sl qI qJ .val qK)]), some (Blk.box 52 [C.d (.sc (.int .i64 qL)), C.d (.sc (.int .i64 qM)), C.d (.sc (.str qN))]), some (Blk.box 166 [C.own 28 .thing h14_f 0 h14_l, C.d (.sl qO qP .val qC), C.d (.sc (.bool qD))]), some (Blk.box 52 [C.d (.sc (.int .i64 qQ)), C.d (.sc (.int .i64 qR)), C.d (.sc (.str qS))]), some (Blk.arr 188 .thing h_28) => exT (fun j => ex_zn3l_2 qE qF qA qB qG qH qI qJ qK qL qM qN qO qP qC qD qQ qR qS j (S.zn3l_2_v qA qB qC qD ⟨t11_, h14_f, h14_l, h_28⟩)) (S.zn3l_2_j qA qB qC qD ⟨t11_, h14_f, h14_l, h_28⟩) [0, 1, 2, 3, 4, 5, 6, 7, 8, 9, 10, 11, 12, 13, 14, 15, 16, 17, 18, 19]
 | _, _, _, _, _, _, _, _, _, _ => .bad
def T_zn3l_2 (st : St) : Tree := bif okSt 37 29 23 [0, 1, 14, 23, 28] st then T1_zn3l_2 (st.env.getD 0 .any) (st.env.getD 4 .any) (st.env.getD 9 .any) (st.env.getD 10 .any) (st.env.getD 11 .any) (lk st.heap 0) (lk st.heap 1) (lk st.heap 14) (lk st.heap 23) (lk st.heap 28) else .bad
def b_zn3l_2 : Code := loopBy Try.f127 2
theorem rnd_zn3l_2 (qE : Option Bool) (qF : Bool) (qA : List (Ty .op)) (qB : Int) (qG : ByteArray) (qH : Int) (qI : Option Bool) (qJ : Bool) (qK : List (Ty .val)) (qL : Int) (qM : Int) (qN : ByteArray) (qO : Option Bool) (qP : Bool) (qC : List (Ty .val)) (qD : Bool) (qQ : Int) (qR : Int) (qS : ByteArray) (v : S.zn3l_2_V) : round2 cx_zn3l (hdI cx_zn3l (find []) [(127, Try.f127), (152, Try.f152), (166, Try.f166), (168, Try.f168), (169, Try.f169)] none 6) 127 b_zn3l_2 [28] 29 [0, 4, 5] (mk_zn3l_2 qE qF qA qB qG qH qI qJ qK qL qM qN qO qP qC qD qQ qR qS v) = (S.zn3l_2_R qA qB qC qD v).go (roundOut (mk_zn3l_2 qE qF qA qB qG qH qI qJ qK qL qM qN qO qP qC qD qQ qR qS) (ex_zn3l_2 qE qF qA qB qG qH qI qJ qK qL qM qN qO qP qC qD qQ qR qS)) := by kernel_rfl
theorem bs_zn3l_2 : loopsOf b_zn3l_2 ++ loopsInl [(127, Try.f127), (152, Try.f152), (166, Try.f166), (168, Try.f168), (169, Try.f169)] = [b_zn3l_2] := by kernel_rfl
theorem ci_zn3l_2 (qE : Option Bool) (qF : Bool) (qA : List (Ty .op)) (qB : Int) (qG : ByteArray) (qH : Int) (qI : Option Bool) (qJ : Bool) (qK : List (Ty .val)) (qL : Int) (qM : Int) (qN : ByteArray) (qO : Option Bool) (qP : Bool) (qC : List (Ty .val)) (qD : Bool) (qQ : Int) (qR : Int) (qS : ByteArray) : ∀ v j v2, Lp (S.zn3l_2_r qA qB qC qD) v = some (j, v2) → Circles Try.prog cx_zn3l b_zn3l_2 (mk_zn3l_2 qE qF qA qB qG qH qI qJ qK qL qM qN qO qP qC qD qQ qR qS v) (ex_zn3l_2 qE qF qA qB qG qH qI qJ qK qL qM qN qO qP qC qD qQ qR qS j v2).1 (ex_zn3l_2 qE qF qA qB qG qH qI qJ qK qL qM qN qO qP qC qD qQ qR qS j v2).2 :=
 loop_ok2 (L := find []) (n := 6) (hints := [(127, 2, { keep := [0, 4, 9, 10, 11], acc := [(0, some 0, .thing, 188)] })]) (cx_ok rfl) rdy_zn3l bs_zn3l_2 (consB (fun T h => by have e : (none : Option (St → Tree)) = some T := h; cases e) nilB) (fun v => (rnd_zn3l_2 qE qF qA qB qG qH qI qJ qK qL qM qN qO qP qC qD qQ qR qS v).trans (DT.go_run _ _)) (by intro j v; unfold ex_zn3l_2; split <;> rfl)
theorem mke_zn3l_2 (qE : Option Bool) (qF : Bool) (qA : List (Ty .op)) (qB : Int) (qG : ByteArray) (qH : Int) (qI : Option Bool) (qJ : Bool) (qK : List (Ty .val)) (qL : Int) (qM : Int) (qN : ByteArray) (qO : Option Bool) (qP : Bool) (qC : List (Ty .val)) (qD : Bool) (qQ : Int) (qR : Int) (qS : ByteArray) (v : S.zn3l_2_V) : mk_zn3l_2 qE qF qA qB qG qH qI qJ qK qL qM qN qO qP qC qD qQ qR qS v = ⟨envOf 37 [(0, V.v false [C.ptr 14 0]), (4, V.v false [C.ptr 23 0]), (9, V.v false [C.d (.sl qE qF .op qA)]), (10, (cV qB)), (11, (cV v.t11_))], heapOf 29 [(0, some (Blk.box 29 [C.d (.sc (.str qG)), (cI qH), C.d (.sl qI qJ .val qK)])), (1, some (Blk.box 52 [(cI qL), (cI qM), C.d (.sc (.str qN))])), (14, some (Blk.box 166 [C.own 28 .thing v.h14_f 0 v.h14_l, C.d (.sl qO qP .val qC), C.d (.sc (.bool qD))])), (23, some (Blk.box 52 [(cI qQ), (cI qR), C.d (.sc (.str qS))])), (28, some (Blk.arr 188 .thing v.h_28))], 23⟩ := by kernel_rfl
theorem lo1_zn3l_2 (e0 : V) (e4 : V) (e9 : V) (e10 : V) (e11 : V) (h0 : Option Blk) (h1 : Option Blk) (h14 : Option Blk) (h23 : Option Blk) (h28 : Option Blk) e st2 (h : (T1_zn3l_2 e0 e4 e9 e10 e11 h0 h1 h14 h23 h28).eval = some (e, st2)) : Circles Try.prog cx_zn3l b_zn3l_2 ⟨envOf 37 [(0, e0), (4, e4), (9, e9), (10, e10), (11, e11)], heapOf 29 [(0, h0), (1, h1), (14, h14), (23, h23), (28, h28)], 23⟩ e st2 := by
 unfold T1_zn3l_2 at h
 split at h
 ·have := loop_tree (mk := mk_zn3l_2 _ _ _ _ _ _ _ _ _ _ _ _ _ _ _ _ _ _ _) (ci_zn3l_2 _ _ _ _ _ _ _ _ _ _ _ _ _ _ _ _ _ _ _) _ _ e st2 h
  rw [mke_zn3l_2] at this
  exact this
 ·cases h
theorem lok_zn3l_2 : LoopOk Try.prog cx_zn3l b_zn3l_2 T_zn3l_2 := by
 intro st e st2 h
 unfold T_zn3l_2 at h
 cases hk : okSt 37 29 23 [0, 1, 14, 23, 28] st with
 | false => rw [hk] at h; cases h
 | true =>
  rw [hk] at h
  exact circles_keep (ks := [0, 4, 9, 10, 11]) hk (lo1_zn3l_2 _ _ _ _ _ _ _ _ _ _ e st2 h)
structure S.zn3l_T where
 x0 : Int
 x1 : Int
 x2 : ByteArray
 x3 : Int
 deriving Inhabited
def S.zn3l_R (a0_0 : ByteArray) (a0_1 : Int) (a0_2 : List (Ty .val)) (a1 : List (Ty .op)) : DT S.zn3l_T :=
let y0 : Int := (↑a1.length : Int)
let y1 : S.zn3l_2_V := { t11_ := 0, h14_f := true, h14_l := 0, h_28 := [] : S.zn3l_2_V }
let y2 : S.zn3l_2_V := S.zn3l_2_v a1 y0 a0_2 false y1
let y3 : Int := (a1.getD y2.t11_.toNat (dflt .op)).code
let y4 : Nat := Int.toNat 0
let y5 : Nat := Int.toNat 1
let y6 : Int := (S.zoxb_o y3 ([].getD y4 (dflt .thing)) ([].getD y5 (dflt .thing))).x1
let y7 : List (Ty .thing) := y2.h_28
let y8 : Nat := y2.h14_l
let y9 : Int := (↑y8 : Int)
let y10 : Nat := (xwrap .i64 (y9 - 2)).toNat
let y11 : Nat := 0 + y10
let y12 : List (Ty .thing) := (S.zfst_o (sub y7 y11 (y11 + (y8 - y10)))).x0
let y13 : Nat := 0 + y4
let y14 : Int := (S.zoxb_o y3 (y12.getD y13 (dflt .thing)) (y12.getD (0 + y5) (dflt .thing))).x1
let y15 : Ty .thing := y7.getD y13 (dflt .thing)
let y16 : Val := S.thingV y15
(.br (S.zk66_is a1)
(.br (xnot (S.zk66_o a1).x0)
(.leaf ⟨0, 0, ByteArray.empty, 1⟩)
(.br (S.zwl5_is a0_0 a0_1 a0_2)
(.br (xnot (S.zwl5_o a0_0 a0_1 a0_2).x0)
(.leaf ⟨0, 0, ByteArray.empty, 1⟩)
(.br (S.zn3l_2_j a1 y0 a0_2 false y1 0)
(.leaf ⟨0, 0, ByteArray.empty, 0⟩)
(.br (S.zn3l_2_j a1 y0 a0_2 false y1 1)
(.leaf ⟨0, 0, ByteArray.empty, 3⟩)
(.br (S.zn3l_2_j a1 y0 a0_2 false y1 2)
(.leaf ⟨0, 0, ByteArray.empty, 0⟩)
(.br (S.zn3l_2_j a1 y0 a0_2 false y1 3)
(.leaf ⟨0, 0, ByteArray.empty, 2⟩)
(.br (S.zn3l_2_j a1 y0 a0_2 false y1 4)
(.leaf ⟨0, 0, ByteArray.empty, 5⟩)
(.br (S.zn3l_2_j a1 y0 a0_2 false y1 5)
(.leaf ⟨0, 0, ByteArray.empty, 0⟩)
(.br (S.zn3l_2_j a1 y0 a0_2 false y1 6)
(.leaf ⟨0, 0, ByteArray.empty, 2⟩)
(.br (S.zn3l_2_j a1 y0 a0_2 false y1 7)
(.leaf ⟨0, 0, ByteArray.empty, 5⟩)
(.br (S.zn3l_2_j a1 y0 a0_2 false y1 8)
(.leaf ⟨0, 0, ByteArray.empty, 0⟩)
(.br (S.zn3l_2_j a1 y0 a0_2 false y1 9)
(.leaf ⟨0, 0, ByteArray.empty, 2⟩)
(.br (S.zn3l_2_j a1 y0 a0_2 false y1 10)
(.leaf ⟨0, 0, ByteArray.empty, 0⟩)
(.br (S.zn3l_2_j a1 y0 a0_2 false y1 11)
(.leaf ⟨0, 0, ByteArray.empty, 0⟩)
(.br (S.zn3l_2_j a1 y0 a0_2 false y1 12)
(.leaf ⟨0, 0, ByteArray.empty, y6⟩)
(.br (S.zn3l_2_j a1 y0 a0_2 false y1 13)
(.leaf ⟨0, 0, ByteArray.empty, y6⟩)
(.br (S.zn3l_2_j a1 y0 a0_2 false y1 14)
(.leaf ⟨0, 0, ByteArray.empty, 2⟩)
(.br (S.zn3l_2_j a1 y0 a0_2 false y1 15)
(.leaf ⟨0, 0, ByteArray.empty, 0⟩)
(.br (S.zn3l_2_j a1 y0 a0_2 false y1 16)
(.leaf ⟨0, 0, ByteArray.empty, 0⟩)
(.br (S.zn3l_2_j a1 y0 a0_2 false y1 17)
(.leaf ⟨0, 0, ByteArray.empty, y14⟩)
(.br (S.zn3l_2_j a1 y0 a0_2 false y1 18)
(.leaf ⟨0, 0, ByteArray.empty, y14⟩)
(.br (S.zn3l_2_j a1 y0 a0_2 false y1 19)
(.br (xneI y9 1)
(.leaf ⟨0, 0, ByteArray.empty, 2⟩)
(.br (xdec (0 ≤ 0) && xdec (0 < y9))
(.br (xdec (y13 < y7.length))
(.br (S.thingIs y15)
(.leaf ⟨y16.kind, y16.n, y16.s, 0⟩)
.fail)
.fail)
.fail))
.fail)))))))))))))))))))))
.fail))
.fail)
def S.zn3l (a0_0 : ByteArray) (a0_1 : Int) (a0_2 : List (Ty .val)) (a1 : List (Ty .op)) : Option S.zn3l_T := (S.zn3l_R a0_0 a0_1 a0_2 a1).run
def S.zn3l_is (a0_0 : ByteArray) (a0_1 : Int) (a0_2 : List (Ty .val)) (a1 : List (Ty .op)) : Bool := (S.zn3l a0_0 a0_1 a0_2 a1).isSome
def S.zn3l_o (a0_0 : ByteArray) (a0_1 : Int) (a0_2 : List (Ty .val)) (a1 : List (Ty .op)) : S.zn3l_T := (S.zn3l a0_0 a0_1 a0_2 a1).getD default
def ret_zn3l (b : Bool) (r : S.zn3l_T) : Ret := ⟨b, none, [(true, [C.d (.sc (.int .i64 r.x0)), C.d (.sc (.int .i64 r.x1)), C.d (.sc (.str r.x2))]), (false, [C.d (.sc (.int .i64 r.x3))])]⟩
def g_zn3l : Con
 | [(true, [.sc (.str a0_0), .sc (.int .i64 a0_1), .sl a0_2n a0_2f .val a0_2]), (false, [.sl a1n a1f .op a1])] => some (ret_zn3l (S.zn3l_is a0_0 a0_1 a0_2 a1) (S.zn3l_o a0_0 a0_1 a0_2 a1))
 | _ => none
theorem raw_zn3l (a0_0 : ByteArray) (a0_1 : Int) (a0_2n : Option Bool) (a0_2f : Bool) (a0_2 : List (Ty .val)) (a1n : Option Bool) (a1f : Bool) (a1 : List (Ty .op)) : evR2 cx_zn3l (hdI cx_zn3l (find [(2, T_zn3l_2)]) [(127, Try.f127), (152, Try.f152), (166, Try.f166), (168, Try.f168), (169, Try.f169)] none 6) none Try.f89 89 none [(true, [.sc (.str a0_0), .sc (.int .i64 a0_1), .sl a0_2n a0_2f .val a0_2]), (false, [.sl a1n a1f .op a1])] some = (S.zn3l_R a0_0 a0_1 a0_2 a1).go (ret_zn3l true) := by kernel_rfl
theorem bs_zn3l : loopsIn Try.f89 [(127, Try.f127), (152, Try.f152), (166, Try.f166), (168, Try.f168), (169, Try.f169)] = [b_zn3l_2] := by kernel_rfl
theorem zn3l_ok : Stands Try.prog tyTab 89 g_zn3l := by
 refine stands3 (L := find [(2, T_zn3l_2)]) (n := 6) (hints := [(127, 2, { keep := [0, 4, 9, 10, 11], acc := [(0, some 0, .thing, 188)] })]) (cx_ok rfl) rdy_zn3l ⟨by kernel_rfl, by kernel_rfl, by kernel_rfl⟩ bs_zn3l (consB (fun T h => by have e : T_zn3l_2 = T := Option.some.inj (show some T_zn3l_2 = some T from h); exact e ▸ lok_zn3l_2) nilB) (fun das r hG hr => ?_)
 unfold g_zn3l at hG
 split at hG
 ·rename_i a0_0 a0_1 a0_2n a0_2f a0_2 a1n a1f a1
  injection hG with hG; subst hG
  exact ⟨none, true, win default ((raw_zn3l a0_0 a0_1 a0_2n a0_2f a0_2 a1n a1f a1).trans (DT.go_run _ _)) hr⟩
 ·cases hG
end
end Go.Eng
