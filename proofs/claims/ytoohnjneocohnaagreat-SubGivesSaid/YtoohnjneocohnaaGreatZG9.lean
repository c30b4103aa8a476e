/- Contracts, laid by program. -/
import Derived.Test.YtoohnjneocohnaaGreatZG8
set_option maxHeartbeats 2000000
set_option maxRecDepth 10000
set_option linter.unusedVariables false
namespace Go.Eng
noncomputable section
open Go Go.Eng Go.Proofs Go.Eng.Tab
abbrev cx_zmsz : Cx := mkCx2 tyTab [] [] [] []
theorem rdy_zmsz : Ready Tryz.prog tyTab [] [] [] := ⟨noneG2, noneI2, noneF2⟩
structure S.zmsz_T where
 x0 : Lm
 x1 : Nat
 deriving Inhabited
def S.zmsz_R  : DT S.zmsz_T :=
(.leaf ⟨[], 0⟩)
def S.zmsz  : Option S.zmsz_T := (S.zmsz_R ).run
def S.zmsz_is  : Bool := (S.zmsz ).isSome
def S.zmsz_o  : S.zmsz_T := (S.zmsz ).getD default
def ret_zmsz (b : Bool) (r : S.zmsz_T) : Ret := ⟨b, some (45, (⟨.mat, r.x0⟩ : (t : ET) × List (Ty t))), [(false, [C.own 4 .mat false 0 r.x1])]⟩
def g_zmsz : Con
 | [(false, [.sl (some true) true .mat []])] => some (ret_zmsz (S.zmsz_is ) (S.zmsz_o ))
 | _ => none
theorem raw_zmsz  : evR2 cx_zmsz (hdI cx_zmsz (find []) [] none 0) none Tryz.f45 45 (some 45) [(false, [.sl (some true) true .mat []])] some = (S.zmsz_R ).go (ret_zmsz true) := by kernel_rfl
theorem bs_zmsz : loopsIn Tryz.f45 [] = [] := by kernel_rfl
theorem zmsz_ok : Stands Tryz.prog tyTab 45 g_zmsz := by
 refine stands3 (L := find []) (n := 0) (hints := []) (cx_ok rfl) rdy_zmsz ⟨by kernel_rfl, by kernel_rfl, by kernel_rfl⟩ bs_zmsz nilB (fun das r hG hr => ?_)
 unfold g_zmsz at hG
 split at hG
 ·injection hG with hG; subst hG
  exact ⟨(some 45), true, win default ((raw_zmsz ).trans (DT.go_run _ _)) hr⟩
 ·cases hG
abbrev cx_zamm : Cx := mkCx2 tyTab [] [] [] []
theorem rdy_zamm : Ready Tryz.prog tyTab [] [] [] := ⟨noneG2, noneI2, noneF2⟩
structure S.zamm_T where
 x0 : Lm
 x1 : Nat
 deriving Inhabited
def S.zamm_R (a0 : Lm) : DT S.zamm_T :=
let y0 : Nat := 0 + a0.length
(.br (xdec (0 ≤ (List.replicate 0 (dflt .mat)).length) && xdec (y0 ≤ 1048576))
(.leaf ⟨List.take 0 [] ++ a0, y0⟩)
.fail)
def S.zamm (a0 : Lm) : Option S.zamm_T := (S.zamm_R a0).run
def S.zamm_is (a0 : Lm) : Bool := (S.zamm a0).isSome
def S.zamm_o (a0 : Lm) : S.zamm_T := (S.zamm a0).getD default
def ret_zamm (b : Bool) (r : S.zamm_T) : Ret := ⟨b, some (45, (⟨.mat, r.x0⟩ : (t : ET) × List (Ty t))), [(false, [C.own 5 .mat false 0 r.x1])]⟩
def g_zamm : Con
 | [(false, [.sl (some false) false .mat a0])] => some (ret_zamm (S.zamm_is a0) (S.zamm_o a0))
 | _ => none
theorem raw_zamm (a0 : Lm) : evR2 cx_zamm (hdI cx_zamm (find []) [] none 0) none Tryz.f45 45 (some 45) [(false, [.sl (some false) false .mat a0])] some = (S.zamm_R a0).go (ret_zamm true) := by kernel_rfl
theorem bs_zamm : loopsIn Tryz.f45 [] = [] := by kernel_rfl
theorem zamm_ok : Stands Tryz.prog tyTab 45 g_zamm := by
 refine stands3 (L := find []) (n := 0) (hints := []) (cx_ok rfl) rdy_zamm ⟨by kernel_rfl, by kernel_rfl, by kernel_rfl⟩ bs_zamm nilB (fun das r hG hr => ?_)
 unfold g_zamm at hG
 split at hG
 ·rename_i a0
  injection hG with hG; subst hG
  exact ⟨(some 45), true, win default ((raw_zamm a0).trans (DT.go_run _ _)) hr⟩
 ·cases hG
def g_zbja : Con := fun das => match das with | [(false, [.sl _ _ t2 l])] => if e : t2 = .mat then some (ret_zamm (S.zamm_is (e ▸ l : List (Ty .mat))) (S.zamm_o (e ▸ l : List (Ty .mat)))) else none | _ => none
theorem zbja_ok : Stands Tryz.prog tyTab 45 g_zbja := nil_split (t := .mat) (r := fun l => ret_zamm (S.zamm_is l) (S.zamm_o l)) zmsz_ok zamm_ok (r0 := ret_zmsz true (S.zmsz_o)) (by kernel_rfl) ⟨by kernel_rfl, by kernel_rfl, fun nm => by kernel_rfl⟩ (fun l => rfl)
abbrev cx_zc6y : Cx := mkCx2 tyTab [(32, g_z3ps), (33, g_znj4)] [] [] []
theorem rdy_zc6y : Ready Tryz.prog tyTab [(32, g_z3ps), (33, g_znj4)] [] [] := ⟨consG2 z3ps_ok (consG2 znj4_ok (noneG2)), noneI2, noneF2⟩
structure S.zc6y_T where
 x0 : Bool
 deriving Inhabited
def S.zc6y_R (a0_0 a0_1 : Int) (a0_2 : Ls) (a0_7 : Lr) (a0_8 a0_9 a0_10 : Int) (a0_11 : Lm) (a0_13 : Int) (a0_14 : Bool) : DT S.zc6y_T :=
let y0 : Bool := xnot (xneI a0_8 (-1))
let y1 : Bool := xeqI (↑a0_7.length : Int) 0
let y2 : Bool := xeqI a0_10 (xwrap .i64 (a0_9 + (↑a0_11.length : Int)))
(.br (xdec (a0_0 < 0))
(.leaf ⟨false⟩)
(.br (xdec (a0_1 < 0))
(.leaf ⟨false⟩)
(.br (S.z3ps_is a0_2 a0_7 a0_8)
(.br (xnot (S.z3ps_o a0_2 a0_7 a0_8).x0)
(.leaf ⟨false⟩)
(.br (S.znj4_is a0_9 a0_10 a0_11)
(.br (xnot (S.znj4_o a0_9 a0_10 a0_11).x0)
(.leaf ⟨false⟩)
(.br (xeqI a0_13 0)
(.br (y0)
(.leaf ⟨xnot a0_14⟩)
(.leaf ⟨false⟩))
(.br (xeqI a0_13 1)
(.br (y0)
(.leaf ⟨false⟩)
(.br (y1)
(.br (xnot a0_14)
(.leaf ⟨true⟩)
(.leaf ⟨y2⟩))
(.leaf ⟨false⟩)))
(.br (xeqI a0_13 2)
(.br (y1)
(.br (xnot a0_14)
(.leaf ⟨true⟩)
(.leaf ⟨y2⟩))
(.leaf ⟨false⟩))
(.leaf ⟨false⟩)))))
.fail))
.fail)))
def S.zc6y (a0_0 a0_1 : Int) (a0_2 : Ls) (a0_7 : Lr) (a0_8 a0_9 a0_10 : Int) (a0_11 : Lm) (a0_13 : Int) (a0_14 : Bool) : Option S.zc6y_T := (S.zc6y_R a0_0 a0_1 a0_2 a0_7 a0_8 a0_9 a0_10 a0_11 a0_13 a0_14).run
def S.zc6y_is (a0_0 a0_1 : Int) (a0_2 : Ls) (a0_7 : Lr) (a0_8 a0_9 a0_10 : Int) (a0_11 : Lm) (a0_13 : Int) (a0_14 : Bool) : Bool := (S.zc6y a0_0 a0_1 a0_2 a0_7 a0_8 a0_9 a0_10 a0_11 a0_13 a0_14).isSome
def S.zc6y_o (a0_0 a0_1 : Int) (a0_2 : Ls) (a0_7 : Lr) (a0_8 a0_9 a0_10 : Int) (a0_11 : Lm) (a0_13 : Int) (a0_14 : Bool) : S.zc6y_T := (S.zc6y a0_0 a0_1 a0_2 a0_7 a0_8 a0_9 a0_10 a0_11 a0_13 a0_14).getD default
def ret_zc6y (b : Bool) (r : S.zc6y_T) : Ret := ⟨b, none, [(false, [cB r.x0])]⟩
def g_zc6y : Con
 | [(true, [.sc (.int .i64 a0_0), .sc (.int .i64 a0_1), .sl a0_2n a0_2f .step a0_2, .sc (.int .i64 a0_3), .sc (.int .i64 a0_4), .sc (.int .i64 a0_5), .sc (.int .i64 a0_6), .sl a0_7n a0_7f .run a0_7, .sc (.int .i64 a0_8), .sc (.int .i64 a0_9), .sc (.int .i64 a0_10), .sl a0_11n a0_11f .mat a0_11, .sc (.bool a0_12), .sc (.int .i64 a0_13), .sc (.bool a0_14)])] => some (ret_zc6y (S.zc6y_is a0_0 a0_1 a0_2 a0_7 a0_8 a0_9 a0_10 a0_11 a0_13 a0_14) (S.zc6y_o a0_0 a0_1 a0_2 a0_7 a0_8 a0_9 a0_10 a0_11 a0_13 a0_14))
 | _ => none
theorem raw_zc6y (a0_0 a0_1 : Int) (a0_2n : OBz) (a0_2f : Bool) (a0_2 : Ls) (a0_3 a0_4 a0_5 a0_6 : Int) (a0_7n : OBz) (a0_7f : Bool) (a0_7 : Lr) (a0_8 a0_9 a0_10 : Int) (a0_11n : OBz) (a0_11f : Bool) (a0_11 : Lm) (a0_12 : Bool) (a0_13 : Int) (a0_14 : Bool) : evR2 cx_zc6y (hdI cx_zc6y (find []) [] none 0) none Tryz.f15 15 none [(true, [dI a0_0, dI a0_1, .sl a0_2n a0_2f .step a0_2, dI a0_3, dI a0_4, dI a0_5, dI a0_6, .sl a0_7n a0_7f .run a0_7, dI a0_8, dI a0_9, dI a0_10, .sl a0_11n a0_11f .mat a0_11, .sc (.bool a0_12), dI a0_13, .sc (.bool a0_14)])] some = (S.zc6y_R a0_0 a0_1 a0_2 a0_7 a0_8 a0_9 a0_10 a0_11 a0_13 a0_14).go (ret_zc6y true) := by kernel_rfl
theorem bs_zc6y : loopsIn Tryz.f15 [] = [] := by kernel_rfl
theorem zc6y_ok : Stands Tryz.prog tyTab 15 g_zc6y := by
 refine stands3 (L := find []) (n := 0) (hints := []) (cx_ok rfl) rdy_zc6y ⟨by kernel_rfl, by kernel_rfl, by kernel_rfl⟩ bs_zc6y nilB (fun das r hG hr => ?_)
 unfold g_zc6y at hG
 split at hG
 ·rename_i a0_0 a0_1 a0_2n a0_2f a0_2 a0_3 a0_4 a0_5 a0_6 a0_7n a0_7f a0_7 a0_8 a0_9 a0_10 a0_11n a0_11f a0_11 a0_12 a0_13 a0_14
  injection hG with hG; subst hG
  exact ⟨none, true, win default ((raw_zc6y a0_0 a0_1 a0_2n a0_2f a0_2 a0_3 a0_4 a0_5 a0_6 a0_7n a0_7f a0_7 a0_8 a0_9 a0_10 a0_11n a0_11f a0_11 a0_12 a0_13 a0_14).trans (DT.go_run _ _)) hr⟩
 ·cases hG
abbrev cx_zihi : Cx := mkCx2 tyTab [(34, g_zi5w), (35, g_zzaz)] [] [] []
theorem rdy_zihi : Ready Tryz.prog tyTab [(34, g_zi5w), (35, g_zzaz)] [] [] := ⟨consG2 zi5w_ok (consG2 zzaz_ok (noneG2)), noneI2, noneF2⟩
structure S.zihi_T where
 x0 : Bool
 deriving Inhabited
def S.zihi_R (a0_0 a0_1 : Int) (a0_2 : Ls) (a0_3 a0_4 a0_5 a0_6 : Int) (a0_7 : Lr) (a0_8 a0_9 a0_10 : Int) (a0_11 : Lm) (a0_12 : Bool) (a0_13 : Int) (a0_14 : Bool) (a1_0 a1_1 : Int) (a1_2 : Ls) (a1_3 a1_4 a1_5 a1_6 : Int) (a1_7 : Lr) (a1_8 a1_9 a1_10 : Int) (a1_11 : Lm) (a1_12 : Bool) (a1_13 : Int) (a1_14 : Bool) : DT S.zihi_T :=
(.br (xeqI a0_0 a1_0)
(.br (xeqI a0_1 a1_1)
(.br (a0_12 == a1_12)
(.br (xeqI a0_13 a1_13)
(.br (a0_14 == a1_14)
(.br (S.zi5w_is a0_2 a0_3 a0_4 a0_5 a0_6 a0_7 a0_8 a1_2 a1_3 a1_4 a1_5 a1_6 a1_7 a1_8)
(.br ((S.zi5w_o a0_2 a0_3 a0_4 a0_5 a0_6 a0_7 a0_8 a1_2 a1_3 a1_4 a1_5 a1_6 a1_7 a1_8).x0)
(.br (S.zzaz_is a0_9 a0_10 a0_11 a1_9 a1_10 a1_11)
(.leaf ⟨(S.zzaz_o a0_9 a0_10 a0_11 a1_9 a1_10 a1_11).x0⟩)
.fail)
(.leaf ⟨false⟩))
.fail)
(.leaf ⟨false⟩))
(.leaf ⟨false⟩))
(.leaf ⟨false⟩))
(.leaf ⟨false⟩))
(.leaf ⟨false⟩))
def S.zihi (a0_0 a0_1 : Int) (a0_2 : Ls) (a0_3 a0_4 a0_5 a0_6 : Int) (a0_7 : Lr) (a0_8 a0_9 a0_10 : Int) (a0_11 : Lm) (a0_12 : Bool) (a0_13 : Int) (a0_14 : Bool) (a1_0 a1_1 : Int) (a1_2 : Ls) (a1_3 a1_4 a1_5 a1_6 : Int) (a1_7 : Lr) (a1_8 a1_9 a1_10 : Int) (a1_11 : Lm) (a1_12 : Bool) (a1_13 : Int) (a1_14 : Bool) : Option S.zihi_T := (S.zihi_R a0_0 a0_1 a0_2 a0_3 a0_4 a0_5 a0_6 a0_7 a0_8 a0_9 a0_10 a0_11 a0_12 a0_13 a0_14 a1_0 a1_1 a1_2 a1_3 a1_4 a1_5 a1_6 a1_7 a1_8 a1_9 a1_10 a1_11 a1_12 a1_13 a1_14).run
def S.zihi_is (a0_0 a0_1 : Int) (a0_2 : Ls) (a0_3 a0_4 a0_5 a0_6 : Int) (a0_7 : Lr) (a0_8 a0_9 a0_10 : Int) (a0_11 : Lm) (a0_12 : Bool) (a0_13 : Int) (a0_14 : Bool) (a1_0 a1_1 : Int) (a1_2 : Ls) (a1_3 a1_4 a1_5 a1_6 : Int) (a1_7 : Lr) (a1_8 a1_9 a1_10 : Int) (a1_11 : Lm) (a1_12 : Bool) (a1_13 : Int) (a1_14 : Bool) : Bool := (S.zihi a0_0 a0_1 a0_2 a0_3 a0_4 a0_5 a0_6 a0_7 a0_8 a0_9 a0_10 a0_11 a0_12 a0_13 a0_14 a1_0 a1_1 a1_2 a1_3 a1_4 a1_5 a1_6 a1_7 a1_8 a1_9 a1_10 a1_11 a1_12 a1_13 a1_14).isSome
def S.zihi_o (a0_0 a0_1 : Int) (a0_2 : Ls) (a0_3 a0_4 a0_5 a0_6 : Int) (a0_7 : Lr) (a0_8 a0_9 a0_10 : Int) (a0_11 : Lm) (a0_12 : Bool) (a0_13 : Int) (a0_14 : Bool) (a1_0 a1_1 : Int) (a1_2 : Ls) (a1_3 a1_4 a1_5 a1_6 : Int) (a1_7 : Lr) (a1_8 a1_9 a1_10 : Int) (a1_11 : Lm) (a1_12 : Bool) (a1_13 : Int) (a1_14 : Bool) : S.zihi_T := (S.zihi a0_0 a0_1 a0_2 a0_3 a0_4 a0_5 a0_6 a0_7 a0_8 a0_9 a0_10 a0_11 a0_12 a0_13 a0_14 a1_0 a1_1 a1_2 a1_3 a1_4 a1_5 a1_6 a1_7 a1_8 a1_9 a1_10 a1_11 a1_12 a1_13 a1_14).getD default
def ret_zihi (b : Bool) (r : S.zihi_T) : Ret := ⟨b, none, [(false, [cB r.x0])]⟩
def g_zihi : Con
 | [(true, [.sc (.int .i64 a0_0), .sc (.int .i64 a0_1), .sl a0_2n a0_2f .step a0_2, .sc (.int .i64 a0_3), .sc (.int .i64 a0_4), .sc (.int .i64 a0_5), .sc (.int .i64 a0_6), .sl a0_7n a0_7f .run a0_7, .sc (.int .i64 a0_8), .sc (.int .i64 a0_9), .sc (.int .i64 a0_10), .sl a0_11n a0_11f .mat a0_11, .sc (.bool a0_12), .sc (.int .i64 a0_13), .sc (.bool a0_14)]), (true, [.sc (.int .i64 a1_0), .sc (.int .i64 a1_1), .sl a1_2n a1_2f .step a1_2, .sc (.int .i64 a1_3), .sc (.int .i64 a1_4), .sc (.int .i64 a1_5), .sc (.int .i64 a1_6), .sl a1_7n a1_7f .run a1_7, .sc (.int .i64 a1_8), .sc (.int .i64 a1_9), .sc (.int .i64 a1_10), .sl a1_11n a1_11f .mat a1_11, .sc (.bool a1_12), .sc (.int .i64 a1_13), .sc (.bool a1_14)])] => some (ret_zihi (S.zihi_is a0_0 a0_1 a0_2 a0_3 a0_4 a0_5 a0_6 a0_7 a0_8 a0_9 a0_10 a0_11 a0_12 a0_13 a0_14 a1_0 a1_1 a1_2 a1_3 a1_4 a1_5 a1_6 a1_7 a1_8 a1_9 a1_10 a1_11 a1_12 a1_13 a1_14) (S.zihi_o a0_0 a0_1 a0_2 a0_3 a0_4 a0_5 a0_6 a0_7 a0_8 a0_9 a0_10 a0_11 a0_12 a0_13 a0_14 a1_0 a1_1 a1_2 a1_3 a1_4 a1_5 a1_6 a1_7 a1_8 a1_9 a1_10 a1_11 a1_12 a1_13 a1_14))
 | _ => none
theorem raw_zihi (a0_0 a0_1 : Int) (a0_2n : OBz) (a0_2f : Bool) (a0_2 : Ls) (a0_3 a0_4 a0_5 a0_6 : Int) (a0_7n : OBz) (a0_7f : Bool) (a0_7 : Lr) (a0_8 a0_9 a0_10 : Int) (a0_11n : OBz) (a0_11f : Bool) (a0_11 : Lm) (a0_12 : Bool) (a0_13 : Int) (a0_14 : Bool) (a1_0 a1_1 : Int) (a1_2n : OBz) (a1_2f : Bool) (a1_2 : Ls) (a1_3 a1_4 a1_5 a1_6 : Int) (a1_7n : OBz) (a1_7f : Bool) (a1_7 : Lr) (a1_8 a1_9 a1_10 : Int) (a1_11n : OBz) (a1_11f : Bool) (a1_11 : Lm) (a1_12 : Bool) (a1_13 : Int) (a1_14 : Bool) : evR2 cx_zihi (hdI cx_zihi (find []) [] none 0) none Tryz.f16 16 none [(true, [dI a0_0, dI a0_1, .sl a0_2n a0_2f .step a0_2, dI a0_3, dI a0_4, dI a0_5, dI a0_6, .sl a0_7n a0_7f .run a0_7, dI a0_8, dI a0_9, dI a0_10, .sl a0_11n a0_11f .mat a0_11, .sc (.bool a0_12), dI a0_13, .sc (.bool a0_14)]), (true, [dI a1_0, dI a1_1, .sl a1_2n a1_2f .step a1_2, dI a1_3, dI a1_4, dI a1_5, dI a1_6, .sl a1_7n a1_7f .run a1_7, dI a1_8, dI a1_9, dI a1_10, .sl a1_11n a1_11f .mat a1_11, .sc (.bool a1_12), dI a1_13, .sc (.bool a1_14)])] some = (S.zihi_R a0_0 a0_1 a0_2 a0_3 a0_4 a0_5 a0_6 a0_7 a0_8 a0_9 a0_10 a0_11 a0_12 a0_13 a0_14 a1_0 a1_1 a1_2 a1_3 a1_4 a1_5 a1_6 a1_7 a1_8 a1_9 a1_10 a1_11 a1_12 a1_13 a1_14).go (ret_zihi true) := by kernel_rfl
theorem bs_zihi : loopsIn Tryz.f16 [] = [] := by kernel_rfl
theorem zihi_ok : Stands Tryz.prog tyTab 16 g_zihi := by
 refine stands3 (L := find []) (n := 0) (hints := []) (cx_ok rfl) rdy_zihi ⟨by kernel_rfl, by kernel_rfl, by kernel_rfl⟩ bs_zihi nilB (fun das r hG hr => ?_)
 unfold g_zihi at hG
 split at hG
 ·rename_i a0_0 a0_1 a0_2n a0_2f a0_2 a0_3 a0_4 a0_5 a0_6 a0_7n a0_7f a0_7 a0_8 a0_9 a0_10 a0_11n a0_11f a0_11 a0_12 a0_13 a0_14 a1_0 a1_1 a1_2n a1_2f a1_2 a1_3 a1_4 a1_5 a1_6 a1_7n a1_7f a1_7 a1_8 a1_9 a1_10 a1_11n a1_11f a1_11 a1_12 a1_13 a1_14
  injection hG with hG; subst hG
  exact ⟨none, true, win default ((raw_zihi a0_0 a0_1 a0_2n a0_2f a0_2 a0_3 a0_4 a0_5 a0_6 a0_7n a0_7f a0_7 a0_8 a0_9 a0_10 a0_11n a0_11f a0_11 a0_12 a0_13 a0_14 a1_0 a1_1 a1_2n a1_2f a1_2 a1_3 a1_4 a1_5 a1_6 a1_7n a1_7f a1_7 a1_8 a1_9 a1_10 a1_11n a1_11f a1_11 a1_12 a1_13 a1_14).trans (DT.go_run _ _)) hr⟩
 ·cases hG
abbrev cx_z3am : Cx := mkCx2 tyTab [(20, g_zpf4)] [] [] []
theorem rdy_z3am : Ready Tryz.prog tyTab [(20, g_zpf4)] [] [] := ⟨consG2 zpf4_ok (noneG2), noneI2, noneF2⟩
structure S.z3am_T where
 x0 : Int
 x1 : Int
 x2 : Ls
 x3 : Int
 x4 : Int
 x5 : Int
 x6 : Int
 x7 : Lr
 x8 : Int
 x9 : Int
 x10 : Int
 x11 : Lm
 x12 : Bool
 x13 : Int
 x14 : Bool
 deriving Inhabited
def S.z3am_R (a0 a1 : Int) (a2_0 : Ls) (a2_1 a2_2 a2_3 a2_4 : Int) : DT S.z3am_T :=
let y0 := S.zpf4_o a2_0 a2_1 a2_2 a2_3 a2_4
(.leaf ⟨a0, a1, y0.x0, y0.x1, y0.x2, y0.x3, y0.x4, y0.x5, y0.x6, 0, 0, [], false, 0, false⟩)
def S.z3am (a0 a1 : Int) (a2_0 : Ls) (a2_1 a2_2 a2_3 a2_4 : Int) : Option S.z3am_T := (S.z3am_R a0 a1 a2_0 a2_1 a2_2 a2_3 a2_4).run
def S.z3am_is (a0 a1 : Int) (a2_0 : Ls) (a2_1 a2_2 a2_3 a2_4 : Int) : Bool := (S.z3am a0 a1 a2_0 a2_1 a2_2 a2_3 a2_4).isSome
def S.z3am_o (a0 a1 : Int) (a2_0 : Ls) (a2_1 a2_2 a2_3 a2_4 : Int) : S.z3am_T := (S.z3am a0 a1 a2_0 a2_1 a2_2 a2_3 a2_4).getD default
def ret_z3am (b : Bool) (r : S.z3am_T) : Ret := ⟨b, none, [(true,
    [(cI r.x0), (cI r.x1), cL .step r.x2, (cI r.x3),
     (cI r.x4), (cI r.x5), (cI r.x6), cL .run r.x7,
     (cI r.x8), (cI r.x9), (cI r.x10), cL .mat r.x11,
     cB r.x12, (cI r.x13), cB r.x14])]⟩
def g_z3am : Con
 | [(false, [.sc (.int .i64 a0)]), (false, [.sc (.int .i64 a1)]), (true, [.sl a2_0n a2_0f .step a2_0, .sc (.int .i64 a2_1), .sc (.int .i64 a2_2), .sc (.int .i64 a2_3), .sc (.int .i64 a2_4)])] => some (ret_z3am (S.z3am_is a0 a1 a2_0 a2_1 a2_2 a2_3 a2_4) (S.z3am_o a0 a1 a2_0 a2_1 a2_2 a2_3 a2_4))
 | _ => none
theorem raw_z3am (a0 a1 : Int) (a2_0n : OBz) (a2_0f : Bool) (a2_0 : Ls) (a2_1 a2_2 a2_3 a2_4 : Int) : evR2 cx_z3am (hdI cx_z3am (find []) [] none 0) none Tryz.f8 8 none [(false, [dI a0]), (false, [dI a1]), (true, [.sl a2_0n a2_0f .step a2_0, dI a2_1, dI a2_2, dI a2_3, dI a2_4])] some = (S.z3am_R a0 a1 a2_0 a2_1 a2_2 a2_3 a2_4).go (ret_z3am true) := by kernel_rfl
theorem bs_z3am : loopsIn Tryz.f8 [] = [] := by kernel_rfl
theorem z3am_ok : Stands Tryz.prog tyTab 8 g_z3am := by
 refine stands3 (L := find []) (n := 0) (hints := []) (cx_ok rfl) rdy_z3am ⟨by kernel_rfl, by kernel_rfl, by kernel_rfl⟩ bs_z3am nilB (fun das r hG hr => ?_)
 unfold g_z3am at hG
 split at hG
 ·rename_i a0 a1 a2_0n a2_0f a2_0 a2_1 a2_2 a2_3 a2_4
  injection hG with hG; subst hG
  exact ⟨none, true, win default ((raw_z3am a0 a1 a2_0n a2_0f a2_0 a2_1 a2_2 a2_3 a2_4).trans (DT.go_run _ _)) hr⟩
 ·cases hG
abbrev cx_z7df : Cx := mkCx2 tyTab [(31, g_zadk), (44, g_zyre), (45, g_zbja)] [] [] [(26, Tryz.f26)]
theorem rdy_z7df : Ready Tryz.prog tyTab [(31, g_zadk), (44, g_zyre), (45, g_zbja)] [] [(26, Tryz.f26)] := ⟨consG2 zadk_ok (consG2 zyre_ok (consG2 zbja_ok (noneG2))), noneI2, consF2 ⟨by kernel_rfl, by kernel_rfl, by kernel_rfl⟩ (noneF2)⟩
structure S.z7df_T where
 x0 : Int
 x1 : Int
 x2 : Ls
 x3 : Int
 x4 : Int
 x5 : Int
 x6 : Int
 x7 : Lr
 x8 : Int
 x9 : Int
 x10 : Int
 x11 : Lm
 x12 : Bool
 x13 : Int
 x14 : Bool
 x15 : Int
 deriving Inhabited
def S.z7df_R (a0_0 a0_1 : Int) (a0_2 : Ls) (a0_3 a0_4 a0_5 a0_6 : Int) (a0_7 : Lr) (a0_8 a0_9 a0_10 : Int) (a0_11 : Lm) (a0_12 : Bool) (a0_13 : Int) (a0_14 : Bool) (a1 : Int) : DT S.z7df_T :=
let y0 := S.zadk_o a0_9 a0_10 a0_11 a1
let y1 := y0.x3
let y2 : Nat := 0 + (S.zjge_o a0_7).x1
(.br (S.zadk_is a0_9 a0_10 a0_11 a1)
(.br (xneI y1 0)
(.leaf ⟨0, 0, [], 0, 0, 0, 0, [], 0, 0, 0, [], false, 0, false, y1⟩)
(.br (S.zjge_is a0_7)
(.br (S.zamm_is a0_11)
(.br (xdec (y2 ≤ (S.zjge_o a0_7).x0.length) && true && true && true)
(.leaf ⟨a0_0, a0_1, a0_2, a0_3, a0_4, a0_5, a0_6, sub (S.zjge_o a0_7).x0 0 y2, a0_8, y0.x0, y0.x1, y0.x2, a0_12, a0_13, a0_14, 0⟩)
.fail)
.fail)
.fail))
.fail)
def S.z7df (a0_0 a0_1 : Int) (a0_2 : Ls) (a0_3 a0_4 a0_5 a0_6 : Int) (a0_7 : Lr) (a0_8 a0_9 a0_10 : Int) (a0_11 : Lm) (a0_12 : Bool) (a0_13 : Int) (a0_14 : Bool) (a1 : Int) : Option S.z7df_T := (S.z7df_R a0_0 a0_1 a0_2 a0_3 a0_4 a0_5 a0_6 a0_7 a0_8 a0_9 a0_10 a0_11 a0_12 a0_13 a0_14 a1).run
def S.z7df_is (a0_0 a0_1 : Int) (a0_2 : Ls) (a0_3 a0_4 a0_5 a0_6 : Int) (a0_7 : Lr) (a0_8 a0_9 a0_10 : Int) (a0_11 : Lm) (a0_12 : Bool) (a0_13 : Int) (a0_14 : Bool) (a1 : Int) : Bool := (S.z7df a0_0 a0_1 a0_2 a0_3 a0_4 a0_5 a0_6 a0_7 a0_8 a0_9 a0_10 a0_11 a0_12 a0_13 a0_14 a1).isSome
def S.z7df_o (a0_0 a0_1 : Int) (a0_2 : Ls) (a0_3 a0_4 a0_5 a0_6 : Int) (a0_7 : Lr) (a0_8 a0_9 a0_10 : Int) (a0_11 : Lm) (a0_12 : Bool) (a0_13 : Int) (a0_14 : Bool) (a1 : Int) : S.z7df_T := (S.z7df a0_0 a0_1 a0_2 a0_3 a0_4 a0_5 a0_6 a0_7 a0_8 a0_9 a0_10 a0_11 a0_12 a0_13 a0_14 a1).getD default
def ret_z7df (b : Bool) (r : S.z7df_T) : Ret := ⟨b, none, [(true,
    [(cI r.x0), (cI r.x1), cL .step r.x2, (cI r.x3),
     (cI r.x4), (cI r.x5), (cI r.x6), cL .run r.x7,
     (cI r.x8), (cI r.x9), (cI r.x10), cL .mat r.x11,
     cB r.x12, (cI r.x13), cB r.x14]),
 (false, [(cI r.x15)])]⟩
def g_z7df : Con
 | [(true, [.sc (.int .i64 a0_0), .sc (.int .i64 a0_1), .sl a0_2n a0_2f .step a0_2, .sc (.int .i64 a0_3), .sc (.int .i64 a0_4), .sc (.int .i64 a0_5), .sc (.int .i64 a0_6), .sl a0_7n a0_7f .run a0_7, .sc (.int .i64 a0_8), .sc (.int .i64 a0_9), .sc (.int .i64 a0_10), .sl a0_11n a0_11f .mat a0_11, .sc (.bool a0_12), .sc (.int .i64 a0_13), .sc (.bool a0_14)]), (false, [.sc (.int .i64 a1)])] => some (ret_z7df (S.z7df_is a0_0 a0_1 a0_2 a0_3 a0_4 a0_5 a0_6 a0_7 a0_8 a0_9 a0_10 a0_11 a0_12 a0_13 a0_14 a1) (S.z7df_o a0_0 a0_1 a0_2 a0_3 a0_4 a0_5 a0_6 a0_7 a0_8 a0_9 a0_10 a0_11 a0_12 a0_13 a0_14 a1))
 | _ => none
theorem raw_z7df (a0_0 a0_1 : Int) (a0_2n : OBz) (a0_2f : Bool) (a0_2 : Ls) (a0_3 a0_4 a0_5 a0_6 : Int) (a0_7n : OBz) (a0_7f : Bool) (a0_7 : Lr) (a0_8 a0_9 a0_10 : Int) (a0_11n : OBz) (a0_11f : Bool) (a0_11 : Lm) (a0_12 : Bool) (a0_13 : Int) (a0_14 : Bool) (a1 : Int) : evR2 cx_z7df (hdI cx_z7df (find []) [(26, Tryz.f26)] none 3) none Tryz.f13 13 none [(true, [dI a0_0, dI a0_1, .sl a0_2n a0_2f .step a0_2, dI a0_3, dI a0_4, dI a0_5, dI a0_6, .sl a0_7n a0_7f .run a0_7, dI a0_8, dI a0_9, dI a0_10, .sl a0_11n a0_11f .mat a0_11, .sc (.bool a0_12), dI a0_13, .sc (.bool a0_14)]), (false, [dI a1])] some = (S.z7df_R a0_0 a0_1 a0_2 a0_3 a0_4 a0_5 a0_6 a0_7 a0_8 a0_9 a0_10 a0_11 a0_12 a0_13 a0_14 a1).go (ret_z7df true) := by kernel_rfl
theorem bs_z7df : loopsIn Tryz.f13 [(26, Tryz.f26)] = [] := by kernel_rfl
theorem z7df_ok : Stands Tryz.prog tyTab 13 g_z7df := by
 refine stands3 (L := find []) (n := 3) (hints := []) (cx_ok rfl) rdy_z7df ⟨by kernel_rfl, by kernel_rfl, by kernel_rfl⟩ bs_z7df nilB (fun das r hG hr => ?_)
 unfold g_z7df at hG
 split at hG
 ·rename_i a0_0 a0_1 a0_2n a0_2f a0_2 a0_3 a0_4 a0_5 a0_6 a0_7n a0_7f a0_7 a0_8 a0_9 a0_10 a0_11n a0_11f a0_11 a0_12 a0_13 a0_14 a1
  injection hG with hG; subst hG
  exact ⟨none, true, win default ((raw_z7df a0_0 a0_1 a0_2n a0_2f a0_2 a0_3 a0_4 a0_5 a0_6 a0_7n a0_7f a0_7 a0_8 a0_9 a0_10 a0_11n a0_11f a0_11 a0_12 a0_13 a0_14 a1).trans (DT.go_run _ _)) hr⟩
 ·cases hG
abbrev cx_zdm7 : Cx := mkCx2 tyTab [(15, g_zc6y), (30, g_ztni), (44, g_zyre), (45, g_zbja)] [] [] [(26, Tryz.f26)]
theorem rdy_zdm7 : Ready Tryz.prog tyTab [(15, g_zc6y), (30, g_ztni), (44, g_zyre), (45, g_zbja)] [] [(26, Tryz.f26)] := ⟨consG2 zc6y_ok (consG2 ztni_ok (consG2 zyre_ok (consG2 zbja_ok (noneG2)))), noneI2, consF2 ⟨by kernel_rfl, by kernel_rfl, by kernel_rfl⟩ (noneF2)⟩
structure S.zdm7_T where
 x0 : Int
 x1 : Int
 x2 : Ls
 x3 : Int
 x4 : Int
 x5 : Int
 x6 : Int
 x7 : Lr
 x8 : Int
 x9 : Int
 x10 : Int
 x11 : Lm
 x12 : Bool
 x13 : Int
 x14 : Bool
 x15 : Int
 x16 : Int
 x17 : Int
 x18 : Int
 x19 : Int
 x20 : Int
 x21 : Bool
 x22 : Bool
 deriving Inhabited
def S.zdm7_R (a0_0 a0_1 : Int) (a0_2 : Ls) (a0_3 a0_4 a0_5 a0_6 : Int) (a0_7 : Lr) (a0_8 a0_9 a0_10 : Int) (a0_11 : Lm) (a0_12 : Bool) (a0_13 : Int) (a0_14 : Bool) : DT S.zdm7_T :=
let y0 : Nat := 0 + (S.zjge_o a0_7).x1
let y1 : Bool := xdec (y0 ≤ (S.zjge_o a0_7).x0.length) && true
let y2 : Nat := 0 + (S.zamm_o a0_11).x1
let y3 : Bool := y1 && (xdec (y2 ≤ (S.zamm_o a0_11).x0.length) && true && true) && true
let y4 : Lr := sub (S.zjge_o a0_7).x0 0 y0
let y5 : Lm := sub (S.zamm_o a0_11).x0 0 y2
let y6 := S.ztni_o a0_9 a0_10 a0_11
(.br (S.zjge_is a0_7)
(.br (S.zamm_is a0_11)
(.br (S.zc6y_is a0_0 a0_1 a0_2 a0_7 a0_8 a0_9 a0_10 a0_11 a0_13 a0_14)
(.br (xnot (S.zc6y_o a0_0 a0_1 a0_2 a0_7 a0_8 a0_9 a0_10 a0_11 a0_13 a0_14).x0)
(.br (y3)
(.leaf ⟨a0_0, a0_1, a0_2, a0_3, a0_4, a0_5, a0_6, y4, a0_8, a0_9, a0_10, y5, a0_12, a0_13, a0_14, 0, 0, 0, 0, 0, 0, false, false⟩)
.fail)
(.br (a0_12)
(.br (y3)
(.leaf ⟨a0_0, a0_1, a0_2, a0_3, a0_4, a0_5, a0_6, y4, a0_8, a0_9, a0_10, y5, a0_12, a0_13, a0_14, 0, 0, 0, 0, 0, 0, false, false⟩)
.fail)
(.br (S.ztni_is a0_9 a0_10 a0_11)
(.br (y6.x8)
(.br (y1 && true && true)
(.leaf ⟨a0_0, a0_1, a0_2, a0_3, a0_4, a0_5, a0_6, y4, a0_8, y6.x0, y6.x1, y6.x2, a0_12, a0_13, a0_14, a0_0, y6.x3, 0, y6.x4, y6.x5, y6.x6, y6.x7, true⟩)
.fail)
(.br (xeqI a0_13 0)
(.br (y3)
(.leaf ⟨a0_0, a0_1, a0_2, a0_3, a0_4, a0_5, a0_6, y4, a0_8, a0_9, a0_10, y5, a0_12, a0_13, a0_14, 0, 0, 0, 0, 0, 0, false, false⟩)
.fail)
(.br (a0_14)
(.br (y3)
(.leaf ⟨a0_0, a0_1, a0_2, a0_3, a0_4, a0_5, a0_6, y4, a0_8, a0_9, a0_10, y5, a0_12, a0_13, a0_14, 0, 0, 0, 0, 0, 0, false, false⟩)
.fail)
(.br (y3)
(.leaf ⟨a0_0, a0_1, a0_2, a0_3, a0_4, a0_5, a0_6, y4, a0_8, a0_9, a0_10, y5, a0_12, a0_13, true, a0_0, 0, a0_13, 0, 0, 0, false, true⟩)
.fail))))
.fail)))
.fail)
.fail)
.fail)
def S.zdm7 (a0_0 a0_1 : Int) (a0_2 : Ls) (a0_3 a0_4 a0_5 a0_6 : Int) (a0_7 : Lr) (a0_8 a0_9 a0_10 : Int) (a0_11 : Lm) (a0_12 : Bool) (a0_13 : Int) (a0_14 : Bool) : Option S.zdm7_T := (S.zdm7_R a0_0 a0_1 a0_2 a0_3 a0_4 a0_5 a0_6 a0_7 a0_8 a0_9 a0_10 a0_11 a0_12 a0_13 a0_14).run
def S.zdm7_is (a0_0 a0_1 : Int) (a0_2 : Ls) (a0_3 a0_4 a0_5 a0_6 : Int) (a0_7 : Lr) (a0_8 a0_9 a0_10 : Int) (a0_11 : Lm) (a0_12 : Bool) (a0_13 : Int) (a0_14 : Bool) : Bool := (S.zdm7 a0_0 a0_1 a0_2 a0_3 a0_4 a0_5 a0_6 a0_7 a0_8 a0_9 a0_10 a0_11 a0_12 a0_13 a0_14).isSome
def S.zdm7_o (a0_0 a0_1 : Int) (a0_2 : Ls) (a0_3 a0_4 a0_5 a0_6 : Int) (a0_7 : Lr) (a0_8 a0_9 a0_10 : Int) (a0_11 : Lm) (a0_12 : Bool) (a0_13 : Int) (a0_14 : Bool) : S.zdm7_T := (S.zdm7 a0_0 a0_1 a0_2 a0_3 a0_4 a0_5 a0_6 a0_7 a0_8 a0_9 a0_10 a0_11 a0_12 a0_13 a0_14).getD default
def ret_zdm7 (b : Bool) (r : S.zdm7_T) : Ret := ⟨b, none, [(true,
    [(cI r.x0), (cI r.x1), cL .step r.x2, (cI r.x3),
     (cI r.x4), (cI r.x5), (cI r.x6), cL .run r.x7,
     (cI r.x8), (cI r.x9), (cI r.x10), cL .mat r.x11,
     cB r.x12, (cI r.x13), cB r.x14]),
 (true,
  [(cI r.x15), (cI r.x16), (cI r.x17), (cI r.x18),
   (cI r.x19), (cI r.x20), cB r.x21]),
 (false, [cB r.x22])]⟩
def g_zdm7 : Con
 | [(true, [.sc (.int .i64 a0_0), .sc (.int .i64 a0_1), .sl a0_2n a0_2f .step a0_2, .sc (.int .i64 a0_3), .sc (.int .i64 a0_4), .sc (.int .i64 a0_5), .sc (.int .i64 a0_6), .sl a0_7n a0_7f .run a0_7, .sc (.int .i64 a0_8), .sc (.int .i64 a0_9), .sc (.int .i64 a0_10), .sl a0_11n a0_11f .mat a0_11, .sc (.bool a0_12), .sc (.int .i64 a0_13), .sc (.bool a0_14)])] => some (ret_zdm7 (S.zdm7_is a0_0 a0_1 a0_2 a0_3 a0_4 a0_5 a0_6 a0_7 a0_8 a0_9 a0_10 a0_11 a0_12 a0_13 a0_14) (S.zdm7_o a0_0 a0_1 a0_2 a0_3 a0_4 a0_5 a0_6 a0_7 a0_8 a0_9 a0_10 a0_11 a0_12 a0_13 a0_14))
 | _ => none
theorem raw_zdm7 (a0_0 a0_1 : Int) (a0_2n : OBz) (a0_2f : Bool) (a0_2 : Ls) (a0_3 a0_4 a0_5 a0_6 : Int) (a0_7n : OBz) (a0_7f : Bool) (a0_7 : Lr) (a0_8 a0_9 a0_10 : Int) (a0_11n : OBz) (a0_11f : Bool) (a0_11 : Lm) (a0_12 : Bool) (a0_13 : Int) (a0_14 : Bool) : evR2 cx_zdm7 (hdI cx_zdm7 (find []) [(26, Tryz.f26)] none 3) none Tryz.f12 12 none [(true, [dI a0_0, dI a0_1, .sl a0_2n a0_2f .step a0_2, dI a0_3, dI a0_4, dI a0_5, dI a0_6, .sl a0_7n a0_7f .run a0_7, dI a0_8, dI a0_9, dI a0_10, .sl a0_11n a0_11f .mat a0_11, .sc (.bool a0_12), dI a0_13, .sc (.bool a0_14)])] some = (S.zdm7_R a0_0 a0_1 a0_2 a0_3 a0_4 a0_5 a0_6 a0_7 a0_8 a0_9 a0_10 a0_11 a0_12 a0_13 a0_14).go (ret_zdm7 true) := by kernel_rfl
theorem bs_zdm7 : loopsIn Tryz.f12 [(26, Tryz.f26)] = [] := by kernel_rfl
theorem zdm7_ok : Stands Tryz.prog tyTab 12 g_zdm7 := by
 refine stands3 (L := find []) (n := 3) (hints := []) (cx_ok rfl) rdy_zdm7 ⟨by kernel_rfl, by kernel_rfl, by kernel_rfl⟩ bs_zdm7 nilB (fun das r hG hr => ?_)
 unfold g_zdm7 at hG
 split at hG
 ·rename_i a0_0 a0_1 a0_2n a0_2f a0_2 a0_3 a0_4 a0_5 a0_6 a0_7n a0_7f a0_7 a0_8 a0_9 a0_10 a0_11n a0_11f a0_11 a0_12 a0_13 a0_14
  injection hG with hG; subst hG
  exact ⟨none, true, win default ((raw_zdm7 a0_0 a0_1 a0_2n a0_2f a0_2 a0_3 a0_4 a0_5 a0_6 a0_7n a0_7f a0_7 a0_8 a0_9 a0_10 a0_11n a0_11f a0_11 a0_12 a0_13 a0_14).trans (DT.go_run _ _)) hr⟩
 ·cases hG
abbrev cx_zyqf : Cx := mkCx2 tyTab [(15, g_zc6y), (27, g_zxf7), (44, g_zyre), (45, g_zbja), (47, g_z22l)] [] [(11, 8, { keep := [6, 7, 8, 10, 42, 43, 44], acc := [] }), (11, 7, { keep := [], acc := [], frz := true }), (26, 7, { keep := [], acc := [], frz := true }), (28, 7, { keep := [], acc := [], frz := true }), (29, 7, { keep := [], acc := [], frz := true })] [(26, Tryz.f26), (28, Tryz.f28), (29, Tryz.f29)]
theorem rdy_zyqf : Ready Tryz.prog tyTab [(15, g_zc6y), (27, g_zxf7), (44, g_zyre), (45, g_zbja), (47, g_z22l)] [] [(26, Tryz.f26), (28, Tryz.f28), (29, Tryz.f29)] := ⟨consG2 zc6y_ok (consG2 zxf7_ok (consG2 zyre_ok (consG2 zbja_ok (consG2 z22l_ok (noneG2))))), noneI2, consF2 ⟨by kernel_rfl, by kernel_rfl, by kernel_rfl⟩ (consF2 ⟨by kernel_rfl, by kernel_rfl, by kernel_rfl⟩ (consF2 ⟨by kernel_rfl, by kernel_rfl, by kernel_rfl⟩ (noneF2)))⟩
structure S.zyqf_8_V where
 t44_ : Int
 h_24_9 : Int
 h_24_10 : Int
 h_24_11 : Lm
def S.zyqf_8_R (qA : Lm) (qB : Int) (v : S.zyqf_8_V) : DT (Option Nat × S.zyqf_8_V) :=
let y0 : Ty .mat := qA.getD v.t44_.toNat (dflt .mat)
let y1 := y0.start
let y2 := y0.fin
let y3 := y0.agg
let y4 := y0.bad
let y5 := S.z22l_o v.h_24_9 v.h_24_10 v.h_24_11 y1 y2 y3 y4
let y6 := y5.x3
let y7 : Bool := xnot y6
let y8 := y5.x1
let y9 := y5.x0
let y10 : Int := xwrap .i64 (y8 - y9)
let y11 := y5.x2
let y12 : Int := xwrap .i64 (v.t44_ + 1)
let y13 : Int := xwrap .i64 (v.h_24_10 - v.h_24_9)
(.br (xdec (v.t44_ < qB))
(.br (xdec (0 ≤ v.t44_) && xdec (v.t44_ < (↑qA.length : Int)))
(.br (S.z22l_is v.h_24_9 v.h_24_10 v.h_24_11 y1 y2 y3 y4)
(.br (y6)
(.br (y7)
(.br (xdec (0 ≤ y10) && xdec (y10 ≤ Int.ofNat y11.length) && true)
(.leaf (some 0, v))
.fail)
(.leaf (none, ⟨y12, y9, y8, y11⟩)))
(.br (y7)
(.br (xdec (0 ≤ y13) && xdec (y13 ≤ Int.ofNat v.h_24_11.length) && true)
(.leaf (some 1, v))
.fail)
(.leaf (none, ⟨y12, v.h_24_9, v.h_24_10, v.h_24_11⟩))))
.fail)
.fail)
(.leaf (some 2, v)))
def S.zyqf_8_r (qA : Lm) (qB : Int) (v : S.zyqf_8_V) : Option (Option Nat × S.zyqf_8_V) := (S.zyqf_8_R qA qB v).run
def S.zyqf_8_j (qA : Lm) (qB : Int) (v : S.zyqf_8_V) (j : Nat) : Bool := Lp_j (S.zyqf_8_r qA qB) v j
def S.zyqf_8_v (qA : Lm) (qB : Int) (v : S.zyqf_8_V) : S.zyqf_8_V := Lp_v (S.zyqf_8_r qA qB) v
def mk_zyqf_8 (qA : Lm) (qB qC qD : Int) (qE : OBz) (qF : Bool) (qG : Ls) (qH qI qJ qK : Int) (qL : OBz) (qM : Bool) (qN : Lr) (qO qP qQ : Int) (qR : OBz) (qS : Bool) (qT : Lm) (qU : Bool) (qV : Int) (qW : Bool) (qX : ByteArray) (qY : Int) (qZ : OBz) (rA : Bool) (rB : Lv) (rC rD : Int) (rE : Ls) (rF rG rH rI : Int) (rJ : Lr) (rK rL rM : Int) (rN : Lm) (rO : Bool) (rP : Int) (rQ : Bool) (rR rS : Int) (rT : OBz) (rU : Bool) (rV : Ls) (rW rX rY rZ : Int) (wA : Lr) (wB wC wD : Int) (wE : Lm) (wF : Bool) (wG : Int) (wH : Bool) (wI wJ : Int) (wK : Ls) (wL wM wN wO : Int) (wP : Lr) (wQ : Int) (wR : Bool) (wS : Int) (wT : Bool) (wU : Ls) (wV wW wX wY : Int) (wZ : Lr) (zA : Int) (v : S.zyqf_8_V) : St := ⟨(vs 6 (V.v false [C.ptr 2 0] :: (V.v false [C.ptr 24 0] :: (V.v false [C.ptr 42 0] :: (V.any :: (V.v false [C.clo 28 [22 + 2] []] :: (vs 31 (V.v false [cL .mat qA] :: ((cV qB) :: ((cV v.t44_) :: (vs 25 []))))))))))), (some (Blk.box 36 [(cI qC), (cI qD), C.d (.sl qE qF .step qG), (cI qH), (cI qI), (cI qJ), (cI qK), C.d (.sl qL qM .run qN), (cI qO), (cI qP), (cI qQ), C.d (.sl qR qS .mat qT), cB qU, (cI qV), cB qW]) :: (some (Blk.box 43 [C.d (.sc (.str qX)), (cI qY), C.d (.sl qZ rA .val rB)]) :: (some (Blk.box 36 [(cI rC), (cI rD), C.d (.sl (some true) true .step rE), (cI rF), (cI rG), (cI rH), (cI rI), C.d (.sl (some true) true .run rJ), (cI rK), (cI rL), (cI rM), C.d (.sl (some true) true .mat rN), cB rO, (cI rP), cB rQ]) :: (ns 3 (some (Blk.box 36 [(cI rR), (cI rS), C.d (.sl rT rU .step rV), (cI rW), (cI rX), (cI rY), (cI rZ), cL .run wA, (cI wB), (cI wC), (cI wD), cL .mat wE, cB wF, (cI wG), cB wH]) :: (ns 17 (some (Blk.box 80 [(cI wI), (cI wJ), cL .step wK, (cI wL), (cI wM), (cI wN), (cI wO), cL .run wP, (cI wQ), (cI v.h_24_9), (cI v.h_24_10), cL .mat v.h_24_11, cB wR, (cI wS), cB wT]) :: (ns 17 (some (Blk.box 31 [cL .step wU, (cI wV), (cI wW), (cI wX), (cI wY), cL .run wZ, (cI zA)]) :: (ns 14 [])))))))))), 0⟩
def ex_zyqf_8 (qA : Lm) (qB qC qD : Int) (qE : OBz) (qF : Bool) (qG : Ls) (qH qI qJ qK : Int) (qL : OBz) (qM : Bool) (qN : Lr) (qO qP qQ : Int) (qR : OBz) (qS : Bool) (qT : Lm) (qU : Bool) (qV : Int) (qW : Bool) (qX : ByteArray) (qY : Int) (qZ : OBz) (rA : Bool) (rB : Lv) (rC rD : Int) (rE : Ls) (rF rG rH rI : Int) (rJ : Lr) (rK rL rM : Int) (rN : Lm) (rO : Bool) (rP : Int) (rQ : Bool) (rR rS : Int) (rT : OBz) (rU : Bool) (rV : Ls) (rW rX rY rZ : Int) (wA : Lr) (wB wC wD : Int) (wE : Lm) (wF : Bool) (wG : Int) (wH : Bool) (wI wJ : Int) (wK : Ls) (wL wM wN wO : Int) (wP : Lr) (wQ : Int) (wR : Bool) (wS : Int) (wT : Bool) (wU : Ls) (wV wW wX wY : Int) (wZ : Lr) (zA : Int) (j : Nat) (v : S.zyqf_8_V) : Ex × St := match j with
 | 0 => (Ex.ret, ⟨(vs 6 (V.v false [C.ptr 2 0] :: (V.v false [C.ptr 24 0] :: (V.v false [C.ptr 42 0] :: (vs 61 []))))), (some
  (Blk.box 36
   [(cI qC), (cI qD), C.d (.sl qE qF .step qG), (cI qH),
    (cI qI), (cI qJ), (cI qK), C.d (.sl qL qM .run qN),
    (cI qO), (cI qP), (cI qQ), C.d (.sl qR qS .mat qT),
    cB qU, (cI qV), cB qW]) :: (some (Blk.box 43 [C.d (.sc (.str qX)), (cI qY), C.d (.sl qZ rA .val rB)]) :: (some
  (Blk.box 36
   [(cI wI), (cI wJ), cL .step wK, (cI wL),
    (cI wM), (cI wN), (cI wO), C.d (.sl (some true) true .run []),
    (cI wQ),
    C.d
     (D.sc
      (Sc.int IntKind.i64
       (S.z22l_o v.h_24_9 v.h_24_10 v.h_24_11 (qA.getD v.t44_.toNat (dflt .mat)).start (qA.getD v.t44_.toNat (dflt .mat)).fin
           (qA.getD v.t44_.toNat (dflt .mat)).agg (qA.getD v.t44_.toNat (dflt .mat)).bad).x0)),
    C.d
     (D.sc
      (Sc.int IntKind.i64
       (S.z22l_o v.h_24_9 v.h_24_10 v.h_24_11 (qA.getD v.t44_.toNat (dflt .mat)).start (qA.getD v.t44_.toNat (dflt .mat)).fin
           (qA.getD v.t44_.toNat (dflt .mat)).agg (qA.getD v.t44_.toNat (dflt .mat)).bad).x1)),
    C.d
     (D.sl none
      (false &&
       xdec
        (xwrap .i64
            ((S.z22l_o v.h_24_9 v.h_24_10 v.h_24_11 (qA.getD v.t44_.toNat (dflt .mat)).start (qA.getD v.t44_.toNat (dflt .mat)).fin
                  (qA.getD v.t44_.toNat (dflt .mat)).agg (qA.getD v.t44_.toNat (dflt .mat)).bad).x1 -
             (S.z22l_o v.h_24_9 v.h_24_10 v.h_24_11 (qA.getD v.t44_.toNat (dflt .mat)).start (qA.getD v.t44_.toNat (dflt .mat)).fin
                 (qA.getD v.t44_.toNat (dflt .mat)).agg (qA.getD v.t44_.toNat (dflt .mat)).bad).x0) =
         (↑(S.z22l_o v.h_24_9 v.h_24_10 v.h_24_11 (qA.getD v.t44_.toNat (dflt .mat)).start (qA.getD v.t44_.toNat (dflt .mat)).fin
                   (qA.getD v.t44_.toNat (dflt .mat)).agg (qA.getD v.t44_.toNat (dflt .mat)).bad).x2.length :
          Int)))
      .mat
      (sub
       (S.z22l_o v.h_24_9 v.h_24_10 v.h_24_11 (qA.getD v.t44_.toNat (dflt .mat)).start (qA.getD v.t44_.toNat (dflt .mat)).fin
           (qA.getD v.t44_.toNat (dflt .mat)).agg (qA.getD v.t44_.toNat (dflt .mat)).bad).x2
       0
       (xwrap .i64
           ((S.z22l_o v.h_24_9 v.h_24_10 v.h_24_11 (qA.getD v.t44_.toNat (dflt .mat)).start (qA.getD v.t44_.toNat (dflt .mat)).fin
                 (qA.getD v.t44_.toNat (dflt .mat)).agg (qA.getD v.t44_.toNat (dflt .mat)).bad).x1 -
            (S.z22l_o v.h_24_9 v.h_24_10 v.h_24_11 (qA.getD v.t44_.toNat (dflt .mat)).start (qA.getD v.t44_.toNat (dflt .mat)).fin
                (qA.getD v.t44_.toNat (dflt .mat)).agg (qA.getD v.t44_.toNat (dflt .mat)).bad).x0)).toNat)),
    cB wR, (cI 2), cB wT]) :: (ns 3 (some
  (Blk.box 36
   [(cI rR), (cI rS), C.d (.sl rT rU .step rV), (cI rW),
    (cI rX), (cI rY), (cI rZ), cL .run wA,
    (cI wB), (cI wC), (cI wD), cL .mat wE,
    cB wF, (cI wG), cB wH]) :: (ns 17 (some
  (Blk.box 80
   [(cI wI), (cI wJ), cL .step wK, (cI wL),
    (cI wM), (cI wN), (cI wO), C.d (.sl (some true) true .run []),
    (cI wQ),
    C.d
     (D.sc
      (Sc.int IntKind.i64
       (S.z22l_o v.h_24_9 v.h_24_10 v.h_24_11 (qA.getD v.t44_.toNat (dflt .mat)).start (qA.getD v.t44_.toNat (dflt .mat)).fin
           (qA.getD v.t44_.toNat (dflt .mat)).agg (qA.getD v.t44_.toNat (dflt .mat)).bad).x0)),
    C.d
     (D.sc
      (Sc.int IntKind.i64
       (S.z22l_o v.h_24_9 v.h_24_10 v.h_24_11 (qA.getD v.t44_.toNat (dflt .mat)).start (qA.getD v.t44_.toNat (dflt .mat)).fin
           (qA.getD v.t44_.toNat (dflt .mat)).agg (qA.getD v.t44_.toNat (dflt .mat)).bad).x1)),
    C.d
     (D.sl none
      (false &&
       xdec
        (xwrap .i64
            ((S.z22l_o v.h_24_9 v.h_24_10 v.h_24_11 (qA.getD v.t44_.toNat (dflt .mat)).start (qA.getD v.t44_.toNat (dflt .mat)).fin
                  (qA.getD v.t44_.toNat (dflt .mat)).agg (qA.getD v.t44_.toNat (dflt .mat)).bad).x1 -
             (S.z22l_o v.h_24_9 v.h_24_10 v.h_24_11 (qA.getD v.t44_.toNat (dflt .mat)).start (qA.getD v.t44_.toNat (dflt .mat)).fin
                 (qA.getD v.t44_.toNat (dflt .mat)).agg (qA.getD v.t44_.toNat (dflt .mat)).bad).x0) =
         (↑(S.z22l_o v.h_24_9 v.h_24_10 v.h_24_11 (qA.getD v.t44_.toNat (dflt .mat)).start (qA.getD v.t44_.toNat (dflt .mat)).fin
                   (qA.getD v.t44_.toNat (dflt .mat)).agg (qA.getD v.t44_.toNat (dflt .mat)).bad).x2.length :
          Int)))
      .mat
      (sub
       (S.z22l_o v.h_24_9 v.h_24_10 v.h_24_11 (qA.getD v.t44_.toNat (dflt .mat)).start (qA.getD v.t44_.toNat (dflt .mat)).fin
           (qA.getD v.t44_.toNat (dflt .mat)).agg (qA.getD v.t44_.toNat (dflt .mat)).bad).x2
       0
       (xwrap .i64
           ((S.z22l_o v.h_24_9 v.h_24_10 v.h_24_11 (qA.getD v.t44_.toNat (dflt .mat)).start (qA.getD v.t44_.toNat (dflt .mat)).fin
                 (qA.getD v.t44_.toNat (dflt .mat)).agg (qA.getD v.t44_.toNat (dflt .mat)).bad).x1 -
            (S.z22l_o v.h_24_9 v.h_24_10 v.h_24_11 (qA.getD v.t44_.toNat (dflt .mat)).start (qA.getD v.t44_.toNat (dflt .mat)).fin
                (qA.getD v.t44_.toNat (dflt .mat)).agg (qA.getD v.t44_.toNat (dflt .mat)).bad).x0)).toNat)),
    cB wR, (cI 2), cB wT]) :: (ns 17 (some
  (Blk.box 31
   [cL .step wU, (cI wV), (cI wW), (cI wX),
    (cI wY), cL .run wZ, (cI zA)]) :: (ns 17 (some
  (Blk.box 45
   [(cI (qA.getD v.t44_.toNat (dflt .mat)).start), (cI (qA.getD v.t44_.toNat (dflt .mat)).fin),
    (cI (qA.getD v.t44_.toNat (dflt .mat)).agg), C.d (.sc (.bool (qA.getD v.t44_.toNat (dflt .mat)).bad))]) :: (ns 5 (some
  (Blk.box 45
   [(cI (qA.getD v.t44_.toNat (dflt .mat)).start), (cI (qA.getD v.t44_.toNat (dflt .mat)).fin),
    (cI (qA.getD v.t44_.toNat (dflt .mat)).agg), C.d (.sc (.bool (qA.getD v.t44_.toNat (dflt .mat)).bad))]) :: (ns 11 (some
  (Blk.box 34
   [C.d
       (D.sc
        (Sc.int IntKind.i64
         (S.z22l_o v.h_24_9 v.h_24_10 v.h_24_11 (qA.getD v.t44_.toNat (dflt .mat)).start (qA.getD v.t44_.toNat (dflt .mat)).fin
             (qA.getD v.t44_.toNat (dflt .mat)).agg (qA.getD v.t44_.toNat (dflt .mat)).bad).x0)),
    C.d
     (D.sc
      (Sc.int IntKind.i64
       (S.z22l_o v.h_24_9 v.h_24_10 v.h_24_11 (qA.getD v.t44_.toNat (dflt .mat)).start (qA.getD v.t44_.toNat (dflt .mat)).fin
           (qA.getD v.t44_.toNat (dflt .mat)).agg (qA.getD v.t44_.toNat (dflt .mat)).bad).x1)),
    C.d
     (D.sl none false .mat
      (S.z22l_o v.h_24_9 v.h_24_10 v.h_24_11 (qA.getD v.t44_.toNat (dflt .mat)).start (qA.getD v.t44_.toNat (dflt .mat)).fin
          (qA.getD v.t44_.toNat (dflt .mat)).agg (qA.getD v.t44_.toNat (dflt .mat)).bad).x2)]) :: (ns 55 [])))))))))))))))), 0⟩)
 | 1 => (Ex.ret, ⟨(vs 6 (V.v false [C.ptr 2 0] :: (V.v false [C.ptr 24 0] :: (V.v false [C.ptr 42 0] :: (vs 61 []))))), (some
  (Blk.box 36
   [(cI qC), (cI qD), C.d (.sl qE qF .step qG), (cI qH),
    (cI qI), (cI qJ), (cI qK), C.d (.sl qL qM .run qN),
    (cI qO), (cI qP), (cI qQ), C.d (.sl qR qS .mat qT),
    cB qU, (cI qV), cB qW]) :: (some (Blk.box 43 [C.d (.sc (.str qX)), (cI qY), C.d (.sl qZ rA .val rB)]) :: (some
  (Blk.box 36
   [(cI wI), (cI wJ), cL .step wK, (cI wL),
    (cI wM), (cI wN), (cI wO), C.d (.sl (some true) true .run []),
    (cI wQ), (cI v.h_24_9), (cI v.h_24_10),
    C.d
     (D.sl none (false && xdec (xwrap .i64 (v.h_24_10 - v.h_24_9) = (↑v.h_24_11.length : Int))) .mat
      (sub v.h_24_11 0 (xwrap .i64 (v.h_24_10 - v.h_24_9)).toNat)),
    cB wR, (cI 2), cB wT]) :: (ns 3 (some
  (Blk.box 36
   [(cI rR), (cI rS), C.d (.sl rT rU .step rV), (cI rW),
    (cI rX), (cI rY), (cI rZ), cL .run wA,
    (cI wB), (cI wC), (cI wD), cL .mat wE,
    cB wF, (cI wG), cB wH]) :: (ns 17 (some
  (Blk.box 80
   [(cI wI), (cI wJ), cL .step wK, (cI wL),
    (cI wM), (cI wN), (cI wO), C.d (.sl (some true) true .run []),
    (cI wQ), (cI v.h_24_9), (cI v.h_24_10),
    C.d
     (D.sl none (false && xdec (xwrap .i64 (v.h_24_10 - v.h_24_9) = (↑v.h_24_11.length : Int))) .mat
      (sub v.h_24_11 0 (xwrap .i64 (v.h_24_10 - v.h_24_9)).toNat)),
    cB wR, (cI 2), cB wT]) :: (ns 17 (some
  (Blk.box 31
   [cL .step wU, (cI wV), (cI wW), (cI wX),
    (cI wY), cL .run wZ, (cI zA)]) :: (ns 17 (some
  (Blk.box 45
   [(cI (qA.getD v.t44_.toNat (dflt .mat)).start), (cI (qA.getD v.t44_.toNat (dflt .mat)).fin),
    (cI (qA.getD v.t44_.toNat (dflt .mat)).agg), C.d (.sc (.bool (qA.getD v.t44_.toNat (dflt .mat)).bad))]) :: (ns 5 (some
  (Blk.box 45
   [(cI (qA.getD v.t44_.toNat (dflt .mat)).start), (cI (qA.getD v.t44_.toNat (dflt .mat)).fin),
    (cI (qA.getD v.t44_.toNat (dflt .mat)).agg), C.d (.sc (.bool (qA.getD v.t44_.toNat (dflt .mat)).bad))]) :: (ns 11 (some
  (Blk.box 34
   [C.d
       (D.sc
        (Sc.int IntKind.i64
         (S.z22l_o v.h_24_9 v.h_24_10 v.h_24_11 (qA.getD v.t44_.toNat (dflt .mat)).start (qA.getD v.t44_.toNat (dflt .mat)).fin
             (qA.getD v.t44_.toNat (dflt .mat)).agg (qA.getD v.t44_.toNat (dflt .mat)).bad).x0)),
    C.d
     (D.sc
      (Sc.int IntKind.i64
       (S.z22l_o v.h_24_9 v.h_24_10 v.h_24_11 (qA.getD v.t44_.toNat (dflt .mat)).start (qA.getD v.t44_.toNat (dflt .mat)).fin
           (qA.getD v.t44_.toNat (dflt .mat)).agg (qA.getD v.t44_.toNat (dflt .mat)).bad).x1)),
    C.d
     (D.sl none false .mat
      (S.z22l_o v.h_24_9 v.h_24_10 v.h_24_11 (qA.getD v.t44_.toNat (dflt .mat)).start (qA.getD v.t44_.toNat (dflt .mat)).fin
          (qA.getD v.t44_.toNat (dflt .mat)).agg (qA.getD v.t44_.toNat (dflt .mat)).bad).x2)]) :: (ns 49 [])))))))))))))))), 0⟩)
 | 2 => (Ex.exit 0, ⟨(vs 6 (V.v false [C.ptr 2 0] :: (V.v false [C.ptr 24 0] :: (V.v false [C.ptr 42 0] :: (vs 61 []))))), (some
  (Blk.box 36
   [(cI qC), (cI qD), C.d (.sl qE qF .step qG), (cI qH),
    (cI qI), (cI qJ), (cI qK), C.d (.sl qL qM .run qN),
    (cI qO), (cI qP), (cI qQ), C.d (.sl qR qS .mat qT),
    cB qU, (cI qV), cB qW]) :: (some (Blk.box 43 [C.d (.sc (.str qX)), (cI qY), C.d (.sl qZ rA .val rB)]) :: (some
  (Blk.box 36
   [(cI rC), (cI rD), C.d (.sl (some true) true .step rE), (cI rF),
    (cI rG), (cI rH), (cI rI), C.d (.sl (some true) true .run rJ),
    (cI rK), (cI rL), (cI rM), C.d (.sl (some true) true .mat rN),
    cB rO, (cI rP), cB rQ]) :: (ns 3 (some
  (Blk.box 36
   [(cI rR), (cI rS), C.d (.sl rT rU .step rV), (cI rW),
    (cI rX), (cI rY), (cI rZ), cL .run wA,
    (cI wB), (cI wC), (cI wD), cL .mat wE,
    cB wF, (cI wG), cB wH]) :: (ns 17 (some
  (Blk.box 80
   [(cI wI), (cI wJ), cL .step wK, (cI wL),
    (cI wM), (cI wN), (cI wO), cL .run wP,
    (cI wQ), (cI v.h_24_9), (cI v.h_24_10), cL .mat v.h_24_11,
    cB wR, (cI wS), cB wT]) :: (ns 17 (some
  (Blk.box 31
   [cL .step wU, (cI wV), (cI wW), (cI wX),
    (cI wY), cL .run wZ, (cI zA)]) :: (ns 15 [])))))))))), 0⟩)
 | _ => (.ret, ⟨[], [], 0⟩)
def U_zyqf_8_e7 (x : V) (K : Tree) : Tree := match x with
 | V.v false [C.ptr 24 0] => K
 | _ => .bad
def U_zyqf_8_e8 (x : V) (K : Tree) : Tree := match x with
 | V.v false [C.ptr 42 0] => K
 | _ => .bad
def U_zyqf_8_e10 (x : V) (K : Tree) : Tree := match x with
 | V.v false [C.clo 28 [22 + 2] []] => K
 | _ => .bad
def U_zyqf_8_e42 (x : V) (K : Lm → Tree) : Tree := match x with
 | V.v false [C.d (.sl none false .mat qA)] => K qA
 | _ => .bad
def U_zyqf_8_h0 (x : Option Blk) (K : Int → Int → OBz → Bool → Ls → Int → Int → Int → Int → OBz → Bool → Lr → Int → Int → Int → OBz → Bool → Lm → Bool → Int → Bool → Tree) : Tree := match x with
 | some (Blk.box 36 [C.d (.sc (.int .i64 qC)), C.d (.sc (.int .i64 qD)), C.d (.sl qE qF .step qG), C.d (.sc (.int .i64 qH)), C.d (.sc (.int .i64 qI)), C.d (.sc (.int .i64 qJ)), C.d (.sc (.int .i64 qK)), C.d (.sl qL qM .run qN), C.d (.sc (.int .i64 qO)), C.d (.sc (.int .i64 qP)), C.d (.sc (.int .i64 qQ)), C.d (.sl qR qS .mat qT), C.d (.sc (.bool qU)), C.d (.sc (.int .i64 qV)), C.d (.sc (.bool qW))]) => K qC qD qE qF qG qH qI qJ qK qL qM qN qO qP qQ qR qS qT qU qV qW
 | _ => .bad
def U_zyqf_8_h2 (x : Option Blk) (K : Int → Int → Ls → Int → Int → Int → Int → Lr → Int → Int → Int → Lm → Bool → Int → Bool → Tree) : Tree := match x with
 | some (Blk.box 36 [C.d (.sc (.int .i64 rC)), C.d (.sc (.int .i64 rD)), C.d (.sl (some true) true .step rE), C.d (.sc (.int .i64 rF)), C.d (.sc (.int .i64 rG)), C.d (.sc (.int .i64 rH)), C.d (.sc (.int .i64 rI)), C.d (.sl (some true) true .run rJ), C.d (.sc (.int .i64 rK)), C.d (.sc (.int .i64 rL)), C.d (.sc (.int .i64 rM)), C.d (.sl (some true) true .mat rN), C.d (.sc (.bool rO)), C.d (.sc (.int .i64 rP)), C.d (.sc (.bool rQ))]) => K rC rD rE rF rG rH rI rJ rK rL rM rN rO rP rQ
 | _ => .bad
def U_zyqf_8_h6 (x : Option Blk) (K : Int → Int → OBz → Bool → Ls → Int → Int → Int → Int → Lr → Int → Int → Int → Lm → Bool → Int → Bool → Tree) : Tree := match x with
 | some (Blk.box 36 [C.d (.sc (.int .i64 rR)), C.d (.sc (.int .i64 rS)), C.d (.sl rT rU .step rV), C.d (.sc (.int .i64 rW)), C.d (.sc (.int .i64 rX)), C.d (.sc (.int .i64 rY)), C.d (.sc (.int .i64 rZ)), C.d (.sl none false .run wA), C.d (.sc (.int .i64 wB)), C.d (.sc (.int .i64 wC)), C.d (.sc (.int .i64 wD)), C.d (.sl none false .mat wE), C.d (.sc (.bool wF)), C.d (.sc (.int .i64 wG)), C.d (.sc (.bool wH))]) => K rR rS rT rU rV rW rX rY rZ wA wB wC wD wE wF wG wH
 | _ => .bad
def U_zyqf_8_h24 (x : Option Blk) (K : Int → Int → Ls → Int → Int → Int → Int → Lr → Int → Int → Int → Lm → Bool → Int → Bool → Tree) : Tree := match x with
 | some (Blk.box 80 [C.d (.sc (.int .i64 wI)), C.d (.sc (.int .i64 wJ)), C.d (.sl none false .step wK), C.d (.sc (.int .i64 wL)), C.d (.sc (.int .i64 wM)), C.d (.sc (.int .i64 wN)), C.d (.sc (.int .i64 wO)), C.d (.sl none false .run wP), C.d (.sc (.int .i64 wQ)), C.d (.sc (.int .i64 h_24_9)), C.d (.sc (.int .i64 h_24_10)), C.d (.sl none false .mat h_24_11), C.d (.sc (.bool wR)), C.d (.sc (.int .i64 wS)), C.d (.sc (.bool wT))]) => K wI wJ wK wL wM wN wO wP wQ h_24_9 h_24_10 h_24_11 wR wS wT
 | _ => .bad
def U_zyqf_8_h42 (x : Option Blk) (K : Ls → Int → Int → Int → Int → Lr → Int → Tree) : Tree := match x with
 | some (Blk.box 31 [C.d (.sl none false .step wU), C.d (.sc (.int .i64 wV)), C.d (.sc (.int .i64 wW)), C.d (.sc (.int .i64 wX)), C.d (.sc (.int .i64 wY)), C.d (.sl none false .run wZ), C.d (.sc (.int .i64 zA))]) => K wU wV wW wX wY wZ zA
 | _ => .bad
def T1_zyqf_8 (e6 e7 e8 e10 e42 e43 e44 : V) (h0 h1 h2 h6 h24 h42 : Option Blk) : Tree := Uz2 e6 (U_zyqf_8_e7 e7 (U_zyqf_8_e8 e8 (U_zyqf_8_e10 e10 (U_zyqf_8_e42 e42 (fun qA => Uz3 e43 (fun qB => Uz3 e44 (fun t44_ => U_zyqf_8_h0 h0 (fun qC qD qE qF qG qH qI qJ qK qL qM qN qO qP qQ qR qS qT qU qV qW => Uz4 h1 (fun qX qY qZ rA rB => U_zyqf_8_h2 h2 (fun rC rD rE rF rG rH rI rJ rK rL rM rN rO rP rQ => U_zyqf_8_h6 h6 (fun rR rS rT rU rV rW rX rY rZ wA wB wC wD wE wF wG wH => U_zyqf_8_h24 h24 (fun wI wJ wK wL wM wN wO wP wQ h_24_9 h_24_10 h_24_11 wR wS wT => U_zyqf_8_h42 h42 (fun wU wV wW wX wY wZ zA => exT (fun j => ex_zyqf_8 qA qB qC qD qE qF qG qH qI qJ qK qL qM qN qO qP qQ qR qS qT qU qV qW qX qY qZ rA rB rC rD rE rF rG rH rI rJ rK rL rM rN rO rP rQ rR rS rT rU rV rW rX rY rZ wA wB wC wD wE wF wG wH wI wJ wK wL wM wN wO wP wQ wR wS wT wU wV wW wX wY wZ zA j (S.zyqf_8_v qA qB ⟨t44_, h_24_9, h_24_10, h_24_11⟩)) (S.zyqf_8_j qA qB ⟨t44_, h_24_9, h_24_10, h_24_11⟩) [0, 1, 2])))))))))))))
def T_zyqf_8 (st : St) : Tree := bif okSt 70 57 0 [0, 1, 2, 6, 24, 42] st then T1_zyqf_8 (st.env.getD 6 .any) (st.env.getD 7 .any) (st.env.getD 8 .any) (st.env.getD 10 .any) (st.env.getD 42 .any) (st.env.getD 43 .any) (st.env.getD 44 .any) (lk st.heap 0) (lk st.heap 1) (lk st.heap 2) (lk st.heap 6) (lk st.heap 24) (lk st.heap 42) else .bad
def b_zyqf_8 : Code := loopBy Tryz.f11 8
theorem rnd_zyqf_8 (qA : Lm) (qB qC qD : Int) (qE : OBz) (qF : Bool) (qG : Ls) (qH qI qJ qK : Int) (qL : OBz) (qM : Bool) (qN : Lr) (qO qP qQ : Int) (qR : OBz) (qS : Bool) (qT : Lm) (qU : Bool) (qV : Int) (qW : Bool) (qX : ByteArray) (qY : Int) (qZ : OBz) (rA : Bool) (rB : Lv) (rC rD : Int) (rE : Ls) (rF rG rH rI : Int) (rJ : Lr) (rK rL rM : Int) (rN : Lm) (rO : Bool) (rP : Int) (rQ : Bool) (rR rS : Int) (rT : OBz) (rU : Bool) (rV : Ls) (rW rX rY rZ : Int) (wA : Lr) (wB wC wD : Int) (wE : Lm) (wF : Bool) (wG : Int) (wH : Bool) (wI wJ : Int) (wK : Ls) (wL wM wN wO : Int) (wP : Lr) (wQ : Int) (wR : Bool) (wS : Int) (wT : Bool) (wU : Ls) (wV wW wX wY : Int) (wZ : Lr) (zA : Int) (v : S.zyqf_8_V) : round2 cx_zyqf (hdI cx_zyqf (find []) [(26, Tryz.f26), (28, Tryz.f28), (29, Tryz.f29)] none 3) 11 b_zyqf_8 [] 57 [6, 7, 8] (mk_zyqf_8 qA qB qC qD qE qF qG qH qI qJ qK qL qM qN qO qP qQ qR qS qT qU qV qW qX qY qZ rA rB rC rD rE rF rG rH rI rJ rK rL rM rN rO rP rQ rR rS rT rU rV rW rX rY rZ wA wB wC wD wE wF wG wH wI wJ wK wL wM wN wO wP wQ wR wS wT wU wV wW wX wY wZ zA v) = (S.zyqf_8_R qA qB v).go (roundOut (mk_zyqf_8 qA qB qC qD qE qF qG qH qI qJ qK qL qM qN qO qP qQ qR qS qT qU qV qW qX qY qZ rA rB rC rD rE rF rG rH rI rJ rK rL rM rN rO rP rQ rR rS rT rU rV rW rX rY rZ wA wB wC wD wE wF wG wH wI wJ wK wL wM wN wO wP wQ wR wS wT wU wV wW wX wY wZ zA) (ex_zyqf_8 qA qB qC qD qE qF qG qH qI qJ qK qL qM qN qO qP qQ qR qS qT qU qV qW qX qY qZ rA rB rC rD rE rF rG rH rI rJ rK rL rM rN rO rP rQ rR rS rT rU rV rW rX rY rZ wA wB wC wD wE wF wG wH wI wJ wK wL wM wN wO wP wQ wR wS wT wU wV wW wX wY wZ zA)) := by kernel_rfl
theorem bs_zyqf_8 : loopsOf b_zyqf_8 ++ loopsInl [(26, Tryz.f26), (28, Tryz.f28), (29, Tryz.f29)] = [] := by kernel_rfl
theorem ci_zyqf_8 (qA : Lm) (qB qC qD : Int) (qE : OBz) (qF : Bool) (qG : Ls) (qH qI qJ qK : Int) (qL : OBz) (qM : Bool) (qN : Lr) (qO qP qQ : Int) (qR : OBz) (qS : Bool) (qT : Lm) (qU : Bool) (qV : Int) (qW : Bool) (qX : ByteArray) (qY : Int) (qZ : OBz) (rA : Bool) (rB : Lv) (rC rD : Int) (rE : Ls) (rF rG rH rI : Int) (rJ : Lr) (rK rL rM : Int) (rN : Lm) (rO : Bool) (rP : Int) (rQ : Bool) (rR rS : Int) (rT : OBz) (rU : Bool) (rV : Ls) (rW rX rY rZ : Int) (wA : Lr) (wB wC wD : Int) (wE : Lm) (wF : Bool) (wG : Int) (wH : Bool) (wI wJ : Int) (wK : Ls) (wL wM wN wO : Int) (wP : Lr) (wQ : Int) (wR : Bool) (wS : Int) (wT : Bool) (wU : Ls) (wV wW wX wY : Int) (wZ : Lr) (zA : Int) : ∀ v j v2, Lp (S.zyqf_8_r qA qB) v = some (j, v2) → Circles Tryz.prog cx_zyqf b_zyqf_8 (mk_zyqf_8 qA qB qC qD qE qF qG qH qI qJ qK qL qM qN qO qP qQ qR qS qT qU qV qW qX qY qZ rA rB rC rD rE rF rG rH rI rJ rK rL rM rN rO rP rQ rR rS rT rU rV rW rX rY rZ wA wB wC wD wE wF wG wH wI wJ wK wL wM wN wO wP wQ wR wS wT wU wV wW wX wY wZ zA v) (ex_zyqf_8 qA qB qC qD qE qF qG qH qI qJ qK qL qM qN qO qP qQ qR qS qT qU qV qW qX qY qZ rA rB rC rD rE rF rG rH rI rJ rK rL rM rN rO rP rQ rR rS rT rU rV rW rX rY rZ wA wB wC wD wE wF wG wH wI wJ wK wL wM wN wO wP wQ wR wS wT wU wV wW wX wY wZ zA j v2).1 (ex_zyqf_8 qA qB qC qD qE qF qG qH qI qJ qK qL qM qN qO qP qQ qR qS qT qU qV qW qX qY qZ rA rB rC rD rE rF rG rH rI rJ rK rL rM rN rO rP rQ rR rS rT rU rV rW rX rY rZ wA wB wC wD wE wF wG wH wI wJ wK wL wM wN wO wP wQ wR wS wT wU wV wW wX wY wZ zA j v2).2 :=
 loop_ok2 (L := find []) (n := 3) (hints := [(11, 8, { keep := [6, 7, 8, 10, 42, 43, 44], acc := [] }), (11, 7, { keep := [], acc := [], frz := true }), (26, 7, { keep := [], acc := [], frz := true }), (28, 7, { keep := [], acc := [], frz := true }), (29, 7, { keep := [], acc := [], frz := true })]) (cx_ok rfl) rdy_zyqf bs_zyqf_8 nilB (fun v => (rnd_zyqf_8 qA qB qC qD qE qF qG qH qI qJ qK qL qM qN qO qP qQ qR qS qT qU qV qW qX qY qZ rA rB rC rD rE rF rG rH rI rJ rK rL rM rN rO rP rQ rR rS rT rU rV rW rX rY rZ wA wB wC wD wE wF wG wH wI wJ wK wL wM wN wO wP wQ wR wS wT wU wV wW wX wY wZ zA v).trans (DT.go_run _ _)) (by intro j v; unfold ex_zyqf_8; split <;> rfl)
theorem mke_zyqf_8 (qA : Lm) (qB qC qD : Int) (qE : OBz) (qF : Bool) (qG : Ls) (qH qI qJ qK : Int) (qL : OBz) (qM : Bool) (qN : Lr) (qO qP qQ : Int) (qR : OBz) (qS : Bool) (qT : Lm) (qU : Bool) (qV : Int) (qW : Bool) (qX : ByteArray) (qY : Int) (qZ : OBz) (rA : Bool) (rB : Lv) (rC rD : Int) (rE : Ls) (rF rG rH rI : Int) (rJ : Lr) (rK rL rM : Int) (rN : Lm) (rO : Bool) (rP : Int) (rQ : Bool) (rR rS : Int) (rT : OBz) (rU : Bool) (rV : Ls) (rW rX rY rZ : Int) (wA : Lr) (wB wC wD : Int) (wE : Lm) (wF : Bool) (wG : Int) (wH : Bool) (wI wJ : Int) (wK : Ls) (wL wM wN wO : Int) (wP : Lr) (wQ : Int) (wR : Bool) (wS : Int) (wT : Bool) (wU : Ls) (wV wW wX wY : Int) (wZ : Lr) (zA : Int) (v : S.zyqf_8_V) : mk_zyqf_8 qA qB qC qD qE qF qG qH qI qJ qK qL qM qN qO qP qQ qR qS qT qU qV qW qX qY qZ rA rB rC rD rE rF rG rH rI rJ rK rL rM rN rO rP rQ rR rS rT rU rV rW rX rY rZ wA wB wC wD wE wF wG wH wI wJ wK wL wM wN wO wP wQ wR wS wT wU wV wW wX wY wZ zA v = ⟨envOf 70 [(6, V.v false [C.ptr 2 0]), (7, V.v false [C.ptr 24 0]), (8, V.v false [C.ptr 42 0]), (10, V.v false [C.clo 28 [22 + 2] []]), (42, V.v false [cL .mat qA]), (43, (cV qB)), (44, (cV v.t44_))], heapOf 57 [(0, some
 (Blk.box 36
  [(cI qC), (cI qD), C.d (.sl qE qF .step qG), (cI qH),
   (cI qI), (cI qJ), (cI qK), C.d (.sl qL qM .run qN),
   (cI qO), (cI qP), (cI qQ), C.d (.sl qR qS .mat qT),
   cB qU, (cI qV), cB qW])), (1, some (Blk.box 43 [C.d (.sc (.str qX)), (cI qY), C.d (.sl qZ rA .val rB)])), (2, some
 (Blk.box 36
  [(cI rC), (cI rD), C.d (.sl (some true) true .step rE), (cI rF),
   (cI rG), (cI rH), (cI rI), C.d (.sl (some true) true .run rJ),
   (cI rK), (cI rL), (cI rM), C.d (.sl (some true) true .mat rN),
   cB rO, (cI rP), cB rQ])), (6, some
 (Blk.box 36
  [(cI rR), (cI rS), C.d (.sl rT rU .step rV), (cI rW),
   (cI rX), (cI rY), (cI rZ), cL .run wA,
   (cI wB), (cI wC), (cI wD), cL .mat wE,
   cB wF, (cI wG), cB wH])), (24, some
 (Blk.box 80
  [(cI wI), (cI wJ), cL .step wK, (cI wL),
   (cI wM), (cI wN), (cI wO), cL .run wP,
   (cI wQ), (cI v.h_24_9), (cI v.h_24_10), cL .mat v.h_24_11,
   cB wR, (cI wS), cB wT])), (42, some
 (Blk.box 31
  [cL .step wU, (cI wV), (cI wW), (cI wX),
   (cI wY), cL .run wZ, (cI zA)]))], 0⟩ := by kernel_rfl
theorem Ui_zyqf_8_e7 {x : V} {K : Tree} {z : Ex × St} (h : (U_zyqf_8_e7 x K).eval = some z) : x = V.v false [C.ptr 24 0] ∧ (K).eval = some z := by
 unfold U_zyqf_8_e7 at h
 split at h
 ·exact ⟨rfl, h⟩
 ·cases h
theorem Ui_zyqf_8_e8 {x : V} {K : Tree} {z : Ex × St} (h : (U_zyqf_8_e8 x K).eval = some z) : x = V.v false [C.ptr 42 0] ∧ (K).eval = some z := by
 unfold U_zyqf_8_e8 at h
 split at h
 ·exact ⟨rfl, h⟩
 ·cases h
theorem Ui_zyqf_8_e10 {x : V} {K : Tree} {z : Ex × St} (h : (U_zyqf_8_e10 x K).eval = some z) : x = V.v false [C.clo 28 [22 + 2] []] ∧ (K).eval = some z := by
 unfold U_zyqf_8_e10 at h
 split at h
 ·exact ⟨rfl, h⟩
 ·cases h
theorem Ui_zyqf_8_e42 {x : V} {K : Lm → Tree} {z : Ex × St} (h : (U_zyqf_8_e42 x K).eval = some z) : ∃ (qA : Lm), x = V.v false [C.d (.sl none false .mat qA)] ∧ (K qA).eval = some z := by
 unfold U_zyqf_8_e42 at h
 split at h
 ·exact ⟨_, rfl, h⟩
 ·cases h
theorem Ui_zyqf_8_h0 {x : Option Blk} {K : Int → Int → OBz → Bool → Ls → Int → Int → Int → Int → OBz → Bool → Lr → Int → Int → Int → OBz → Bool → Lm → Bool → Int → Bool → Tree} {z : Ex × St} (h : (U_zyqf_8_h0 x K).eval = some z) : ∃ (qC qD : Int) (qE : OBz) (qF : Bool) (qG : Ls) (qH qI qJ qK : Int) (qL : OBz) (qM : Bool) (qN : Lr) (qO qP qQ : Int) (qR : OBz) (qS : Bool) (qT : Lm) (qU : Bool) (qV : Int) (qW : Bool), x = some (Blk.box 36 [C.d (.sc (.int .i64 qC)), C.d (.sc (.int .i64 qD)), C.d (.sl qE qF .step qG), C.d (.sc (.int .i64 qH)), C.d (.sc (.int .i64 qI)), C.d (.sc (.int .i64 qJ)), C.d (.sc (.int .i64 qK)), C.d (.sl qL qM .run qN), C.d (.sc (.int .i64 qO)), C.d (.sc (.int .i64 qP)), C.d (.sc (.int .i64 qQ)), C.d (.sl qR qS .mat qT), C.d (.sc (.bool qU)), C.d (.sc (.int .i64 qV)), C.d (.sc (.bool qW))]) ∧ (K qC qD qE qF qG qH qI qJ qK qL qM qN qO qP qQ qR qS qT qU qV qW).eval = some z := by
 unfold U_zyqf_8_h0 at h
 split at h
 ·exact ⟨_, _, _, _, _, _, _, _, _, _, _, _, _, _, _, _, _, _, _, _, _, rfl, h⟩
 ·cases h
theorem Ui_zyqf_8_h2 {x : Option Blk} {K : Int → Int → Ls → Int → Int → Int → Int → Lr → Int → Int → Int → Lm → Bool → Int → Bool → Tree} {z : Ex × St} (h : (U_zyqf_8_h2 x K).eval = some z) : ∃ (rC rD : Int) (rE : Ls) (rF rG rH rI : Int) (rJ : Lr) (rK rL rM : Int) (rN : Lm) (rO : Bool) (rP : Int) (rQ : Bool), x = some (Blk.box 36 [C.d (.sc (.int .i64 rC)), C.d (.sc (.int .i64 rD)), C.d (.sl (some true) true .step rE), C.d (.sc (.int .i64 rF)), C.d (.sc (.int .i64 rG)), C.d (.sc (.int .i64 rH)), C.d (.sc (.int .i64 rI)), C.d (.sl (some true) true .run rJ), C.d (.sc (.int .i64 rK)), C.d (.sc (.int .i64 rL)), C.d (.sc (.int .i64 rM)), C.d (.sl (some true) true .mat rN), C.d (.sc (.bool rO)), C.d (.sc (.int .i64 rP)), C.d (.sc (.bool rQ))]) ∧ (K rC rD rE rF rG rH rI rJ rK rL rM rN rO rP rQ).eval = some z := by
 unfold U_zyqf_8_h2 at h
 split at h
 ·exact ⟨_, _, _, _, _, _, _, _, _, _, _, _, _, _, _, rfl, h⟩
 ·cases h
theorem Ui_zyqf_8_h6 {x : Option Blk} {K : Int → Int → OBz → Bool → Ls → Int → Int → Int → Int → Lr → Int → Int → Int → Lm → Bool → Int → Bool → Tree} {z : Ex × St} (h : (U_zyqf_8_h6 x K).eval = some z) : ∃ (rR rS : Int) (rT : OBz) (rU : Bool) (rV : Ls) (rW rX rY rZ : Int) (wA : Lr) (wB wC wD : Int) (wE : Lm) (wF : Bool) (wG : Int) (wH : Bool), x = some (Blk.box 36 [C.d (.sc (.int .i64 rR)), C.d (.sc (.int .i64 rS)), C.d (.sl rT rU .step rV), C.d (.sc (.int .i64 rW)), C.d (.sc (.int .i64 rX)), C.d (.sc (.int .i64 rY)), C.d (.sc (.int .i64 rZ)), C.d (.sl none false .run wA), C.d (.sc (.int .i64 wB)), C.d (.sc (.int .i64 wC)), C.d (.sc (.int .i64 wD)), C.d (.sl none false .mat wE), C.d (.sc (.bool wF)), C.d (.sc (.int .i64 wG)), C.d (.sc (.bool wH))]) ∧ (K rR rS rT rU rV rW rX rY rZ wA wB wC wD wE wF wG wH).eval = some z := by
 unfold U_zyqf_8_h6 at h
 split at h
 ·exact ⟨_, _, _, _, _, _, _, _, _, _, _, _, _, _, _, _, _, rfl, h⟩
 ·cases h
theorem Ui_zyqf_8_h24 {x : Option Blk} {K : Int → Int → Ls → Int → Int → Int → Int → Lr → Int → Int → Int → Lm → Bool → Int → Bool → Tree} {z : Ex × St} (h : (U_zyqf_8_h24 x K).eval = some z) : ∃ (wI wJ : Int) (wK : Ls) (wL wM wN wO : Int) (wP : Lr) (wQ h_24_9 h_24_10 : Int) (h_24_11 : Lm) (wR : Bool) (wS : Int) (wT : Bool), x = some (Blk.box 80 [C.d (.sc (.int .i64 wI)), C.d (.sc (.int .i64 wJ)), C.d (.sl none false .step wK), C.d (.sc (.int .i64 wL)), C.d (.sc (.int .i64 wM)), C.d (.sc (.int .i64 wN)), C.d (.sc (.int .i64 wO)), C.d (.sl none false .run wP), C.d (.sc (.int .i64 wQ)), C.d (.sc (.int .i64 h_24_9)), C.d (.sc (.int .i64 h_24_10)), C.d (.sl none false .mat h_24_11), C.d (.sc (.bool wR)), C.d (.sc (.int .i64 wS)), C.d (.sc (.bool wT))]) ∧ (K wI wJ wK wL wM wN wO wP wQ h_24_9 h_24_10 h_24_11 wR wS wT).eval = some z := by
 unfold U_zyqf_8_h24 at h
 split at h
 ·exact ⟨_, _, _, _, _, _, _, _, _, _, _, _, _, _, _, rfl, h⟩
 ·cases h
theorem Ui_zyqf_8_h42 {x : Option Blk} {K : Ls → Int → Int → Int → Int → Lr → Int → Tree} {z : Ex × St} (h : (U_zyqf_8_h42 x K).eval = some z) : ∃ (wU : Ls) (wV wW wX wY : Int) (wZ : Lr) (zA : Int), x = some (Blk.box 31 [C.d (.sl none false .step wU), C.d (.sc (.int .i64 wV)), C.d (.sc (.int .i64 wW)), C.d (.sc (.int .i64 wX)), C.d (.sc (.int .i64 wY)), C.d (.sl none false .run wZ), C.d (.sc (.int .i64 zA))]) ∧ (K wU wV wW wX wY wZ zA).eval = some z := by
 unfold U_zyqf_8_h42 at h
 split at h
 ·exact ⟨_, _, _, _, _, _, _, rfl, h⟩
 ·cases h
theorem lo1_zyqf_8 (e6 e7 e8 e10 e42 e43 e44 : V) (h0 h1 h2 h6 h24 h42 : Option Blk) e st2 (h : (T1_zyqf_8 e6 e7 e8 e10 e42 e43 e44 h0 h1 h2 h6 h24 h42).eval = some (e, st2)) : Circles Tryz.prog cx_zyqf b_zyqf_8 ⟨envOf 70 [(6, e6), (7, e7), (8, e8), (10, e10), (42, e42), (43, e43), (44, e44)], heapOf 57 [(0, h0), (1, h1), (2, h2), (6, h6), (24, h24), (42, h42)], 0⟩ e st2 := by
 unfold T1_zyqf_8 at h
 obtain ⟨rfl, h⟩ := Uz2i h
 obtain ⟨rfl, h⟩ := Ui_zyqf_8_e7 h
 obtain ⟨rfl, h⟩ := Ui_zyqf_8_e8 h
 obtain ⟨rfl, h⟩ := Ui_zyqf_8_e10 h
 obtain ⟨qA, rfl, h⟩ := Ui_zyqf_8_e42 h
 obtain ⟨qB, rfl, h⟩ := Uz3i h
 obtain ⟨t44_, rfl, h⟩ := Uz3i h
 obtain ⟨qC, qD, qE, qF, qG, qH, qI, qJ, qK, qL, qM, qN, qO, qP, qQ, qR, qS, qT, qU, qV, qW, rfl, h⟩ := Ui_zyqf_8_h0 h
 obtain ⟨qX, qY, qZ, rA, rB, rfl, h⟩ := Uz4i h
 obtain ⟨rC, rD, rE, rF, rG, rH, rI, rJ, rK, rL, rM, rN, rO, rP, rQ, rfl, h⟩ := Ui_zyqf_8_h2 h
 obtain ⟨rR, rS, rT, rU, rV, rW, rX, rY, rZ, wA, wB, wC, wD, wE, wF, wG, wH, rfl, h⟩ := Ui_zyqf_8_h6 h
 obtain ⟨wI, wJ, wK, wL, wM, wN, wO, wP, wQ, h_24_9, h_24_10, h_24_11, wR, wS, wT, rfl, h⟩ := Ui_zyqf_8_h24 h
 obtain ⟨wU, wV, wW, wX, wY, wZ, zA, rfl, h⟩ := Ui_zyqf_8_h42 h
 have := loop_tree (mk := mk_zyqf_8 qA qB qC qD qE qF qG qH qI qJ qK qL qM qN qO qP qQ qR qS qT qU qV qW qX qY qZ rA rB rC rD rE rF rG rH rI rJ rK rL rM rN rO rP rQ rR rS rT rU rV rW rX rY rZ wA wB wC wD wE wF wG wH wI wJ wK wL wM wN wO wP wQ wR wS wT wU wV wW wX wY wZ zA) (ci_zyqf_8 qA qB qC qD qE qF qG qH qI qJ qK qL qM qN qO qP qQ qR qS qT qU qV qW qX qY qZ rA rB rC rD rE rF rG rH rI rJ rK rL rM rN rO rP rQ rR rS rT rU rV rW rX rY rZ wA wB wC wD wE wF wG wH wI wJ wK wL wM wN wO wP wQ wR wS wT wU wV wW wX wY wZ zA) _ _ e st2 h
 rw [mke_zyqf_8] at this
 exact this
theorem lok_zyqf_8 : LoopOk Tryz.prog cx_zyqf b_zyqf_8 T_zyqf_8 := by
 intro st e st2 h
 unfold T_zyqf_8 at h
 cases hk : okSt 70 57 0 [0, 1, 2, 6, 24, 42] st with
 | false => rw [hk] at h; cases h
 | true =>
  rw [hk] at h
  exact circles_keep (ks := [6, 7, 8, 10, 42, 43, 44]) hk (lo1_zyqf_8 _ _ _ _ _ _ _ _ _ _ _ _ _ e st2 h)
structure S.zyqf_T where
 x0 : Int
 x1 : Int
 x2 : Ls
 x3 : Int
 x4 : Int
 x5 : Int
 x6 : Int
 x7 : Lr
 x8 : Int
 x9 : Int
 x10 : Int
 x11 : Lm
 x12 : Bool
 x13 : Int
 x14 : Bool
 deriving Inhabited
def S.zyqf_R (a0_0 a0_1 : Int) (a0_2 : Ls) (a0_3 a0_4 a0_5 a0_6 : Int) (a0_7 : Lr) (a0_8 a0_9 a0_10 : Int) (a0_11 : Lm) (a0_12 : Bool) (a0_13 : Int) (a0_14 : Bool) (a1_0 : ByteArray) (a1_1 : Int) (a1_2 : Lv) (a2 : Int) : DT S.zyqf_T :=
let y0 : Nat := 0 + (S.zjge_o a0_7).x1
let y1 : Nat := (S.zjge_o a0_7).x0.length
let y2 : Nat := 0 + (S.zamm_o a0_11).x1
let y3 : Nat := (S.zamm_o a0_11).x0.length
let y4 : Bool := xdec (y0 ≤ y1) && true && (xdec (y2 ≤ y3) && true && true) && true
let y5 : Lr := sub (S.zjge_o a0_7).x0 0 y0
let y6 : Lm := sub (S.zamm_o a0_11).x0 0 y2
let y7 : Bool := bif decide (y2 ≤ y3) then true else false
let y8 := S.zxf7_o a0_2 a0_3 a0_4 a0_5 a0_6 a0_7 a0_8 a1_0 a1_1 a1_2 a2
let y9 := y8.x7
let y10 : Int := (↑y9.length : Int)
let y11 : S.zyqf_8_V := { t44_ := 0, h_24_9 := a0_9, h_24_10 := a0_10, h_24_11 := y6 : S.zyqf_8_V }
let y12 := y8.x0
let y13 := y8.x1
let y14 := y8.x2
let y15 := y8.x3
let y16 := y8.x4
let y17 := y8.x6
let y18 := S.zyqf_8_v y9 y10 y11
let y19 := y18.h_24_9
let y20 := y18.h_24_10
let y21 := y18.h_24_11
let y22 : Ty .mat := y9.getD y18.t44_.toNat (dflt .mat)
let y23 := S.z22l_o y19 y20 y21 y22.start y22.fin y22.agg y22.bad
let y24 := y23.x0
let y25 := y23.x1
let y26 := y8.x5
(.br (S.zjge_is a0_7)
(.br (S.zamm_is a0_11)
(.br (S.zc6y_is a0_0 a0_1 a0_2 a0_7 a0_8 a0_9 a0_10 a0_11 a0_13 a0_14)
(.br (xnot (S.zc6y_o a0_0 a0_1 a0_2 a0_7 a0_8 a0_9 a0_10 a0_11 a0_13 a0_14).x0)
(.br (y4)
(.leaf ⟨a0_0, a0_1, a0_2, a0_3, a0_4, a0_5, a0_6, y5, a0_8, a0_9, a0_10, y6, a0_12, a0_13, a0_14⟩)
.fail)
(.br (xneI a0_13 0)
(.br (y4)
(.leaf ⟨a0_0, a0_1, a0_2, a0_3, a0_4, a0_5, a0_6, y5, a0_8, a0_9, a0_10, y6, a0_12, a0_13, a0_14⟩)
.fail)
(.br (S.zxf7_is a0_2 a0_3 a0_4 a0_5 a0_6 a0_7 a0_8 a1_0 a1_1 a1_2 a2)
(.br (bif bif decide (y0 ≤ y1) then y7 else false then bif y7 then true else false else false)
(.br (S.zyqf_8_j y9 y10 y11 0)
(.leaf ⟨a0_0, a0_1, y12, y13, y14, y15, y16, [], y17, y24, y25, sub y23.x2 0 (xwrap .i64 (y25 - y24)).toNat, a0_12, 2, a0_14⟩)
(.br (S.zyqf_8_j y9 y10 y11 1)
(.leaf ⟨a0_0, a0_1, y12, y13, y14, y15, y16, [], y17, y19, y20, sub y21 0 (xwrap .i64 (y20 - y19)).toNat, a0_12, 2, a0_14⟩)
(.br (S.zyqf_8_j y9 y10 y11 2)
(.br (xneI y17 (-1))
(.leaf ⟨a0_0, a0_1, y12, y13, y14, y15, y16, y26, y17, y19, y20, y21, a0_12, 1, a0_14⟩)
(.leaf ⟨a0_0, a0_1, y12, y13, y14, y15, y16, y26, y17, y19, y20, y21, a0_12, a0_13, a0_14⟩))
.fail)))
.fail)
.fail)))
.fail)
.fail)
.fail)
def S.zyqf (a0_0 a0_1 : Int) (a0_2 : Ls) (a0_3 a0_4 a0_5 a0_6 : Int) (a0_7 : Lr) (a0_8 a0_9 a0_10 : Int) (a0_11 : Lm) (a0_12 : Bool) (a0_13 : Int) (a0_14 : Bool) (a1_0 : ByteArray) (a1_1 : Int) (a1_2 : Lv) (a2 : Int) : Option S.zyqf_T := (S.zyqf_R a0_0 a0_1 a0_2 a0_3 a0_4 a0_5 a0_6 a0_7 a0_8 a0_9 a0_10 a0_11 a0_12 a0_13 a0_14 a1_0 a1_1 a1_2 a2).run
def S.zyqf_is (a0_0 a0_1 : Int) (a0_2 : Ls) (a0_3 a0_4 a0_5 a0_6 : Int) (a0_7 : Lr) (a0_8 a0_9 a0_10 : Int) (a0_11 : Lm) (a0_12 : Bool) (a0_13 : Int) (a0_14 : Bool) (a1_0 : ByteArray) (a1_1 : Int) (a1_2 : Lv) (a2 : Int) : Bool := (S.zyqf a0_0 a0_1 a0_2 a0_3 a0_4 a0_5 a0_6 a0_7 a0_8 a0_9 a0_10 a0_11 a0_12 a0_13 a0_14 a1_0 a1_1 a1_2 a2).isSome
def S.zyqf_o (a0_0 a0_1 : Int) (a0_2 : Ls) (a0_3 a0_4 a0_5 a0_6 : Int) (a0_7 : Lr) (a0_8 a0_9 a0_10 : Int) (a0_11 : Lm) (a0_12 : Bool) (a0_13 : Int) (a0_14 : Bool) (a1_0 : ByteArray) (a1_1 : Int) (a1_2 : Lv) (a2 : Int) : S.zyqf_T := (S.zyqf a0_0 a0_1 a0_2 a0_3 a0_4 a0_5 a0_6 a0_7 a0_8 a0_9 a0_10 a0_11 a0_12 a0_13 a0_14 a1_0 a1_1 a1_2 a2).getD default
def ret_zyqf (b : Bool) (r : S.zyqf_T) : Ret := ⟨b, none, [(true,
    [(cI r.x0), (cI r.x1), cL .step r.x2, (cI r.x3),
     (cI r.x4), (cI r.x5), (cI r.x6), cL .run r.x7,
     (cI r.x8), (cI r.x9), (cI r.x10), cL .mat r.x11,
     cB r.x12, (cI r.x13), cB r.x14])]⟩
def g_zyqf : Con
 | [(true, [.sc (.int .i64 a0_0), .sc (.int .i64 a0_1), .sl a0_2n a0_2f .step a0_2, .sc (.int .i64 a0_3), .sc (.int .i64 a0_4), .sc (.int .i64 a0_5), .sc (.int .i64 a0_6), .sl a0_7n a0_7f .run a0_7, .sc (.int .i64 a0_8), .sc (.int .i64 a0_9), .sc (.int .i64 a0_10), .sl a0_11n a0_11f .mat a0_11, .sc (.bool a0_12), .sc (.int .i64 a0_13), .sc (.bool a0_14)]), (true, [.sc (.str a1_0), .sc (.int .i64 a1_1), .sl a1_2n a1_2f .val a1_2]), (false, [.sc (.int .i64 a2)])] => some (ret_zyqf (S.zyqf_is a0_0 a0_1 a0_2 a0_3 a0_4 a0_5 a0_6 a0_7 a0_8 a0_9 a0_10 a0_11 a0_12 a0_13 a0_14 a1_0 a1_1 a1_2 a2) (S.zyqf_o a0_0 a0_1 a0_2 a0_3 a0_4 a0_5 a0_6 a0_7 a0_8 a0_9 a0_10 a0_11 a0_12 a0_13 a0_14 a1_0 a1_1 a1_2 a2))
 | _ => none
theorem raw_zyqf (a0_0 a0_1 : Int) (a0_2n : OBz) (a0_2f : Bool) (a0_2 : Ls) (a0_3 a0_4 a0_5 a0_6 : Int) (a0_7n : OBz) (a0_7f : Bool) (a0_7 : Lr) (a0_8 a0_9 a0_10 : Int) (a0_11n : OBz) (a0_11f : Bool) (a0_11 : Lm) (a0_12 : Bool) (a0_13 : Int) (a0_14 : Bool) (a1_0 : ByteArray) (a1_1 : Int) (a1_2n : OBz) (a1_2f : Bool) (a1_2 : Lv) (a2 : Int) : evR2 cx_zyqf (hdI cx_zyqf (find [(8, T_zyqf_8)]) [(26, Tryz.f26), (28, Tryz.f28), (29, Tryz.f29)] none 3) none Tryz.f11 11 none [(true, [dI a0_0, dI a0_1, .sl a0_2n a0_2f .step a0_2, dI a0_3, dI a0_4, dI a0_5, dI a0_6, .sl a0_7n a0_7f .run a0_7, dI a0_8, dI a0_9, dI a0_10, .sl a0_11n a0_11f .mat a0_11, .sc (.bool a0_12), dI a0_13, .sc (.bool a0_14)]), (true, [.sc (.str a1_0), dI a1_1, .sl a1_2n a1_2f .val a1_2]), (false, [dI a2])] some = (S.zyqf_R a0_0 a0_1 a0_2 a0_3 a0_4 a0_5 a0_6 a0_7 a0_8 a0_9 a0_10 a0_11 a0_12 a0_13 a0_14 a1_0 a1_1 a1_2 a2).go (ret_zyqf true) := by kernel_rfl
theorem bs_zyqf : loopsIn Tryz.f11 [(26, Tryz.f26), (28, Tryz.f28), (29, Tryz.f29)] = [b_zyqf_8] := by kernel_rfl
theorem zyqf_ok : Stands Tryz.prog tyTab 11 g_zyqf := by
 refine stands3 (L := find [(8, T_zyqf_8)]) (n := 3) (hints := [(11, 8, { keep := [6, 7, 8, 10, 42, 43, 44], acc := [] }), (11, 7, { keep := [], acc := [], frz := true }), (26, 7, { keep := [], acc := [], frz := true }), (28, 7, { keep := [], acc := [], frz := true }), (29, 7, { keep := [], acc := [], frz := true })]) (cx_ok rfl) rdy_zyqf ⟨by kernel_rfl, by kernel_rfl, by kernel_rfl⟩ bs_zyqf (consB (fun T h => by have e : T_zyqf_8 = T := Option.some.inj (show some T_zyqf_8 = some T from h); exact e ▸ lok_zyqf_8) nilB) (fun das r hG hr => ?_)
 unfold g_zyqf at hG
 split at hG
 ·rename_i a0_0 a0_1 a0_2n a0_2f a0_2 a0_3 a0_4 a0_5 a0_6 a0_7n a0_7f a0_7 a0_8 a0_9 a0_10 a0_11n a0_11f a0_11 a0_12 a0_13 a0_14 a1_0 a1_1 a1_2n a1_2f a1_2 a2
  injection hG with hG; subst hG
  exact ⟨none, true, win default ((raw_zyqf a0_0 a0_1 a0_2n a0_2f a0_2 a0_3 a0_4 a0_5 a0_6 a0_7n a0_7f a0_7 a0_8 a0_9 a0_10 a0_11n a0_11f a0_11 a0_12 a0_13 a0_14 a1_0 a1_1 a1_2n a1_2f a1_2 a2).trans (DT.go_run _ _)) hr⟩
 ·cases hG
end
end Go.Eng
