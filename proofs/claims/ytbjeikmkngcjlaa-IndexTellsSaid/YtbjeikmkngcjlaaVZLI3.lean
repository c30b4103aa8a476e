/- Contracts, laid by program. -/
import Derived.Test.YtbjeikmkngcjlaaVZG18
set_option linter.unusedVariables false
namespace Go.Eng
noncomputable section
open Go Go.Eng Go.Proofs Go.Eng.Tab
abbrev cx_zimu : Cx := mkCx2 tyTab [(33, g_zg3i), (34, g_zzvx), (35, g_z6mj), (36, g_z6c2), (37, g_zzsx), (38, g_zhje), (39, g_zdrt), (40, g_zecp), (41, g_zgtf), (42, g_zerv), (43, g_zv4a), (44, g_zu7f), (45, g_zgkp), (46, g_zcq4), (47, g_zh5h)] [] [] []
theorem rdy_zimu : Ready Try.prog tyTab [(33, g_zg3i), (34, g_zzvx), (35, g_z6mj), (36, g_z6c2), (37, g_zzsx), (38, g_zhje), (39, g_zdrt), (40, g_zecp), (41, g_zgtf), (42, g_zerv), (43, g_zv4a), (44, g_zu7f), (45, g_zgkp), (46, g_zcq4), (47, g_zh5h)] [] [] := ⟨consG2 zg3i_ok (consG2 zzvx_ok (consG2 z6mj_ok (consG2 z6c2_ok (consG2 zzsx_ok (consG2 zhje_ok (consG2 zdrt_ok (consG2 zecp_ok (consG2 zgtf_ok (consG2 zerv_ok (consG2 zv4a_ok (consG2 zu7f_ok (consG2 zgkp_ok (consG2 zcq4_ok (consG2 zh5h_ok (noneG2))))))))))))))), noneI2, noneF2⟩
structure S.zimu_T where
 x0 : Bool
 deriving Inhabited
def S.zimu_R (a0 : List (Ty .query)) (a1 : List (Ty .pred)) (a2_0 : ByteArray) (a2_1 : List (Ty .op)) (a3_0 : ByteArray) (a3_1 : Int) (a3_2 : List (Ty .val)) : DT S.zimu_T :=
let y0 : Nat := 0 + (S.zdrt_o a0).x2
let y1 : Nat := 0 + (S.zecp_o a0).x2
let y2 : List (Ty .pred) := sub (S.zdrt_o a0).x0 0 y0
let y3 : List (Ty .pred) := sub (S.zecp_o a0).x0 0 y1
let y4 : S.zv4a_T := S.zv4a_o a1 a3_0 a3_1 a3_2
let y5 : Nat := 0 + y4.x2
let y6 : List (Ty .bool) := y4.x0
let y7 : List (Ty .bool) := (S.zerv_o a1 a3_0 a3_1 a3_2).x0
let y8 : List (Ty .bool) := sub y6 0 y5
(.br (S.zg3i_is)
(.br (S.zzvx_is a0)
(.br (S.z6mj_is a1)
(.br (S.z6c2_is a3_0 a3_2)
(.br (S.zzsx_is a2_1)
(.br (xnot S.zg3i_o.x0)
(.leaf ⟨S.zg3i_o.x0⟩)
(.br (xnot (S.zzvx_o a0).x0)
(.leaf ⟨S.zg3i_o.x0⟩)
(.br (xnot (S.z6mj_o a1).x0)
(.leaf ⟨S.zg3i_o.x0⟩)
(.br (xnot (S.z6c2_o a3_0 a3_2).x0)
(.leaf ⟨S.zg3i_o.x0⟩)
(.br (xnot (S.zzsx_o a2_1).x0)
(.leaf ⟨S.zg3i_o.x0⟩)
(.br (S.zdrt_is a0)
(.br (S.zecp_is a0)
(.br (xdec (y0 ≤ (S.zdrt_o a0).x0.length) && true && (xdec (y1 ≤ (S.zecp_o a0).x0.length) && true && true) && S.zhje_is y2 y3)
(.br (S.zerv_is a1 a3_0 a3_1 a3_2)
(.br (S.zv4a_is a1 a3_0 a3_1 a3_2)
(.br (xdec (y5 ≤ y6.length) && true && true && S.zgtf_is y7 y8)
(.br (S.zu7f_is a2_0 a2_1 a3_0 a3_1 a3_2)
(.br ((S.zhje_o y2 y3).x0)
(.br ((S.zgtf_o y7 y8).x0)
(.br (S.zgkp_is a1 a2_0 a2_1)
(.br (S.zcq4_is a1 a2_0 a2_1)
(.br (xeqI (S.zgkp_o a1 a2_0 a2_1).x0 (S.zcq4_o a1 a2_0 a2_1).x0)
(.br (S.zh5h_is a2_0 a2_1 a3_0 a3_1 a3_2)
(.leaf ⟨(S.zh5h_o a2_0 a2_1 a3_0 a3_1 a3_2).x0 == (S.zu7f_o a2_0 a2_1 a3_0 a3_1 a3_2).x0⟩)
.fail)
(.leaf ⟨false⟩))
.fail)
.fail)
(.leaf ⟨false⟩))
(.leaf ⟨false⟩))
.fail)
.fail)
.fail)
.fail)
.fail)
.fail)
.fail))))))
.fail)
.fail)
.fail)
.fail)
.fail)
def S.zimu (a0 : List (Ty .query)) (a1 : List (Ty .pred)) (a2_0 : ByteArray) (a2_1 : List (Ty .op)) (a3_0 : ByteArray) (a3_1 : Int) (a3_2 : List (Ty .val)) : Option S.zimu_T := (S.zimu_R a0 a1 a2_0 a2_1 a3_0 a3_1 a3_2).run
def S.zimu_is (a0 : List (Ty .query)) (a1 : List (Ty .pred)) (a2_0 : ByteArray) (a2_1 : List (Ty .op)) (a3_0 : ByteArray) (a3_1 : Int) (a3_2 : List (Ty .val)) : Bool := (S.zimu a0 a1 a2_0 a2_1 a3_0 a3_1 a3_2).isSome
def S.zimu_o (a0 : List (Ty .query)) (a1 : List (Ty .pred)) (a2_0 : ByteArray) (a2_1 : List (Ty .op)) (a3_0 : ByteArray) (a3_1 : Int) (a3_2 : List (Ty .val)) : S.zimu_T := (S.zimu a0 a1 a2_0 a2_1 a3_0 a3_1 a3_2).getD default
def ret_zimu (b : Bool) (r : S.zimu_T) : Ret := ⟨b, none, [(false, [C.d (.sc (.bool r.x0))])]⟩
def g_zimu : Con
 | [(false, [.sl a0n a0f .query a0]), (false, [.sl a1n a1f .pred a1]), (true, [.sc (.str a2_0), .sl a2_1n a2_1f .op a2_1]), (true, [.sc (.str a3_0), .sc (.int .i64 a3_1), .sl a3_2n a3_2f .val a3_2])] => some (ret_zimu (S.zimu_is a0 a1 a2_0 a2_1 a3_0 a3_1 a3_2) (S.zimu_o a0 a1 a2_0 a2_1 a3_0 a3_1 a3_2))
 | _ => none
theorem raw_zimu (a0n : Option Bool) (a0f : Bool) (a0 : List (Ty .query)) (a1n : Option Bool) (a1f : Bool) (a1 : List (Ty .pred)) (a2_0 : ByteArray) (a2_1n : Option Bool) (a2_1f : Bool) (a2_1 : List (Ty .op)) (a3_0 : ByteArray) (a3_1 : Int) (a3_2n : Option Bool) (a3_2f : Bool) (a3_2 : List (Ty .val)) : evR2 cx_zimu (hdI cx_zimu (find []) [] none 0) none Try.f3 3 none [(false, [.sl a0n a0f .query a0]), (false, [.sl a1n a1f .pred a1]), (true, [.sc (.str a2_0), .sl a2_1n a2_1f .op a2_1]), (true, [.sc (.str a3_0), .sc (.int .i64 a3_1), .sl a3_2n a3_2f .val a3_2])] some = (S.zimu_R a0 a1 a2_0 a2_1 a3_0 a3_1 a3_2).go (ret_zimu true) := by kernel_rfl
theorem bs_zimu : loopsIn Try.f3 [] = [] := by kernel_rfl
theorem zimu_ok : Stands Try.prog tyTab 3 g_zimu := by
 refine stands3 (L := find []) (n := 0) (hints := []) (cx_ok rfl) rdy_zimu ⟨by kernel_rfl, by kernel_rfl, by kernel_rfl⟩ bs_zimu nilB (fun das r hG hr => ?_)
 unfold g_zimu at hG
 split at hG
 ·rename_i a0n a0f a0 a1n a1f a1 a2_0 a2_1n a2_1f a2_1 a3_0 a3_1 a3_2n a3_2f a3_2
  injection hG with hG; subst hG
  exact ⟨none, true, win default ((raw_zimu a0n a0f a0 a1n a1f a1 a2_0 a2_1n a2_1f a2_1 a3_0 a3_1 a3_2n a3_2f a3_2).trans (DT.go_run _ _)) hr⟩
 ·cases hG
end
end Go.Eng
