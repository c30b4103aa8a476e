/- Contracts, laid by program. -/
import Derived.Test.YtbjeikmkngcjlaaVZG16
set_option linter.unusedVariables false
namespace Go.Eng
noncomputable section
open Go Go.Eng Go.Proofs Go.Eng.Tab
abbrev cx_zqwe : Cx := mkCx2 tyTab [(33, g_zg3i), (35, g_z6mj), (42, g_zxuk)] [] [(8, 10, { keep := [0, 3, 7, 8], acc := [] })] []
theorem rdy_zqwe : Ready Try.prog tyTab [(33, g_zg3i), (35, g_z6mj), (42, g_zxuk)] [] [] := ⟨consG2 zg3i_ok (consG2 z6mj_ok (consG2 zxuk_ok (noneG2))), noneI2, noneF2⟩
structure S.zqwe_10_V where
 t8_ : Int
def S.zqwe_10_R (qA : List (Ty .pred)) (t7_l : Nat) (qB : ByteArray) (h_17 : List (Ty .bool)) (v : S.zqwe_10_V) : DT (Option Nat × S.zqwe_10_V) :=
let y0 : Bool := xdec (v.t8_ < (↑qA.length : Int))
let y1 : Bool := xdec (0 ≤ v.t8_)
let y2 : Nat := 0 + v.t8_.toNat
let y3 : Bool := y1 && y0
let y4 : Ty .pred := qA.getD v.t8_.toNat (dflt .pred)
let y5 : Ty .bool := h_17.getD y2 (dflt .bool)
let y6 : Int := xwrap .i64 (v.t8_ + 1)
(.br (y0)
(.br (y1 && xdec (v.t8_ < (↑t7_l : Int)))
(.br (xdec (y2 < h_17.length))
(.br (y3)
(.br (xdec (y4.name = qB))
(.br (y3)
(.br (bif y5 == xeqI (↑y4.ifs.length : Int) 0 then false else true)
(.leaf (some 0, v))
(.leaf (none, ⟨y6⟩)))
.fail)
(.br (bif y5 == false then false else true)
(.leaf (some 0, v))
(.leaf (none, ⟨y6⟩))))
.fail)
.fail)
.fail)
(.leaf (some 1, v)))
def S.zqwe_10_r (qA : List (Ty .pred)) (t7_l : Nat) (qB : ByteArray) (h_17 : List (Ty .bool)) (v : S.zqwe_10_V) : Option (Option Nat × S.zqwe_10_V) := (S.zqwe_10_R qA t7_l qB h_17 v).run
def S.zqwe_10_j (qA : List (Ty .pred)) (t7_l : Nat) (qB : ByteArray) (h_17 : List (Ty .bool)) (v : S.zqwe_10_V) (j : Nat) : Bool := Lp_j (S.zqwe_10_r qA t7_l qB h_17) v j
def S.zqwe_10_v (qA : List (Ty .pred)) (t7_l : Nat) (qB : ByteArray) (h_17 : List (Ty .bool)) (v : S.zqwe_10_V) : S.zqwe_10_V := Lp_v (S.zqwe_10_r qA t7_l qB h_17) v
def mk_zqwe_10 (qC : Option Bool) (qD : Bool) (qA : List (Ty .pred)) (t7_l : Nat) (qB : ByteArray) (qE : Int) (qF : Option Bool) (qG : Bool) (qH : List (Ty .val)) (h_17 : List (Ty .bool)) (v : S.zqwe_10_V) : St := ⟨(V.v false [C.d (.sl qC qD .pred qA)] :: (V.any :: (V.any :: (V.v false [C.ptr 0 0] :: (vs 3 (V.v false [C.own 17 .bool true 0 t7_l] :: ((cV v.t8_) :: (vs 47 [])))))))), (some (Blk.box 29 [C.d (.sc (.str qB)), (cI qE), C.d (.sl qF qG .val qH)]) :: (ns 16 (some (Blk.arr 4 .bool h_17) :: (ns 7 [])))), 0⟩
def ex_zqwe_10 (qC : Option Bool) (qD : Bool) (qA : List (Ty .pred)) (t7_l : Nat) (qB : ByteArray) (qE : Int) (qF : Option Bool) (qG : Bool) (qH : List (Ty .val)) (h_17 : List (Ty .bool)) (j : Nat) (v : S.zqwe_10_V) : Ex × St := match j with
 | 0 => (Ex.ret, ⟨(vs 4 (V.v false [C.d (.sc (.bool false))] :: (vs 51 []))), (some (Blk.box 29 [C.d (.sc (.str qB)), (cI qE), C.d (.sl qF qG .val qH)]) :: (ns 16 (some (Blk.arr 4 .bool h_17) :: (ns 34 [])))), 0⟩)
 | 1 => (Ex.exit 0, ⟨(vs 56 []), (some (Blk.box 29 [C.d (.sc (.str qB)), (cI qE), C.d (.sl qF qG .val qH)]) :: (ns 16 (some (Blk.arr 4 .bool h_17) :: (ns 11 [])))), 0⟩)
 | _ => (.ret, ⟨[], [], 0⟩)
def T1_zqwe_10 : V → V → V → V → Option Blk → Option Blk → Tree
 | V.v false [C.d (.sl qC qD .pred qA)], V.v false [C.ptr 0 0], V.v false [C.own 17 .bool true 0 t7_l], V.v false [C.d (.sc (.int .i64 t8_))], some (Blk.box 29 [C.d (.sc (.str qB)), C.d (.sc (.int .i64 qE)), C.d (.sl qF qG .val qH)]), some (Blk.arr 4 .bool h_17) => exT (fun j => ex_zqwe_10 qC qD qA t7_l qB qE qF qG qH h_17 j (S.zqwe_10_v qA t7_l qB h_17 ⟨t8_⟩)) (S.zqwe_10_j qA t7_l qB h_17 ⟨t8_⟩) [0, 1]
 | _, _, _, _, _, _ => .bad
def T_zqwe_10 (st : St) : Tree := bif okSt 56 25 0 [0, 17] st then T1_zqwe_10 (st.env.getD 0 .any) (st.env.getD 3 .any) (st.env.getD 7 .any) (st.env.getD 8 .any) (lk st.heap 0) (lk st.heap 17) else .bad
def b_zqwe_10 : Code := loopBy Try.f8 10
theorem rnd_zqwe_10 (qC : Option Bool) (qD : Bool) (qA : List (Ty .pred)) (t7_l : Nat) (qB : ByteArray) (qE : Int) (qF : Option Bool) (qG : Bool) (qH : List (Ty .val)) (h_17 : List (Ty .bool)) (v : S.zqwe_10_V) : round2 cx_zqwe (hdI cx_zqwe (find []) [] none 0) 8 b_zqwe_10 [] 25 [4] (mk_zqwe_10 qC qD qA t7_l qB qE qF qG qH h_17 v) = (S.zqwe_10_R qA t7_l qB h_17 v).go (roundOut (mk_zqwe_10 qC qD qA t7_l qB qE qF qG qH h_17) (ex_zqwe_10 qC qD qA t7_l qB qE qF qG qH h_17)) := by kernel_rfl
theorem bs_zqwe_10 : loopsOf b_zqwe_10 ++ loopsInl [] = [] := by kernel_rfl
theorem ci_zqwe_10 (qC : Option Bool) (qD : Bool) (qA : List (Ty .pred)) (t7_l : Nat) (qB : ByteArray) (qE : Int) (qF : Option Bool) (qG : Bool) (qH : List (Ty .val)) (h_17 : List (Ty .bool)) : ∀ v j v2, Lp (S.zqwe_10_r qA t7_l qB h_17) v = some (j, v2) → Circles Try.prog cx_zqwe b_zqwe_10 (mk_zqwe_10 qC qD qA t7_l qB qE qF qG qH h_17 v) (ex_zqwe_10 qC qD qA t7_l qB qE qF qG qH h_17 j v2).1 (ex_zqwe_10 qC qD qA t7_l qB qE qF qG qH h_17 j v2).2 :=
 loop_ok2 (L := find []) (n := 0) (hints := [(8, 10, { keep := [0, 3, 7, 8], acc := [] })]) (cx_ok rfl) rdy_zqwe bs_zqwe_10 nilB (fun v => (rnd_zqwe_10 qC qD qA t7_l qB qE qF qG qH h_17 v).trans (DT.go_run _ _)) (by intro j v; unfold ex_zqwe_10; split <;> rfl)
theorem mke_zqwe_10 (qC : Option Bool) (qD : Bool) (qA : List (Ty .pred)) (t7_l : Nat) (qB : ByteArray) (qE : Int) (qF : Option Bool) (qG : Bool) (qH : List (Ty .val)) (h_17 : List (Ty .bool)) (v : S.zqwe_10_V) : mk_zqwe_10 qC qD qA t7_l qB qE qF qG qH h_17 v = ⟨envOf 56 [(0, V.v false [C.d (.sl qC qD .pred qA)]), (3, V.v false [C.ptr 0 0]), (7, V.v false [C.own 17 .bool true 0 t7_l]), (8, (cV v.t8_))], heapOf 25 [(0, some (Blk.box 29 [C.d (.sc (.str qB)), (cI qE), C.d (.sl qF qG .val qH)])), (17, some (Blk.arr 4 .bool h_17))], 0⟩ := by kernel_rfl
theorem lo1_zqwe_10 (e0 : V) (e3 : V) (e7 : V) (e8 : V) (h0 : Option Blk) (h17 : Option Blk) e st2 (h : (T1_zqwe_10 e0 e3 e7 e8 h0 h17).eval = some (e, st2)) : Circles Try.prog cx_zqwe b_zqwe_10 ⟨envOf 56 [(0, e0), (3, e3), (7, e7), (8, e8)], heapOf 25 [(0, h0), (17, h17)], 0⟩ e st2 := by
 unfold T1_zqwe_10 at h
 split at h
 ·have := loop_tree (mk := mk_zqwe_10 _ _ _ _ _ _ _ _ _ _) (ci_zqwe_10 _ _ _ _ _ _ _ _ _ _) _ _ e st2 h
  rw [mke_zqwe_10] at this
  exact this
 ·cases h
theorem lok_zqwe_10 : LoopOk Try.prog cx_zqwe b_zqwe_10 T_zqwe_10 := by
 intro st e st2 h
 unfold T_zqwe_10 at h
 cases hk : okSt 56 25 0 [0, 17] st with
 | false => rw [hk] at h; cases h
 | true =>
  rw [hk] at h
  exact circles_keep (ks := [0, 3, 7, 8]) hk (lo1_zqwe_10 _ _ _ _ _ _ e st2 h)
structure S.zqwe_T where
 x0 : Bool
 deriving Inhabited
def S.zqwe_R (a0 : List (Ty .pred)) (a1_0 : ByteArray) (a1_2 : List (Ty .val)) : DT S.zqwe_T :=
let y0 : Int := -1
let y1 : S.zxuk_T := S.zxuk_o a0 a1_0 y0 a1_2
let y2 : Nat := y1.x1
let y3 : List (Ty .bool) := y1.x0
let y4 : S.zqwe_10_V := { t8_ := 0 : S.zqwe_10_V }
(.br (S.zg3i_is)
(.br (S.z6mj_is a0)
(.br (xnot S.zg3i_o.x0)
(.leaf ⟨S.zg3i_o.x0⟩)
(.br (xnot (S.z6mj_o a0).x0)
(.leaf ⟨S.zg3i_o.x0⟩)
(.br (S.zxuk_is a0 a1_0 y0 a1_2)
(.br (xneI (↑y2 : Int) (↑a0.length : Int))
(.leaf ⟨false⟩)
(.br (S.zqwe_10_j a0 y2 a1_0 y3 y4 0)
(.leaf ⟨false⟩)
(.br (S.zqwe_10_j a0 y2 a1_0 y3 y4 1)
(.leaf ⟨true⟩)
.fail)))
.fail)))
.fail)
.fail)
def S.zqwe (a0 : List (Ty .pred)) (a1_0 : ByteArray) (a1_2 : List (Ty .val)) : Option S.zqwe_T := (S.zqwe_R a0 a1_0 a1_2).run
def S.zqwe_is (a0 : List (Ty .pred)) (a1_0 : ByteArray) (a1_2 : List (Ty .val)) : Bool := (S.zqwe a0 a1_0 a1_2).isSome
def S.zqwe_o (a0 : List (Ty .pred)) (a1_0 : ByteArray) (a1_2 : List (Ty .val)) : S.zqwe_T := (S.zqwe a0 a1_0 a1_2).getD default
def ret_zqwe (b : Bool) (r : S.zqwe_T) : Ret := ⟨b, none, [(false, [C.d (.sc (.bool r.x0))])]⟩
def g_zqwe : Con
 | [(false, [.sl a0n a0f .pred a0]), (true, [.sc (.str a1_0), .sc (.int .i64 a1_1), .sl a1_2n a1_2f .val a1_2])] => some (ret_zqwe (S.zqwe_is a0 a1_0 a1_2) (S.zqwe_o a0 a1_0 a1_2))
 | _ => none
theorem raw_zqwe (a0n : Option Bool) (a0f : Bool) (a0 : List (Ty .pred)) (a1_0 : ByteArray) (a1_1 : Int) (a1_2n : Option Bool) (a1_2f : Bool) (a1_2 : List (Ty .val)) : evR2 cx_zqwe (hdI cx_zqwe (find [(10, T_zqwe_10)]) [] none 0) none Try.f8 8 none [(false, [.sl a0n a0f .pred a0]), (true, [.sc (.str a1_0), .sc (.int .i64 a1_1), .sl a1_2n a1_2f .val a1_2])] some = (S.zqwe_R a0 a1_0 a1_2).go (ret_zqwe true) := by kernel_rfl
theorem bs_zqwe : loopsIn Try.f8 [] = [b_zqwe_10] := by kernel_rfl
theorem zqwe_ok : Stands Try.prog tyTab 8 g_zqwe := by
 refine stands3 (L := find [(10, T_zqwe_10)]) (n := 0) (hints := [(8, 10, { keep := [0, 3, 7, 8], acc := [] })]) (cx_ok rfl) rdy_zqwe ⟨by kernel_rfl, by kernel_rfl, by kernel_rfl⟩ bs_zqwe (consB (fun T h => by have e : T_zqwe_10 = T := Option.some.inj (show some T_zqwe_10 = some T from h); exact e ▸ lok_zqwe_10) nilB) (fun das r hG hr => ?_)
 unfold g_zqwe at hG
 split at hG
 ·rename_i a0n a0f a0 a1_0 a1_1 a1_2n a1_2f a1_2
  injection hG with hG; subst hG
  exact ⟨none, true, win default ((raw_zqwe a0n a0f a0 a1_0 a1_1 a1_2n a1_2f a1_2).trans (DT.go_run _ _)) hr⟩
 ·cases hG
end
end Go.Eng
