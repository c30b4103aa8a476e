/- Contracts, laid by program. -/
import Derived.Test.YtbjeikmkngcjlaaVZG16
set_option linter.unusedVariables false
namespace Go.Eng
noncomputable section
open Go Go.Eng Go.Proofs Go.Eng.Tab
abbrev cx_z4nn : Cx := mkCx2 tyTab [(33, g_zg3i), (34, g_zzvx), (36, g_z6c2), (39, g_zdrt), (42, g_zxuk), (45, g_zgkp), (48, g_zvnj)] [] [(4, 13, { keep := [5, 12, 13, 14, 16], acc := [] })] []
theorem rdy_z4nn : Ready Try.prog tyTab [(33, g_zg3i), (34, g_zzvx), (36, g_z6c2), (39, g_zdrt), (42, g_zxuk), (45, g_zgkp), (48, g_zvnj)] [] [] := ⟨consG2 zg3i_ok (consG2 zzvx_ok (consG2 z6c2_ok (consG2 zdrt_ok (consG2 zxuk_ok (consG2 zgkp_ok (consG2 zvnj_ok (noneG2))))))), noneI2, noneF2⟩
structure S.z4nn_13_V where
 t16_ : Int
def S.z4nn_13_R (t12_l : Nat) (h_45 : List (Ty .pred)) (v : S.z4nn_13_V) : DT (Option Nat × S.z4nn_13_V) :=
let y0 : Bool := xdec (v.t16_ < (↑t12_l : Int))
let y1 : Nat := 0 + v.t16_.toNat
let y2 : Nat := h_45.length
let y3 : Nat := 0 + t12_l
let y4 : List (Ty .pred) := sub h_45 0 y3
let y5 : Ty .pred := h_45.getD y1 (dflt .pred)
let y6 : ByteArray := y5.name
let y7 : List Opn := y5.ifs
(.br (y0)
(.br (xdec (0 ≤ v.t16_) && y0)
(.br (xdec (y1 < y2))
(.br (xdec (y3 ≤ y2) && true && true && S.zgkp_is y4 y6 y7)
(.br (xneI (S.zgkp_o y4 y6 y7).x0 v.t16_)
(.leaf (some 0, v))
(.leaf (none, ⟨xwrap .i64 (v.t16_ + 1)⟩)))
.fail)
.fail)
.fail)
(.leaf (some 1, v)))
def S.z4nn_13_r (t12_l : Nat) (h_45 : List (Ty .pred)) (v : S.z4nn_13_V) : Option (Option Nat × S.z4nn_13_V) := (S.z4nn_13_R t12_l h_45 v).run
def S.z4nn_13_j (t12_l : Nat) (h_45 : List (Ty .pred)) (v : S.z4nn_13_V) (j : Nat) : Bool := Lp_j (S.z4nn_13_r t12_l h_45) v j
def S.z4nn_13_v (t12_l : Nat) (h_45 : List (Ty .pred)) (v : S.z4nn_13_V) : S.z4nn_13_V := Lp_v (S.z4nn_13_r t12_l h_45) v
def mk_z4nn_13 (qA : Bool) (t12_l : Nat) (t13_l : Nat) (qB : ByteArray) (qC : Int) (qD : Option Bool) (qE : Bool) (qF : List (Ty .val)) (h_45 : List (Ty .pred)) (h_49 : List (Ty .bool)) (qG : ByteArray) (qH : List Opn) (qI : Int) (qJ : Int) (qK : Bool) (qL : ByteArray) (qM : List Opn) (v : S.z4nn_13_V) : St := ⟨(vs 5 (V.v false [C.ptr 0 0] :: (vs 6 (V.v false [C.own 45 .pred qA 0 t12_l] :: (V.v false [C.own 49 .bool true 0 t13_l] :: (V.v false [C.ptr 59 0] :: (V.any :: ((cV v.t16_) :: (vs 144 []))))))))), (some (Blk.box 29 [C.d (.sc (.str qB)), (cI qC), C.d (.sl qD qE .val qF)]) :: (ns 44 (some (Blk.arr 26 .pred h_45) :: (ns 3 (some (Blk.arr 4 .bool h_49) :: (ns 9 (some (Blk.box 47 [C.d (.sc (.str qG)), C.d (.sl none false .op qH), (cI qI), (cI qJ), C.d (.sc (.bool qK)), C.d (.sc (.str qL)), C.d (.sl none false .op qM)]) :: (ns 43 [])))))))), 0⟩
def ex_z4nn_13 (qA : Bool) (t12_l : Nat) (t13_l : Nat) (qB : ByteArray) (qC : Int) (qD : Option Bool) (qE : Bool) (qF : List (Ty .val)) (h_45 : List (Ty .pred)) (h_49 : List (Ty .bool)) (qG : ByteArray) (qH : List Opn) (qI : Int) (qJ : Int) (qK : Bool) (qL : ByteArray) (qM : List Opn) (j : Nat) (v : S.z4nn_13_V) : Ex × St := match j with
 | 0 => (Ex.ret, ⟨(vs 5 (V.v false [C.ptr 0 0] :: (V.any :: (V.any :: (V.v false [C.d (.sc (.bool false))] :: (vs 3 (V.v false [C.own 45 .pred qA 0 t12_l] :: (V.v false [C.own 49 .bool true 0 t13_l] :: (V.v false [C.ptr 59 0] :: (vs 146 [])))))))))), (some (Blk.box 29 [C.d (.sc (.str qB)), (cI qC), C.d (.sl qD qE .val qF)]) :: (ns 44 (some (Blk.arr 26 .pred h_45) :: (ns 3 (some (Blk.arr 4 .bool h_49) :: (ns 9 (some
  (Blk.box 47
   [C.d (.sc (.str qG)), C.d (.sl none false .op qH), (cI qI), (cI qJ), C.d (.sc (.bool qK)),
    C.d (.sc (.str qL)), C.d (.sl none false .op qM)]) :: (ns 56 [])))))))), 0⟩)
 | 1 => (Ex.exit 0, ⟨(vs 5 (V.v false [C.ptr 0 0] :: (vs 6 (V.v false [C.own 45 .pred qA 0 t12_l] :: (V.v false [C.own 49 .bool true 0 t13_l] :: (V.v false [C.ptr 59 0] :: (vs 146 []))))))), (some (Blk.box 29 [C.d (.sc (.str qB)), (cI qC), C.d (.sl qD qE .val qF)]) :: (ns 44 (some (Blk.arr 26 .pred h_45) :: (ns 3 (some (Blk.arr 4 .bool h_49) :: (ns 9 (some
  (Blk.box 47
   [C.d (.sc (.str qG)), C.d (.sl none false .op qH), (cI qI), (cI qJ), C.d (.sc (.bool qK)),
    C.d (.sc (.str qL)), C.d (.sl none false .op qM)]) :: (ns 47 [])))))))), 0⟩)
 | _ => (.ret, ⟨[], [], 0⟩)
def T1_z4nn_13 : V → V → V → V → V → Option Blk → Option Blk → Option Blk → Option Blk → Tree
 | V.v false [C.ptr 0 0], V.v false [C.own 45 .pred qA 0 t12_l], V.v false [C.own 49 .bool true 0 t13_l], V.v false [C.ptr 59 0], V.v false [C.d (.sc (.int .i64 t16_))], some (Blk.box 29 [C.d (.sc (.str qB)), C.d (.sc (.int .i64 qC)), C.d (.sl qD qE .val qF)]), some (Blk.arr 26 .pred h_45), some (Blk.arr 4 .bool h_49), some (Blk.box 47 [C.d (.sc (.str qG)), C.d (.sl none false .op qH), C.d (.sc (.int .i64 qI)), C.d (.sc (.int .i64 qJ)), C.d (.sc (.bool qK)), C.d (.sc (.str qL)), C.d (.sl none false .op qM)]) => exT (fun j => ex_z4nn_13 qA t12_l t13_l qB qC qD qE qF h_45 h_49 qG qH qI qJ qK qL qM j (S.z4nn_13_v t12_l h_45 ⟨t16_⟩)) (S.z4nn_13_j t12_l h_45 ⟨t16_⟩) [0, 1]
 | _, _, _, _, _, _, _, _, _ => .bad
def T_z4nn_13 (st : St) : Tree := bif okSt 161 103 0 [0, 45, 49, 59] st then T1_z4nn_13 (st.env.getD 5 .any) (st.env.getD 12 .any) (st.env.getD 13 .any) (st.env.getD 14 .any) (st.env.getD 16 .any) (lk st.heap 0) (lk st.heap 45) (lk st.heap 49) (lk st.heap 59) else .bad
def b_z4nn_13 : Code := loopBy Try.f4 13
theorem rnd_z4nn_13 (qA : Bool) (t12_l : Nat) (t13_l : Nat) (qB : ByteArray) (qC : Int) (qD : Option Bool) (qE : Bool) (qF : List (Ty .val)) (h_45 : List (Ty .pred)) (h_49 : List (Ty .bool)) (qG : ByteArray) (qH : List Opn) (qI : Int) (qJ : Int) (qK : Bool) (qL : ByteArray) (qM : List Opn) (v : S.z4nn_13_V) : round2 cx_z4nn (hdI cx_z4nn (find []) [] none 0) 4 b_z4nn_13 [] 103 [5, 8, 12, 13, 14] (mk_z4nn_13 qA t12_l t13_l qB qC qD qE qF h_45 h_49 qG qH qI qJ qK qL qM v) = (S.z4nn_13_R t12_l h_45 v).go (roundOut (mk_z4nn_13 qA t12_l t13_l qB qC qD qE qF h_45 h_49 qG qH qI qJ qK qL qM) (ex_z4nn_13 qA t12_l t13_l qB qC qD qE qF h_45 h_49 qG qH qI qJ qK qL qM)) := by kernel_rfl
theorem bs_z4nn_13 : loopsOf b_z4nn_13 ++ loopsInl [] = [] := by kernel_rfl
theorem ci_z4nn_13 (qA : Bool) (t12_l : Nat) (t13_l : Nat) (qB : ByteArray) (qC : Int) (qD : Option Bool) (qE : Bool) (qF : List (Ty .val)) (h_45 : List (Ty .pred)) (h_49 : List (Ty .bool)) (qG : ByteArray) (qH : List Opn) (qI : Int) (qJ : Int) (qK : Bool) (qL : ByteArray) (qM : List Opn) : ∀ v j v2, Lp (S.z4nn_13_r t12_l h_45) v = some (j, v2) → Circles Try.prog cx_z4nn b_z4nn_13 (mk_z4nn_13 qA t12_l t13_l qB qC qD qE qF h_45 h_49 qG qH qI qJ qK qL qM v) (ex_z4nn_13 qA t12_l t13_l qB qC qD qE qF h_45 h_49 qG qH qI qJ qK qL qM j v2).1 (ex_z4nn_13 qA t12_l t13_l qB qC qD qE qF h_45 h_49 qG qH qI qJ qK qL qM j v2).2 :=
 loop_ok2 (L := find []) (n := 0) (hints := [(4, 13, { keep := [5, 12, 13, 14, 16], acc := [] })]) (cx_ok rfl) rdy_z4nn bs_z4nn_13 nilB (fun v => (rnd_z4nn_13 qA t12_l t13_l qB qC qD qE qF h_45 h_49 qG qH qI qJ qK qL qM v).trans (DT.go_run _ _)) (by intro j v; unfold ex_z4nn_13; split <;> rfl)
theorem mke_z4nn_13 (qA : Bool) (t12_l : Nat) (t13_l : Nat) (qB : ByteArray) (qC : Int) (qD : Option Bool) (qE : Bool) (qF : List (Ty .val)) (h_45 : List (Ty .pred)) (h_49 : List (Ty .bool)) (qG : ByteArray) (qH : List Opn) (qI : Int) (qJ : Int) (qK : Bool) (qL : ByteArray) (qM : List Opn) (v : S.z4nn_13_V) : mk_z4nn_13 qA t12_l t13_l qB qC qD qE qF h_45 h_49 qG qH qI qJ qK qL qM v = ⟨envOf 161 [(5, V.v false [C.ptr 0 0]), (12, V.v false [C.own 45 .pred qA 0 t12_l]), (13, V.v false [C.own 49 .bool true 0 t13_l]), (14, V.v false [C.ptr 59 0]), (16, (cV v.t16_))], heapOf 103 [(0, some (Blk.box 29 [C.d (.sc (.str qB)), (cI qC), C.d (.sl qD qE .val qF)])), (45, some (Blk.arr 26 .pred h_45)), (49, some (Blk.arr 4 .bool h_49)), (59, some
 (Blk.box 47
  [C.d (.sc (.str qG)), C.d (.sl none false .op qH), (cI qI), (cI qJ), C.d (.sc (.bool qK)),
   C.d (.sc (.str qL)), C.d (.sl none false .op qM)]))], 0⟩ := by kernel_rfl
theorem lo1_z4nn_13 (e5 : V) (e12 : V) (e13 : V) (e14 : V) (e16 : V) (h0 : Option Blk) (h45 : Option Blk) (h49 : Option Blk) (h59 : Option Blk) e st2 (h : (T1_z4nn_13 e5 e12 e13 e14 e16 h0 h45 h49 h59).eval = some (e, st2)) : Circles Try.prog cx_z4nn b_z4nn_13 ⟨envOf 161 [(5, e5), (12, e12), (13, e13), (14, e14), (16, e16)], heapOf 103 [(0, h0), (45, h45), (49, h49), (59, h59)], 0⟩ e st2 := by
 unfold T1_z4nn_13 at h
 split at h
 ·have := loop_tree (mk := mk_z4nn_13 _ _ _ _ _ _ _ _ _ _ _ _ _ _ _ _ _) (ci_z4nn_13 _ _ _ _ _ _ _ _ _ _ _ _ _ _ _ _ _) _ _ e st2 h
  rw [mke_z4nn_13] at this
  exact this
 ·cases h
theorem lok_z4nn_13 : LoopOk Try.prog cx_z4nn b_z4nn_13 T_z4nn_13 := by
 intro st e st2 h
 unfold T_z4nn_13 at h
 cases hk : okSt 161 103 0 [0, 45, 49, 59] st with
 | false => rw [hk] at h; cases h
 | true =>
  rw [hk] at h
  exact circles_keep (ks := [5, 12, 13, 14, 16]) hk (lo1_z4nn_13 _ _ _ _ _ _ _ _ _ e st2 h)
structure S.z4nn_T where
 x0 : Bool
 deriving Inhabited
def S.z4nn_R (a0 : List (Ty .query)) (a1_0 : ByteArray) (a1_1 : Int) (a1_2 : List (Ty .val)) (a2 : Int) (a3 : Int) : DT S.z4nn_T :=
let y0 : Int := (↑a0.length : Int)
let y1 : Bool := xdec (0 ≤ a2) && xdec (a2 < y0)
let y2 : List Step := (a0.getD a2.toNat (dflt .query)).steps
let y3 : Int := (↑y2.length : Int)
let y4 : Nat := 0 + (S.zdrt_o a0).x2
let y5 : Bool := xdec (y4 ≤ (S.zdrt_o a0).x0.length) && true && true
let y6 : List (Ty .pred) := sub (S.zdrt_o a0).x0 0 y4
let y7 : Ty .step := y2.getD a3.toNat (dflt .step)
let y8 : ByteArray := y7.name
let y9 : List Opn := y7.ifs
let y10 : S.zxuk_T := S.zxuk_o y6 a1_0 a1_1 a1_2
let y11 : Int := (↑y10.x1 : Int)
let y12 : Int := (↑(S.zdrt_o a0).x2 : Int)
let y13 : Int := (S.zgkp_o y6 y8 y9).x0
let y14 : Nat := 0 + y13.toNat
let y15 : List (Ty .bool) := y10.x0
let y16 : Nat := y15.length
let y17 : Ty .bool := y15.getD y14 (dflt .bool)
let y18 : S.z4nn_13_V := { t16_ := 0 : S.z4nn_13_V }
let y19 : Bool := S.z4nn_13_j (S.zdrt_o a0).x2 (S.zdrt_o a0).x0 y18 0
let y20 : Bool := S.z4nn_13_j (S.zdrt_o a0).x2 (S.zdrt_o a0).x0 y18 1
let y21 : Bool := xnot y7.guard
let y22 : ByteArray := y7.notName
let y23 : List Opn := y7.notIf
let y24 : Bool := y5 && S.zgkp_is y6 y22 y23
let y25 : Int := (S.zgkp_o y6 y22 y23).x0
let y26 : Bool := xdec (y25 ≥ 0)
let y27 : Bool := xdec (y25 < y12)
let y28 : Bool := xdec (0 ≤ y25) && xdec (y25 < y11)
let y29 : Nat := 0 + y25.toNat
let y30 : Bool := xdec (y29 < y16)
let y31 : Bool := xdec (y22 = a1_0)
let y32 : Bool := S.zvnj_is a1_0 a1_1 a1_2 y23
let y33 : Ty .bool := y15.getD y29 (dflt .bool)
let y34 : Bool := y33 == (S.zvnj_o a1_0 a1_1 a1_2 y23).x0
let y35 : Bool := y33 == false
(.br (S.zg3i_is)
(.br (S.zzvx_is a0)
(.br (S.z6c2_is a1_0 a1_2)
(.br (xnot S.zg3i_o.x0)
(.leaf ⟨S.zg3i_o.x0⟩)
(.br (xnot (S.zzvx_o a0).x0)
(.leaf ⟨S.zg3i_o.x0⟩)
(.br (xnot (S.z6c2_o a1_0 a1_2).x0)
(.leaf ⟨S.zg3i_o.x0⟩)
(.br (xdec (a2 < 0))
(.leaf ⟨S.zg3i_o.x0⟩)
(.br (xdec (a2 ≥ y0))
(.leaf ⟨S.zg3i_o.x0⟩)
(.br (xdec (a3 < 0))
(.leaf ⟨S.zg3i_o.x0⟩)
(.br (y1)
(.br (xdec (a3 ≥ y3))
(.leaf ⟨S.zg3i_o.x0⟩)
(.br (S.zdrt_is a0)
(.br (y5 && S.zxuk_is y6 a1_0 a1_1 a1_2)
(.br (y1)
(.br (xdec (0 ≤ a3) && xdec (a3 < y3))
(.br (y5 && S.zgkp_is y6 y8 y9)
(.br (xneI y11 y12)
(.leaf ⟨false⟩)
(.br (xdec (y13 < 0))
(.leaf ⟨false⟩)
(.br (xdec (y13 ≥ y12))
(.leaf ⟨false⟩)
(.br (xdec (0 ≤ y13) && xdec (y13 < y11))
(.br (xdec (y14 < y16))
(.br (xdec (y8 = a1_0))
(.br (S.zvnj_is a1_0 a1_1 a1_2 y9)
(.br (bif y17 == (S.zvnj_o a1_0 a1_1 a1_2 y9).x0 then false else true)
(.leaf ⟨false⟩)
(.br (y19)
(.leaf ⟨false⟩)
(.br (y20)
(.br (y21)
(.leaf ⟨true⟩)
(.br (y24)
(.br (y26)
(.br (y27)
(.br (y28)
(.br (y30)
(.br (y31)
(.br (y32)
(.leaf ⟨y34⟩)
.fail)
(.leaf ⟨y35⟩))
.fail)
.fail)
(.leaf ⟨false⟩))
(.leaf ⟨false⟩))
.fail))
.fail)))
.fail)
(.br (bif y17 == false then false else true)
(.leaf ⟨false⟩)
(.br (y19)
(.leaf ⟨false⟩)
(.br (y20)
(.br (y21)
(.leaf ⟨true⟩)
(.br (y24)
(.br (y26)
(.br (y27)
(.br (y28)
(.br (y30)
(.br (y31)
(.br (y32)
(.leaf ⟨y34⟩)
.fail)
(.leaf ⟨y35⟩))
.fail)
.fail)
(.leaf ⟨false⟩))
(.leaf ⟨false⟩))
.fail))
.fail))))
.fail)
.fail))))
.fail)
.fail)
.fail)
.fail)
.fail))
.fail)))))))
.fail)
.fail)
.fail)
def S.z4nn (a0 : List (Ty .query)) (a1_0 : ByteArray) (a1_1 : Int) (a1_2 : List (Ty .val)) (a2 : Int) (a3 : Int) : Option S.z4nn_T := (S.z4nn_R a0 a1_0 a1_1 a1_2 a2 a3).run
def S.z4nn_is (a0 : List (Ty .query)) (a1_0 : ByteArray) (a1_1 : Int) (a1_2 : List (Ty .val)) (a2 : Int) (a3 : Int) : Bool := (S.z4nn a0 a1_0 a1_1 a1_2 a2 a3).isSome
def S.z4nn_o (a0 : List (Ty .query)) (a1_0 : ByteArray) (a1_1 : Int) (a1_2 : List (Ty .val)) (a2 : Int) (a3 : Int) : S.z4nn_T := (S.z4nn a0 a1_0 a1_1 a1_2 a2 a3).getD default
def ret_z4nn (b : Bool) (r : S.z4nn_T) : Ret := ⟨b, none, [(false, [C.d (.sc (.bool r.x0))])]⟩
def g_z4nn : Con
 | [(false, [.sl a0n a0f .query a0]), (true, [.sc (.str a1_0), .sc (.int .i64 a1_1), .sl a1_2n a1_2f .val a1_2]), (false, [.sc (.int .i64 a2)]), (false, [.sc (.int .i64 a3)])] => some (ret_z4nn (S.z4nn_is a0 a1_0 a1_1 a1_2 a2 a3) (S.z4nn_o a0 a1_0 a1_1 a1_2 a2 a3))
 | _ => none
theorem raw_z4nn (a0n : Option Bool) (a0f : Bool) (a0 : List (Ty .query)) (a1_0 : ByteArray) (a1_1 : Int) (a1_2n : Option Bool) (a1_2f : Bool) (a1_2 : List (Ty .val)) (a2 : Int) (a3 : Int) : evR2 cx_z4nn (hdI cx_z4nn (find [(13, T_z4nn_13)]) [] none 0) none Try.f4 4 none [(false, [.sl a0n a0f .query a0]), (true, [.sc (.str a1_0), .sc (.int .i64 a1_1), .sl a1_2n a1_2f .val a1_2]), (false, [.sc (.int .i64 a2)]), (false, [.sc (.int .i64 a3)])] some = (S.z4nn_R a0 a1_0 a1_1 a1_2 a2 a3).go (ret_z4nn true) := by kernel_rfl
theorem bs_z4nn : loopsIn Try.f4 [] = [b_z4nn_13] := by kernel_rfl
theorem z4nn_ok : Stands Try.prog tyTab 4 g_z4nn := by
 refine stands3 (L := find [(13, T_z4nn_13)]) (n := 0) (hints := [(4, 13, { keep := [5, 12, 13, 14, 16], acc := [] })]) (cx_ok rfl) rdy_z4nn ⟨by kernel_rfl, by kernel_rfl, by kernel_rfl⟩ bs_z4nn (consB (fun T h => by have e : T_z4nn_13 = T := Option.some.inj (show some T_z4nn_13 = some T from h); exact e ▸ lok_z4nn_13) nilB) (fun das r hG hr => ?_)
 unfold g_z4nn at hG
 split at hG
 ·rename_i a0n a0f a0 a1_0 a1_1 a1_2n a1_2f a1_2 a2 a3
  injection hG with hG; subst hG
  exact ⟨none, true, win default ((raw_z4nn a0n a0f a0 a1_0 a1_1 a1_2n a1_2f a1_2 a2 a3).trans (DT.go_run _ _)) hr⟩
 ·cases hG
end
end Go.Eng
