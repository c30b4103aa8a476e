/- Contracts, laid by program. -/
import Derived.Test.YtbjeikmkngcjlaaVZG16
import Derived.Test.YtbjeikmkngcjlaaVZG5
import Derived.Test.YtbjeikmkngcjlaaVZE3
set_option linter.unusedVariables false
namespace Go.Eng
noncomputable section
open Go Go.Eng Go.Proofs Go.Eng.Tab
abbrev cx_zrif : Cx := mkCx2 tyTab [] [] [] []
theorem rdy_zrif : Ready Try.prog tyTab [] [] [] := ⟨noneG2, noneI2, noneF2⟩
structure S.zrif_T where
 x0 : Int
 x1 : Int
 x2 : ByteArray
 deriving Inhabited
def S.zrif_R (a0 : Bool) : DT S.zrif_T :=
(.br (a0)
(.leaf ⟨1, 1, ByteArray.empty⟩)
(.leaf ⟨1, 0, ByteArray.empty⟩))
def S.zrif (a0 : Bool) : Option S.zrif_T := (S.zrif_R a0).run
def S.zrif_is (a0 : Bool) : Bool := (S.zrif a0).isSome
def S.zrif_o (a0 : Bool) : S.zrif_T := (S.zrif a0).getD default
def ret_zrif (b : Bool) (r : S.zrif_T) : Ret := ⟨b, none, [(true, [C.d (.sc (.int .i64 r.x0)), C.d (.sc (.int .i64 r.x1)), C.d (.sc (.str r.x2))])]⟩
def g_zrif : Con
 | [(false, [.sc (.bool a0)])] => some (ret_zrif (S.zrif_is a0) (S.zrif_o a0))
 | _ => none
theorem raw_zrif (a0 : Bool) : evR2 cx_zrif (hdI cx_zrif (find []) [] none 0) none Try.f161 161 none [(false, [.sc (.bool a0)])] some = (S.zrif_R a0).go (ret_zrif true) := by kernel_rfl
theorem bs_zrif : loopsIn Try.f161 [] = [] := by kernel_rfl
theorem zrif_ok : Stands Try.prog tyTab 161 g_zrif := by
 refine stands3 (L := find []) (n := 0) (hints := []) (cx_ok rfl) rdy_zrif ⟨by kernel_rfl, by kernel_rfl, by kernel_rfl⟩ bs_zrif nilB (fun das r hG hr => ?_)
 unfold g_zrif at hG
 split at hG
 ·rename_i a0
  injection hG with hG; subst hG
  exact ⟨none, true, win default ((raw_zrif a0).trans (DT.go_run _ _)) hr⟩
 ·cases hG
abbrev cx_zzst : Cx := mkCx2 tyTab [(153, g_zfbt)] [] [(172, 8, { keep := [2, 3, 8], acc := [] })] []
theorem rdy_zzst : Ready Try.prog tyTab [(153, g_zfbt)] [] [] := ⟨consG2 zfbt_ok (noneG2), noneI2, noneF2⟩
structure S.zzst_8_V where
 t8_ : Int
def S.zzst_8_R (qA : ByteArray) (qB : ByteArray) (v : S.zzst_8_V) : DT (Option Nat × S.zzst_8_V) :=
let y0 : Bool := xdec (v.t8_ < (↑qB.size : Int))
let y1 : Int := (↑qA.size : Int)
let y2 : Bool := xdec (0 ≤ v.t8_)
let y3 : Bool := y2 && xdec (v.t8_ < y1)
let y4 : Bool := y2 && y0
(.br (y0)
(.br (xdec (v.t8_ ≥ y1))
(.leaf (some 0, v))
(.br (y3)
(.br (y4)
(.br (xneI (↑(byteAt qA v.t8_.toNat) : Int) (↑(byteAt qB v.t8_.toNat) : Int))
(.br (y3)
(.br (y4)
(.leaf (some 1, v))
.fail)
.fail)
(.leaf (none, ⟨xwrap .i64 (v.t8_ + 1)⟩)))
.fail)
.fail))
(.leaf (some 2, v)))
def S.zzst_8_r (qA : ByteArray) (qB : ByteArray) (v : S.zzst_8_V) : Option (Option Nat × S.zzst_8_V) := (S.zzst_8_R qA qB v).run
def S.zzst_8_j (qA : ByteArray) (qB : ByteArray) (v : S.zzst_8_V) (j : Nat) : Bool := Lp_j (S.zzst_8_r qA qB) v j
def S.zzst_8_v (qA : ByteArray) (qB : ByteArray) (v : S.zzst_8_V) : S.zzst_8_V := Lp_v (S.zzst_8_r qA qB) v
def mk_zzst_8 (qC : Int) (qD : Int) (qA : ByteArray) (qE : Int) (qF : Int) (qB : ByteArray) (v : S.zzst_8_V) : St := ⟨(V.any :: (V.any :: (V.v false [C.ptr 0 0] :: (V.v false [C.ptr 1 0] :: (vs 4 ((cV v.t8_) :: (vs 55 []))))))), (some (Blk.box 52 [(cI qC), (cI qD), C.d (.sc (.str qA))]) :: (some (Blk.box 52 [(cI qE), (cI qF), C.d (.sc (.str qB))]) :: (ns 25 []))), 0⟩
def ex_zzst_8 (qC : Int) (qD : Int) (qA : ByteArray) (qE : Int) (qF : Int) (qB : ByteArray) (j : Nat) (v : S.zzst_8_V) : Ex × St := match j with
 | 0 => (Ex.ret, ⟨(vs 4 (V.v false [C.d (.sc (.bool true))] :: (V.v false [C.d (.sc (.bool true))] :: (vs 58 [])))), (some (Blk.box 52 [(cI qC), (cI qD), C.d (.sc (.str qA))]) :: (some (Blk.box 52 [(cI qE), (cI qF), C.d (.sc (.str qB))]) :: (ns 37 []))), 0⟩)
 | 1 => (Ex.ret, ⟨(vs 4 (V.v false [C.d (.sc (.bool (xdec ((↑(byteAt qA v.t8_.toNat) : Int) < (↑(byteAt qB v.t8_.toNat) : Int)))))] :: (V.v false [C.d (.sc (.bool true))] :: (vs 58 [])))), (some (Blk.box 52 [(cI qC), (cI qD), C.d (.sc (.str qA))]) :: (some (Blk.box 52 [(cI qE), (cI qF), C.d (.sc (.str qB))]) :: (ns 55 []))), 0⟩)
 | 2 => (Ex.exit 0, ⟨(vs 64 []), (some (Blk.box 52 [(cI qC), (cI qD), C.d (.sc (.str qA))]) :: (some (Blk.box 52 [(cI qE), (cI qF), C.d (.sc (.str qB))]) :: (ns 30 []))), 0⟩)
 | _ => (.ret, ⟨[], [], 0⟩)
def T1_zzst_8 : V → V → V → Option Blk → Option Blk → Tree
 | V.v false [C.ptr 0 0], V.v false [C.ptr 1 0], V.v false [C.d (.sc (.int .i64 t8_))], some (Blk.box 52 [C.d (.sc (.int .i64 qC)), C.d (.sc (.int .i64 qD)), C.d (.sc (.str qA))]), some (Blk.box 52 [C.d (.sc (.int .i64 qE)), C.d (.sc (.int .i64 qF)), C.d (.sc (.str qB))]) => exT (fun j => ex_zzst_8 qC qD qA qE qF qB j (S.zzst_8_v qA qB ⟨t8_⟩)) (S.zzst_8_j qA qB ⟨t8_⟩) [0, 1, 2]
 | _, _, _, _, _ => .bad
def T_zzst_8 (st : St) : Tree := bif okSt 64 27 0 [0, 1] st then T1_zzst_8 (st.env.getD 2 .any) (st.env.getD 3 .any) (st.env.getD 8 .any) (lk st.heap 0) (lk st.heap 1) else .bad
def b_zzst_8 : Code := loopBy Try.f172 8
theorem rnd_zzst_8 (qC : Int) (qD : Int) (qA : ByteArray) (qE : Int) (qF : Int) (qB : ByteArray) (v : S.zzst_8_V) : round2 cx_zzst (hdI cx_zzst (find []) [] none 0) 172 b_zzst_8 [] 27 [4, 5] (mk_zzst_8 qC qD qA qE qF qB v) = (S.zzst_8_R qA qB v).go (roundOut (mk_zzst_8 qC qD qA qE qF qB) (ex_zzst_8 qC qD qA qE qF qB)) := by kernel_rfl
theorem bs_zzst_8 : loopsOf b_zzst_8 ++ loopsInl [] = [] := by kernel_rfl
theorem ci_zzst_8 (qC : Int) (qD : Int) (qA : ByteArray) (qE : Int) (qF : Int) (qB : ByteArray) : ∀ v j v2, Lp (S.zzst_8_r qA qB) v = some (j, v2) → Circles Try.prog cx_zzst b_zzst_8 (mk_zzst_8 qC qD qA qE qF qB v) (ex_zzst_8 qC qD qA qE qF qB j v2).1 (ex_zzst_8 qC qD qA qE qF qB j v2).2 :=
 loop_ok2 (L := find []) (n := 0) (hints := [(172, 8, { keep := [2, 3, 8], acc := [] })]) (cx_ok rfl) rdy_zzst bs_zzst_8 nilB (fun v => (rnd_zzst_8 qC qD qA qE qF qB v).trans (DT.go_run _ _)) (by intro j v; unfold ex_zzst_8; split <;> rfl)
theorem mke_zzst_8 (qC : Int) (qD : Int) (qA : ByteArray) (qE : Int) (qF : Int) (qB : ByteArray) (v : S.zzst_8_V) : mk_zzst_8 qC qD qA qE qF qB v = ⟨envOf 64 [(2, V.v false [C.ptr 0 0]), (3, V.v false [C.ptr 1 0]), (8, (cV v.t8_))], heapOf 27 [(0, some (Blk.box 52 [(cI qC), (cI qD), C.d (.sc (.str qA))])), (1, some (Blk.box 52 [(cI qE), (cI qF), C.d (.sc (.str qB))]))], 0⟩ := by kernel_rfl
theorem lo1_zzst_8 (e2 : V) (e3 : V) (e8 : V) (h0 : Option Blk) (h1 : Option Blk) e st2 (h : (T1_zzst_8 e2 e3 e8 h0 h1).eval = some (e, st2)) : Circles Try.prog cx_zzst b_zzst_8 ⟨envOf 64 [(2, e2), (3, e3), (8, e8)], heapOf 27 [(0, h0), (1, h1)], 0⟩ e st2 := by
 unfold T1_zzst_8 at h
 split at h
 ·have := loop_tree (mk := mk_zzst_8 _ _ _ _ _ _) (ci_zzst_8 _ _ _ _ _ _) _ _ e st2 h
  rw [mke_zzst_8] at this
  exact this
 ·cases h
theorem lok_zzst_8 : LoopOk Try.prog cx_zzst b_zzst_8 T_zzst_8 := by
 intro st e st2 h
 unfold T_zzst_8 at h
 cases hk : okSt 64 27 0 [0, 1] st with
 | false => rw [hk] at h; cases h
 | true =>
  rw [hk] at h
  exact circles_keep (ks := [2, 3, 8]) hk (lo1_zzst_8 _ _ _ _ _ e st2 h)
structure S.zzst_T where
 x0 : Bool
 x1 : Bool
 deriving Inhabited
def S.zzst_R (a0_0 : Int) (a0_1 : Int) (a0_2 : ByteArray) (a1_0 : Int) (a1_1 : Int) (a1_2 : ByteArray) : DT S.zzst_T :=
let y0 : S.zzst_8_V := { t8_ := 0 : S.zzst_8_V }
let y1 : Nat := (S.zzst_8_v a0_2 a1_2 y0).t8_.toNat
(.br (S.zfbt_is a0_0 a0_1 a0_2)
(.br (S.zfbt_is a1_0 a1_1 a1_2)
(.br (xnot (S.zfbt_o a0_0 a0_1 a0_2).x0)
(.leaf ⟨false, false⟩)
(.br (xnot (S.zfbt_o a1_0 a1_1 a1_2).x0)
(.leaf ⟨false, false⟩)
(.br (xneI a0_0 a1_0)
(.leaf ⟨false, false⟩)
(.br (xneI a0_0 2)
(.leaf ⟨xdec (a0_1 < a1_1), true⟩)
(.br (S.zzst_8_j a0_2 a1_2 y0 0)
(.leaf ⟨true, true⟩)
(.br (S.zzst_8_j a0_2 a1_2 y0 1)
(.leaf ⟨xdec ((↑(byteAt a0_2 y1) : Int) < (↑(byteAt a1_2 y1) : Int)), true⟩)
(.br (S.zzst_8_j a0_2 a1_2 y0 2)
(.leaf ⟨false, true⟩)
.fail)))))))
.fail)
.fail)
def S.zzst (a0_0 : Int) (a0_1 : Int) (a0_2 : ByteArray) (a1_0 : Int) (a1_1 : Int) (a1_2 : ByteArray) : Option S.zzst_T := (S.zzst_R a0_0 a0_1 a0_2 a1_0 a1_1 a1_2).run
def S.zzst_is (a0_0 : Int) (a0_1 : Int) (a0_2 : ByteArray) (a1_0 : Int) (a1_1 : Int) (a1_2 : ByteArray) : Bool := (S.zzst a0_0 a0_1 a0_2 a1_0 a1_1 a1_2).isSome
def S.zzst_o (a0_0 : Int) (a0_1 : Int) (a0_2 : ByteArray) (a1_0 : Int) (a1_1 : Int) (a1_2 : ByteArray) : S.zzst_T := (S.zzst a0_0 a0_1 a0_2 a1_0 a1_1 a1_2).getD default
def ret_zzst (b : Bool) (r : S.zzst_T) : Ret := ⟨b, none, [(false, [C.d (.sc (.bool r.x0))]), (false, [C.d (.sc (.bool r.x1))])]⟩
def g_zzst : Con
 | [(true, [.sc (.int .i64 a0_0), .sc (.int .i64 a0_1), .sc (.str a0_2)]), (true, [.sc (.int .i64 a1_0), .sc (.int .i64 a1_1), .sc (.str a1_2)])] => some (ret_zzst (S.zzst_is a0_0 a0_1 a0_2 a1_0 a1_1 a1_2) (S.zzst_o a0_0 a0_1 a0_2 a1_0 a1_1 a1_2))
 | _ => none
theorem raw_zzst (a0_0 : Int) (a0_1 : Int) (a0_2 : ByteArray) (a1_0 : Int) (a1_1 : Int) (a1_2 : ByteArray) : evR2 cx_zzst (hdI cx_zzst (find [(8, T_zzst_8)]) [] none 0) none Try.f172 172 none [(true, [.sc (.int .i64 a0_0), .sc (.int .i64 a0_1), .sc (.str a0_2)]), (true, [.sc (.int .i64 a1_0), .sc (.int .i64 a1_1), .sc (.str a1_2)])] some = (S.zzst_R a0_0 a0_1 a0_2 a1_0 a1_1 a1_2).go (ret_zzst true) := by kernel_rfl
theorem bs_zzst : loopsIn Try.f172 [] = [b_zzst_8] := by kernel_rfl
theorem zzst_ok : Stands Try.prog tyTab 172 g_zzst := by
 refine stands3 (L := find [(8, T_zzst_8)]) (n := 0) (hints := [(172, 8, { keep := [2, 3, 8], acc := [] })]) (cx_ok rfl) rdy_zzst ⟨by kernel_rfl, by kernel_rfl, by kernel_rfl⟩ bs_zzst (consB (fun T h => by have e : T_zzst_8 = T := Option.some.inj (show some T_zzst_8 = some T from h); exact e ▸ lok_zzst_8) nilB) (fun das r hG hr => ?_)
 unfold g_zzst at hG
 split at hG
 ·rename_i a0_0 a0_1 a0_2 a1_0 a1_1 a1_2
  injection hG with hG; subst hG
  exact ⟨none, true, win default ((raw_zzst a0_0 a0_1 a0_2 a1_0 a1_1 a1_2).trans (DT.go_run _ _)) hr⟩
 ·cases hG
abbrev cx_zhmt : Cx := mkCx2 tyTab [] [] [] []
theorem rdy_zhmt : Ready Try.prog tyTab [] [] [] := ⟨noneG2, noneI2, noneF2⟩
structure S.zhmt_T where
 x0 : Int
 x1 : Bool
 deriving Inhabited
def S.zhmt_R (a0 : Int) (a1 : Int) : DT S.zhmt_T :=
let y0 : Int := xwrap .i64 (a0 + a1)
(.leaf ⟨y0, xdec (y0 > a0) == xdec (a1 > 0)⟩)
def S.zhmt (a0 : Int) (a1 : Int) : Option S.zhmt_T := (S.zhmt_R a0 a1).run
def S.zhmt_is (a0 : Int) (a1 : Int) : Bool := (S.zhmt a0 a1).isSome
def S.zhmt_o (a0 : Int) (a1 : Int) : S.zhmt_T := (S.zhmt a0 a1).getD default
def ret_zhmt (b : Bool) (r : S.zhmt_T) : Ret := ⟨b, none, [(false, [C.d (.sc (.int .i64 r.x0))]), (false, [C.d (.sc (.bool r.x1))])]⟩
def g_zhmt : Con
 | [(false, [.sc (.int .i64 a0)]), (false, [.sc (.int .i64 a1)])] => some (ret_zhmt (S.zhmt_is a0 a1) (S.zhmt_o a0 a1))
 | _ => none
theorem raw_zhmt (a0 : Int) (a1 : Int) : evR2 cx_zhmt (hdI cx_zhmt (find []) [] none 0) none Try.f173 173 none [(false, [.sc (.int .i64 a0)]), (false, [.sc (.int .i64 a1)])] some = (S.zhmt_R a0 a1).go (ret_zhmt true) := by kernel_rfl
theorem bs_zhmt : loopsIn Try.f173 [] = [] := by kernel_rfl
theorem zhmt_ok : Stands Try.prog tyTab 173 g_zhmt := by
 refine stands3 (L := find []) (n := 0) (hints := []) (cx_ok rfl) rdy_zhmt ⟨by kernel_rfl, by kernel_rfl, by kernel_rfl⟩ bs_zhmt nilB (fun das r hG hr => ?_)
 unfold g_zhmt at hG
 split at hG
 ·rename_i a0 a1
  injection hG with hG; subst hG
  exact ⟨none, true, win default ((raw_zhmt a0 a1).trans (DT.go_run _ _)) hr⟩
 ·cases hG
abbrev cx_zwex : Cx := mkCx2 tyTab [] [] [] []
theorem rdy_zwex : Ready Try.prog tyTab [] [] [] := ⟨noneG2, noneI2, noneF2⟩
structure S.zwex_T where
 x0 : Int
 x1 : Bool
 deriving Inhabited
def S.zwex_R (a0 : Int) (a1 : Int) : DT S.zwex_T :=
let y0 : Int := xwrap .i64 (a0 - a1)
(.leaf ⟨y0, xdec (y0 < a0) == xdec (a1 > 0)⟩)
def S.zwex (a0 : Int) (a1 : Int) : Option S.zwex_T := (S.zwex_R a0 a1).run
def S.zwex_is (a0 : Int) (a1 : Int) : Bool := (S.zwex a0 a1).isSome
def S.zwex_o (a0 : Int) (a1 : Int) : S.zwex_T := (S.zwex a0 a1).getD default
def ret_zwex (b : Bool) (r : S.zwex_T) : Ret := ⟨b, none, [(false, [C.d (.sc (.int .i64 r.x0))]), (false, [C.d (.sc (.bool r.x1))])]⟩
def g_zwex : Con
 | [(false, [.sc (.int .i64 a0)]), (false, [.sc (.int .i64 a1)])] => some (ret_zwex (S.zwex_is a0 a1) (S.zwex_o a0 a1))
 | _ => none
theorem raw_zwex (a0 : Int) (a1 : Int) : evR2 cx_zwex (hdI cx_zwex (find []) [] none 0) none Try.f174 174 none [(false, [.sc (.int .i64 a0)]), (false, [.sc (.int .i64 a1)])] some = (S.zwex_R a0 a1).go (ret_zwex true) := by kernel_rfl
theorem bs_zwex : loopsIn Try.f174 [] = [] := by kernel_rfl
theorem zwex_ok : Stands Try.prog tyTab 174 g_zwex := by
 refine stands3 (L := find []) (n := 0) (hints := []) (cx_ok rfl) rdy_zwex ⟨by kernel_rfl, by kernel_rfl, by kernel_rfl⟩ bs_zwex nilB (fun das r hG hr => ?_)
 unfold g_zwex at hG
 split at hG
 ·rename_i a0 a1
  injection hG with hG; subst hG
  exact ⟨none, true, win default ((raw_zwex a0 a1).trans (DT.go_run _ _)) hr⟩
 ·cases hG
abbrev cx_zvlh : Cx := mkCx2 tyTab [] [] [] []
theorem rdy_zvlh : Ready Try.prog tyTab [] [] [] := ⟨noneG2, noneI2, noneF2⟩
structure S.zvlh_T where
 x0 : Int
 x1 : Bool
 deriving Inhabited
def S.zvlh_R (a0 : Int) (a1 : Int) : DT S.zvlh_T :=
let y0 : Int := -1
let y1 : Int := -9223372036854775808
let y2 : Bool := xeqI a1 y0
let y3 : Bool := xeqI a0 y1
let y4 : Bool := xdec (a1 ≠ 0)
let y5 : Int := xwrap .i64 (a0 * a1)
let y6 : Bool := xeqI (xwrap .i64 (y5.tdiv a1)) a0
(.br (xeqI a0 0)
(.leaf ⟨0, true⟩)
(.br (xeqI a1 0)
(.leaf ⟨0, true⟩)
(.br (xeqI a0 y0)
(.br (xeqI a1 y1)
(.leaf ⟨0, false⟩)
(.br (y2)
(.br (y3)
(.leaf ⟨0, false⟩)
(.br (y4)
(.leaf ⟨y5, y6⟩)
.fail))
(.br (y4)
(.leaf ⟨y5, y6⟩)
.fail)))
(.br (y2)
(.br (y3)
(.leaf ⟨0, false⟩)
(.br (y4)
(.leaf ⟨y5, y6⟩)
.fail))
(.br (y4)
(.leaf ⟨y5, y6⟩)
.fail)))))
def S.zvlh (a0 : Int) (a1 : Int) : Option S.zvlh_T := (S.zvlh_R a0 a1).run
def S.zvlh_is (a0 : Int) (a1 : Int) : Bool := (S.zvlh a0 a1).isSome
def S.zvlh_o (a0 : Int) (a1 : Int) : S.zvlh_T := (S.zvlh a0 a1).getD default
def ret_zvlh (b : Bool) (r : S.zvlh_T) : Ret := ⟨b, none, [(false, [C.d (.sc (.int .i64 r.x0))]), (false, [C.d (.sc (.bool r.x1))])]⟩
def g_zvlh : Con
 | [(false, [.sc (.int .i64 a0)]), (false, [.sc (.int .i64 a1)])] => some (ret_zvlh (S.zvlh_is a0 a1) (S.zvlh_o a0 a1))
 | _ => none
theorem raw_zvlh (a0 : Int) (a1 : Int) : evR2 cx_zvlh (hdI cx_zvlh (find []) [] none 0) none Try.f175 175 none [(false, [.sc (.int .i64 a0)]), (false, [.sc (.int .i64 a1)])] some = (S.zvlh_R a0 a1).go (ret_zvlh true) := by kernel_rfl
theorem bs_zvlh : loopsIn Try.f175 [] = [] := by kernel_rfl
theorem zvlh_ok : Stands Try.prog tyTab 175 g_zvlh := by
 refine stands3 (L := find []) (n := 0) (hints := []) (cx_ok rfl) rdy_zvlh ⟨by kernel_rfl, by kernel_rfl, by kernel_rfl⟩ bs_zvlh nilB (fun das r hG hr => ?_)
 unfold g_zvlh at hG
 split at hG
 ·rename_i a0 a1
  injection hG with hG; subst hG
  exact ⟨none, true, win default ((raw_zvlh a0 a1).trans (DT.go_run _ _)) hr⟩
 ·cases hG
abbrev cx_zwln : Cx := mkCx2 tyTab [(161, g_zrif), (172, g_zzst), (173, g_zhmt), (174, g_zwex), (175, g_zvlh)] [] [] []
theorem rdy_zwln : Ready Try.prog tyTab [(161, g_zrif), (172, g_zzst), (173, g_zhmt), (174, g_zwex), (175, g_zvlh)] [] [] := ⟨consG2 zrif_ok (consG2 zzst_ok (consG2 zhmt_ok (consG2 zwex_ok (consG2 zvlh_ok (noneG2))))), noneI2, noneF2⟩
structure S.zwln_T where
 x0 : Int
 x1 : Int
 x2 : ByteArray
 x3 : Int
 deriving Inhabited
def S.zwln_R (a0 : Int) (a1_0 : Int) (a1_1 : Int) (a1_2 : ByteArray) (a2_0 : Int) (a2_1 : Int) (a2_2 : ByteArray) : DT S.zwln_T :=
let y0 : Bool := xeqI a1_0 a2_0 && (xeqI a1_1 a2_1 && xdec (a1_2 = a2_2))
let y1 : S.zrif_T := S.zrif_o y0
let y2 : Bool := (S.zzst_o a1_0 a1_1 a1_2 a2_0 a2_1 a2_2).x0
let y3 : S.zrif_T := S.zrif_o y2
let y4 : Bool := xeqI a0 7
let y5 : Bool := xneI a1_0 1
let y6 : Int := xwrap .i64 (a1_1 + a2_1)
let y7 : Bool := xeqI y6 2
let y8 : Bool := xeqI a0 8
let y9 : Bool := xdec (y6 > 0)
let y10 : Bool := S.zrif_is y9
let y11 : S.zrif_T := S.zrif_o y9
let y12 : Int := y11.x0
let y13 : Int := y11.x1
let y14 : ByteArray := y11.x2
let y15 : Bool := xneI a1_0 0
let y16 : Bool := xeqI a0 2
let y17 : Bool := xnot (S.zhmt_o a1_1 a2_1).x1
let y18 : Int := (S.zhmt_o a1_1 a2_1).x0
let y19 : Bool := xeqI a0 3
let y20 : Bool := xnot (S.zwex_o a1_1 a2_1).x1
let y21 : Int := (S.zwex_o a1_1 a2_1).x0
let y22 : Bool := xnot (S.zvlh_o a1_1 a2_1).x1
let y23 : Int := (S.zvlh_o a1_1 a2_1).x0
(.br (xneI a1_0 a2_0)
(.leaf ⟨0, 0, ByteArray.empty, 5⟩)
(.br (xeqI a0 6)
(.br (S.zrif_is y0)
(.leaf ⟨y1.x0, y1.x1, y1.x2, 0⟩)
.fail)
(.br (xeqI a0 5)
(.br (xeqI a1_0 1)
(.leaf ⟨0, 0, ByteArray.empty, 5⟩)
(.br (S.zzst_is a1_0 a1_1 a1_2 a2_0 a2_1 a2_2)
(.br (S.zrif_is y2)
(.leaf ⟨y3.x0, y3.x1, y3.x2, 0⟩)
.fail)
.fail))
(.br (y4)
(.br (y4)
(.br (y5)
(.leaf ⟨0, 0, ByteArray.empty, 5⟩)
(.br (y7)
(.leaf ⟨(S.zrif_o true).x0, (S.zrif_o true).x1, (S.zrif_o true).x2, 0⟩)
(.br (y8)
(.br (y10)
(.leaf ⟨y12, y13, y14, 0⟩)
.fail)
(.leaf ⟨(S.zrif_o false).x0, (S.zrif_o false).x1, (S.zrif_o false).x2, 0⟩))))
(.br (y15)
(.leaf ⟨0, 0, ByteArray.empty, 5⟩)
(.br (y16)
(.br (y17)
(.leaf ⟨0, 0, ByteArray.empty, 6⟩)
(.leaf ⟨0, y18, ByteArray.empty, 0⟩))
(.br (y19)
(.br (y20)
(.leaf ⟨0, 0, ByteArray.empty, 6⟩)
(.leaf ⟨0, y21, ByteArray.empty, 0⟩))
(.br (S.zvlh_is a1_1 a2_1)
(.br (y22)
(.leaf ⟨0, 0, ByteArray.empty, 6⟩)
(.leaf ⟨0, y23, ByteArray.empty, 0⟩))
.fail)))))
(.br (y8)
(.br (y5)
(.leaf ⟨0, 0, ByteArray.empty, 5⟩)
(.br (y7)
(.leaf ⟨(S.zrif_o true).x0, (S.zrif_o true).x1, (S.zrif_o true).x2, 0⟩)
(.br (y8)
(.br (y10)
(.leaf ⟨y12, y13, y14, 0⟩)
.fail)
(.leaf ⟨(S.zrif_o false).x0, (S.zrif_o false).x1, (S.zrif_o false).x2, 0⟩))))
(.br (y15)
(.leaf ⟨0, 0, ByteArray.empty, 5⟩)
(.br (y16)
(.br (y17)
(.leaf ⟨0, 0, ByteArray.empty, 6⟩)
(.leaf ⟨0, y18, ByteArray.empty, 0⟩))
(.br (y19)
(.br (y20)
(.leaf ⟨0, 0, ByteArray.empty, 6⟩)
(.leaf ⟨0, y21, ByteArray.empty, 0⟩))
(.br (S.zvlh_is a1_1 a2_1)
(.br (y22)
(.leaf ⟨0, 0, ByteArray.empty, 6⟩)
(.leaf ⟨0, y23, ByteArray.empty, 0⟩))
.fail)))))))))
def S.zwln (a0 : Int) (a1_0 : Int) (a1_1 : Int) (a1_2 : ByteArray) (a2_0 : Int) (a2_1 : Int) (a2_2 : ByteArray) : Option S.zwln_T := (S.zwln_R a0 a1_0 a1_1 a1_2 a2_0 a2_1 a2_2).run
def S.zwln_is (a0 : Int) (a1_0 : Int) (a1_1 : Int) (a1_2 : ByteArray) (a2_0 : Int) (a2_1 : Int) (a2_2 : ByteArray) : Bool := (S.zwln a0 a1_0 a1_1 a1_2 a2_0 a2_1 a2_2).isSome
def S.zwln_o (a0 : Int) (a1_0 : Int) (a1_1 : Int) (a1_2 : ByteArray) (a2_0 : Int) (a2_1 : Int) (a2_2 : ByteArray) : S.zwln_T := (S.zwln a0 a1_0 a1_1 a1_2 a2_0 a2_1 a2_2).getD default
def ret_zwln (b : Bool) (r : S.zwln_T) : Ret := ⟨b, none, [(true, [C.d (.sc (.int .i64 r.x0)), C.d (.sc (.int .i64 r.x1)), C.d (.sc (.str r.x2))]), (false, [C.d (.sc (.int .i64 r.x3))])]⟩
def g_zwln : Con
 | [(false, [.sc (.int .i64 a0)]), (true, [.sc (.int .i64 a1_0), .sc (.int .i64 a1_1), .sc (.str a1_2)]), (true, [.sc (.int .i64 a2_0), .sc (.int .i64 a2_1), .sc (.str a2_2)])] => some (ret_zwln (S.zwln_is a0 a1_0 a1_1 a1_2 a2_0 a2_1 a2_2) (S.zwln_o a0 a1_0 a1_1 a1_2 a2_0 a2_1 a2_2))
 | _ => none
theorem raw_zwln (a0 : Int) (a1_0 : Int) (a1_1 : Int) (a1_2 : ByteArray) (a2_0 : Int) (a2_1 : Int) (a2_2 : ByteArray) : evR2 cx_zwln (hdI cx_zwln (find []) [] none 0) none Try.f162 162 none [(false, [.sc (.int .i64 a0)]), (true, [.sc (.int .i64 a1_0), .sc (.int .i64 a1_1), .sc (.str a1_2)]), (true, [.sc (.int .i64 a2_0), .sc (.int .i64 a2_1), .sc (.str a2_2)])] some = (S.zwln_R a0 a1_0 a1_1 a1_2 a2_0 a2_1 a2_2).go (ret_zwln true) := by kernel_rfl
theorem bs_zwln : loopsIn Try.f162 [] = [] := by kernel_rfl
theorem zwln_ok : Stands Try.prog tyTab 162 g_zwln := by
 refine stands3 (L := find []) (n := 0) (hints := []) (cx_ok rfl) rdy_zwln ⟨by kernel_rfl, by kernel_rfl, by kernel_rfl⟩ bs_zwln nilB (fun das r hG hr => ?_)
 unfold g_zwln at hG
 split at hG
 ·rename_i a0 a1_0 a1_1 a1_2 a2_0 a2_1 a2_2
  injection hG with hG; subst hG
  exact ⟨none, true, win default ((raw_zwln a0 a1_0 a1_1 a1_2 a2_0 a2_1 a2_2).trans (DT.go_run _ _)) hr⟩
 ·cases hG
abbrev cx_zekf : Cx := mkCx2 tyTab [(128, g_ztra), (153, g_zfbt)] [] [(144, 5, { keep := [1, 4], acc := [] })] []
theorem rdy_zekf : Ready Try.prog tyTab [(128, g_ztra), (153, g_zfbt)] [] [] := ⟨consG2 ztra_ok (consG2 zfbt_ok (noneG2)), noneI2, noneF2⟩
structure S.zekf_5_V where
 t4_ : Int
def S.zekf_5_R (qA : List (Ty .val)) (v : S.zekf_5_V) : DT (Option Nat × S.zekf_5_V) :=
let y0 : Bool := xdec (v.t4_ < (↑qA.length : Int))
let y1 : Ty .val := qA.getD v.t4_.toNat (dflt .val)
let y2 : Int := y1.kind
let y3 : Int := y1.n
let y4 : ByteArray := y1.s
(.br (y0)
(.br (xdec (0 ≤ v.t4_) && y0)
(.br (S.zfbt_is y2 y3 y4)
(.br (xnot (S.zfbt_o y2 y3 y4).x0)
(.leaf (some 0, v))
(.leaf (none, ⟨xwrap .i64 (v.t4_ + 1)⟩)))
.fail)
.fail)
(.leaf (some 1, v)))
def S.zekf_5_r (qA : List (Ty .val)) (v : S.zekf_5_V) : Option (Option Nat × S.zekf_5_V) := (S.zekf_5_R qA v).run
def S.zekf_5_j (qA : List (Ty .val)) (v : S.zekf_5_V) (j : Nat) : Bool := Lp_j (S.zekf_5_r qA) v j
def S.zekf_5_v (qA : List (Ty .val)) (v : S.zekf_5_V) : S.zekf_5_V := Lp_v (S.zekf_5_r qA) v
def mk_zekf_5 (qC : ByteArray) (qD : Int) (qG : Option Bool) (qH : Bool) (qA : List (Ty .val)) (v : S.zekf_5_V) : St := ⟨(V.any :: (V.v false [C.ptr 0 0] :: (V.any :: (V.any :: ((cV v.t4_) :: (vs 37 [])))))), (some (Blk.box 29 [C.d (.sc (.str qC)), (cI qD), C.d (.sl qG qH .val qA)]) :: (ns 24 [])), 0⟩
def ex_zekf_5 (qC : ByteArray) (qD : Int) (qG : Option Bool) (qH : Bool) (qA : List (Ty .val)) (j : Nat) (v : S.zekf_5_V) : Ex × St := match j with
 | 0 => (Ex.ret, ⟨(V.any :: (V.any :: (V.v false [C.d (.sc (.bool false))] :: (vs 39 [])))), (some (Blk.box 29 [C.d (.sc (.str qC)), (cI qD), C.d (.sl qG qH .val qA)]) :: (ns 39 [])), 0⟩)
 | 1 => (Ex.exit 0, ⟨(vs 42 []), (some (Blk.box 29 [C.d (.sc (.str qC)), (cI qD), C.d (.sl qG qH .val qA)]) :: (ns 29 [])), 0⟩)
 | _ => (.ret, ⟨[], [], 0⟩)
def T1_zekf_5 : V → V → Option Blk → Tree
 | V.v false [C.ptr 0 0], V.v false [C.d (.sc (.int .i64 t4_))], some (Blk.box 29 [C.d (.sc (.str qC)), C.d (.sc (.int .i64 qD)), C.d (.sl qG qH .val qA)]) => exT (fun j => ex_zekf_5 qC qD qG qH qA j (S.zekf_5_v qA ⟨t4_⟩)) (S.zekf_5_j qA ⟨t4_⟩) [0, 1]
 | _, _, _ => .bad
def T_zekf_5 (st : St) : Tree := bif okSt 42 25 0 [0] st then T1_zekf_5 (st.env.getD 1 .any) (st.env.getD 4 .any) (lk st.heap 0) else .bad
def b_zekf_5 : Code := loopBy Try.f144 5
theorem rnd_zekf_5 (qC : ByteArray) (qD : Int) (qG : Option Bool) (qH : Bool) (qA : List (Ty .val)) (v : S.zekf_5_V) : round2 cx_zekf (hdI cx_zekf (find []) [] none 0) 144 b_zekf_5 [] 25 [2] (mk_zekf_5 qC qD qG qH qA v) = (S.zekf_5_R qA v).go (roundOut (mk_zekf_5 qC qD qG qH qA) (ex_zekf_5 qC qD qG qH qA)) := by kernel_rfl
theorem bs_zekf_5 : loopsOf b_zekf_5 ++ loopsInl [] = [] := by kernel_rfl
theorem ci_zekf_5 (qC : ByteArray) (qD : Int) (qG : Option Bool) (qH : Bool) (qA : List (Ty .val)) : ∀ v j v2, Lp (S.zekf_5_r qA) v = some (j, v2) → Circles Try.prog cx_zekf b_zekf_5 (mk_zekf_5 qC qD qG qH qA v) (ex_zekf_5 qC qD qG qH qA j v2).1 (ex_zekf_5 qC qD qG qH qA j v2).2 :=
 loop_ok2 (L := find []) (n := 0) (hints := [(144, 5, { keep := [1, 4], acc := [] })]) (cx_ok rfl) rdy_zekf bs_zekf_5 nilB (fun v => (rnd_zekf_5 qC qD qG qH qA v).trans (DT.go_run _ _)) (by intro j v; unfold ex_zekf_5; split <;> rfl)
theorem mke_zekf_5 (qC : ByteArray) (qD : Int) (qG : Option Bool) (qH : Bool) (qA : List (Ty .val)) (v : S.zekf_5_V) : mk_zekf_5 qC qD qG qH qA v = ⟨envOf 42 [(1, V.v false [C.ptr 0 0]), (4, (cV v.t4_))], heapOf 25 [(0, some (Blk.box 29 [C.d (.sc (.str qC)), (cI qD), C.d (.sl qG qH .val qA)]))], 0⟩ := by kernel_rfl
theorem lo1_zekf_5 (e1 : V) (e4 : V) (h0 : Option Blk) e st2 (h : (T1_zekf_5 e1 e4 h0).eval = some (e, st2)) : Circles Try.prog cx_zekf b_zekf_5 ⟨envOf 42 [(1, e1), (4, e4)], heapOf 25 [(0, h0)], 0⟩ e st2 := by
 unfold T1_zekf_5 at h
 split at h
 ·have := loop_tree (mk := mk_zekf_5 _ _ _ _ _) (ci_zekf_5 _ _ _ _ _) _ _ e st2 h
  rw [mke_zekf_5] at this
  exact this
 ·cases h
theorem lok_zekf_5 : LoopOk Try.prog cx_zekf b_zekf_5 T_zekf_5 := by
 intro st e st2 h
 unfold T_zekf_5 at h
 cases hk : okSt 42 25 0 [0] st with
 | false => rw [hk] at h; cases h
 | true =>
  rw [hk] at h
  exact circles_keep (ks := [1, 4]) hk (lo1_zekf_5 _ _ _ e st2 h)
structure S.zekf_T where
 x0 : Bool
 deriving Inhabited
def S.zekf_R (a0_0 : ByteArray) (a0_1 : Int) (a0_2 : List (Ty .val)) : DT S.zekf_T :=
let y0 : S.zekf_5_V := { t4_ := 0 : S.zekf_5_V }
(.br (S.ztra_is a0_0)
(.br (xnot (S.ztra_o a0_0).x0)
(.leaf ⟨false⟩)
(.br (xdec (a0_1 < 0))
(.leaf ⟨false⟩)
(.br (xdec (a0_1 > 1125899906842624))
(.leaf ⟨false⟩)
(.br (xdec ((↑a0_2.length : Int) > 6))
(.leaf ⟨false⟩)
(.br (S.zekf_5_j a0_2 y0 0)
(.leaf ⟨false⟩)
(.br (S.zekf_5_j a0_2 y0 1)
(.leaf ⟨true⟩)
.fail))))))
.fail)
def S.zekf (a0_0 : ByteArray) (a0_1 : Int) (a0_2 : List (Ty .val)) : Option S.zekf_T := (S.zekf_R a0_0 a0_1 a0_2).run
def S.zekf_is (a0_0 : ByteArray) (a0_1 : Int) (a0_2 : List (Ty .val)) : Bool := (S.zekf a0_0 a0_1 a0_2).isSome
def S.zekf_o (a0_0 : ByteArray) (a0_1 : Int) (a0_2 : List (Ty .val)) : S.zekf_T := (S.zekf a0_0 a0_1 a0_2).getD default
def ret_zekf (b : Bool) (r : S.zekf_T) : Ret := ⟨b, none, [(false, [C.d (.sc (.bool r.x0))])]⟩
def g_zekf : Con
 | [(true, [.sc (.str a0_0), .sc (.int .i64 a0_1), .sl a0_2n a0_2f .val a0_2])] => some (ret_zekf (S.zekf_is a0_0 a0_1 a0_2) (S.zekf_o a0_0 a0_1 a0_2))
 | _ => none
theorem raw_zekf (a0_0 : ByteArray) (a0_1 : Int) (a0_2n : Option Bool) (a0_2f : Bool) (a0_2 : List (Ty .val)) : evR2 cx_zekf (hdI cx_zekf (find [(5, T_zekf_5)]) [] none 0) none Try.f144 144 none [(true, [.sc (.str a0_0), .sc (.int .i64 a0_1), .sl a0_2n a0_2f .val a0_2])] some = (S.zekf_R a0_0 a0_1 a0_2).go (ret_zekf true) := by kernel_rfl
theorem bs_zekf : loopsIn Try.f144 [] = [b_zekf_5] := by kernel_rfl
theorem zekf_ok : Stands Try.prog tyTab 144 g_zekf := by
 refine stands3 (L := find [(5, T_zekf_5)]) (n := 0) (hints := [(144, 5, { keep := [1, 4], acc := [] })]) (cx_ok rfl) rdy_zekf ⟨by kernel_rfl, by kernel_rfl, by kernel_rfl⟩ bs_zekf (consB (fun T h => by have e : T_zekf_5 = T := Option.some.inj (show some T_zekf_5 = some T from h); exact e ▸ lok_zekf_5) nilB) (fun das r hG hr => ?_)
 unfold g_zekf at hG
 split at hG
 ·rename_i a0_0 a0_1 a0_2n a0_2f a0_2
  injection hG with hG; subst hG
  exact ⟨none, true, win default ((raw_zekf a0_0 a0_1 a0_2n a0_2f a0_2).trans (DT.go_run _ _)) hr⟩
 ·cases hG
end
end Go.Eng
