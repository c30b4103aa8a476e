/- Contracts, laid by program. -/
import Derived.Test.YtoohnjneocohnaaGreatZG3
set_option linter.unusedVariables false
namespace Go.Eng
noncomputable section
open Go Go.Eng Go.Proofs Go.Eng.Tab
abbrev cx_zvnj : Cx := mkCx2 tyTab [(80, g_zn3l), (81, g_zo5k)] [] [] []
theorem rdy_zvnj : Ready Tryz.prog tyTab [(80, g_zn3l), (81, g_zo5k)] [] [] := ⟨consG2 zn3l_ok (consG2 zo5k_ok (noneG2)), noneI2, noneF2⟩
structure S.zvnj_T where
 x0 : Bool
 deriving Inhabited
def S.zvnj_R (a0_0 : ByteArray) (a0_1 : Int) (a0_2 : Lv) (a1 : Lo) : DT S.zvnj_T :=
let y0 := S.zn3l_o a0_0 a0_1 a0_2 a1
(.br (S.zn3l_is a0_0 a0_1 a0_2 a1)
(.br (xeqI (↑a1.length : Int) 0)
(.leaf ⟨true⟩)
(.br (xeqI y0.x3 0)
(.leaf ⟨xeqI y0.x0 (S.zo5k_o true).x0 && (xeqI y0.x1 (S.zo5k_o true).x1 && xdec (y0.x2 = (S.zo5k_o true).x2))⟩)
(.leaf ⟨false⟩)))
.fail)
def S.zvnj (a0_0 : ByteArray) (a0_1 : Int) (a0_2 : Lv) (a1 : Lo) : Option S.zvnj_T := (S.zvnj_R a0_0 a0_1 a0_2 a1).run
def S.zvnj_is (a0_0 : ByteArray) (a0_1 : Int) (a0_2 : Lv) (a1 : Lo) : Bool := (S.zvnj a0_0 a0_1 a0_2 a1).isSome
def S.zvnj_o (a0_0 : ByteArray) (a0_1 : Int) (a0_2 : Lv) (a1 : Lo) : S.zvnj_T := (S.zvnj a0_0 a0_1 a0_2 a1).getD default
def ret_zvnj (b : Bool) (r : S.zvnj_T) : Ret := ⟨b, none, [(false, [cB r.x0])]⟩
def g_zvnj : Con
 | [(true, [.sc (.str a0_0), .sc (.int .i64 a0_1), .sl a0_2n a0_2f .val a0_2]), (false, [.sl a1n a1f .op a1])] => some (ret_zvnj (S.zvnj_is a0_0 a0_1 a0_2 a1) (S.zvnj_o a0_0 a0_1 a0_2 a1))
 | _ => none
theorem raw_zvnj (a0_0 : ByteArray) (a0_1 : Int) (a0_2n : OBz) (a0_2f : Bool) (a0_2 : Lv) (a1n : OBz) (a1f : Bool) (a1 : Lo) : evR2 cx_zvnj (hdI cx_zvnj (find []) [] none 0) none Tryz.f75 75 none [(true, [.sc (.str a0_0), dI a0_1, .sl a0_2n a0_2f .val a0_2]), (false, [.sl a1n a1f .op a1])] some = (S.zvnj_R a0_0 a0_1 a0_2 a1).go (ret_zvnj true) := by kernel_rfl
theorem bs_zvnj : loopsIn Tryz.f75 [] = [] := by kernel_rfl
theorem zvnj_ok : Stands Tryz.prog tyTab 75 g_zvnj := by
 refine stands3 (L := find []) (n := 0) (hints := []) (cx_ok rfl) rdy_zvnj ⟨by kernel_rfl, by kernel_rfl, by kernel_rfl⟩ bs_zvnj nilB (fun das r hG hr => ?_)
 unfold g_zvnj at hG
 split at hG
 ·rename_i a0_0 a0_1 a0_2n a0_2f a0_2 a1n a1f a1
  injection hG with hG; subst hG
  exact ⟨none, true, win default ((raw_zvnj a0_0 a0_1 a0_2n a0_2f a0_2 a1n a1f a1).trans (DT.go_run _ _)) hr⟩
 ·cases hG
abbrev cx_zh5h : Cx := mkCx2 tyTab [(75, g_zvnj)] [] [] []
theorem rdy_zh5h : Ready Tryz.prog tyTab [(75, g_zvnj)] [] [] := ⟨consG2 zvnj_ok (noneG2), noneI2, noneF2⟩
structure S.zh5h_T where
 x0 : Bool
 deriving Inhabited
def S.zh5h_R (a0_0 : ByteArray) (a0_1 : Lo) (a1_0 : ByteArray) (a1_1 : Int) (a1_2 : Lv) : DT S.zh5h_T :=
(.br (xdec (a0_0 = a1_0))
(.br (S.zvnj_is a1_0 a1_1 a1_2 a0_1)
(.leaf ⟨(S.zvnj_o a1_0 a1_1 a1_2 a0_1).x0⟩)
.fail)
(.leaf ⟨false⟩))
def S.zh5h (a0_0 : ByteArray) (a0_1 : Lo) (a1_0 : ByteArray) (a1_1 : Int) (a1_2 : Lv) : Option S.zh5h_T := (S.zh5h_R a0_0 a0_1 a1_0 a1_1 a1_2).run
def S.zh5h_is (a0_0 : ByteArray) (a0_1 : Lo) (a1_0 : ByteArray) (a1_1 : Int) (a1_2 : Lv) : Bool := (S.zh5h a0_0 a0_1 a1_0 a1_1 a1_2).isSome
def S.zh5h_o (a0_0 : ByteArray) (a0_1 : Lo) (a1_0 : ByteArray) (a1_1 : Int) (a1_2 : Lv) : S.zh5h_T := (S.zh5h a0_0 a0_1 a1_0 a1_1 a1_2).getD default
def ret_zh5h (b : Bool) (r : S.zh5h_T) : Ret := ⟨b, none, [(false, [cB r.x0])]⟩
def g_zh5h : Con
 | [(true, [.sc (.str a0_0), .sl a0_1n a0_1f .op a0_1]), (true, [.sc (.str a1_0), .sc (.int .i64 a1_1), .sl a1_2n a1_2f .val a1_2])] => some (ret_zh5h (S.zh5h_is a0_0 a0_1 a1_0 a1_1 a1_2) (S.zh5h_o a0_0 a0_1 a1_0 a1_1 a1_2))
 | _ => none
theorem raw_zh5h (a0_0 : ByteArray) (a0_1n : OBz) (a0_1f : Bool) (a0_1 : Lo) (a1_0 : ByteArray) (a1_1 : Int) (a1_2n : OBz) (a1_2f : Bool) (a1_2 : Lv) : evR2 cx_zh5h (hdI cx_zh5h (find []) [] none 0) none Tryz.f71 71 none [(true, [.sc (.str a0_0), .sl a0_1n a0_1f .op a0_1]), (true, [.sc (.str a1_0), dI a1_1, .sl a1_2n a1_2f .val a1_2])] some = (S.zh5h_R a0_0 a0_1 a1_0 a1_1 a1_2).go (ret_zh5h true) := by kernel_rfl
theorem bs_zh5h : loopsIn Tryz.f71 [] = [] := by kernel_rfl
theorem zh5h_ok : Stands Tryz.prog tyTab 71 g_zh5h := by
 refine stands3 (L := find []) (n := 0) (hints := []) (cx_ok rfl) rdy_zh5h ⟨by kernel_rfl, by kernel_rfl, by kernel_rfl⟩ bs_zh5h nilB (fun das r hG hr => ?_)
 unfold g_zh5h at hG
 split at hG
 ·rename_i a0_0 a0_1n a0_1f a0_1 a1_0 a1_1 a1_2n a1_2f a1_2
  injection hG with hG; subst hG
  exact ⟨none, true, win default ((raw_zh5h a0_0 a0_1n a0_1f a0_1 a1_0 a1_1 a1_2n a1_2f a1_2).trans (DT.go_run _ _)) hr⟩
 ·cases hG
abbrev cx_z6c2 : Cx := mkCx2 tyTab [] [] [(18, 4, { keep := [1, 3], acc := [] })] []
theorem rdy_z6c2 : Ready Tryz.prog tyTab [] [] [] := ⟨noneG2, noneI2, noneF2⟩
structure S.z6c2_4_V where
 t3_ : Int
def S.z6c2_4_R (qA : Lv) (v : S.z6c2_4_V) : DT (Option Nat × S.z6c2_4_V) :=
let y0 : Bool := xdec (v.t3_ < (↑qA.length : Int))
(.br (y0)
(.br (xdec (0 ≤ v.t3_) && y0)
(.br (xdec ((↑(qA.getD v.t3_.toNat (dflt .val)).s.size : Int) > 100))
(.leaf (some 0, v))
(.leaf (none, ⟨xwrap .i64 (v.t3_ + 1)⟩)))
.fail)
(.leaf (some 1, v)))
def S.z6c2_4_r (qA : Lv) (v : S.z6c2_4_V) : Option (Option Nat × S.z6c2_4_V) := (S.z6c2_4_R qA v).run
def S.z6c2_4_j (qA : Lv) (v : S.z6c2_4_V) (j : Nat) : Bool := Lp_j (S.z6c2_4_r qA) v j
def S.z6c2_4_v (qA : Lv) (v : S.z6c2_4_V) : S.z6c2_4_V := Lp_v (S.z6c2_4_r qA) v
def mk_z6c2_4 (qB : ByteArray) (qC : Int) (qD : OBz) (qE : Bool) (qA : Lv) (v : S.z6c2_4_V) : St := ⟨(V.any :: (V.v false [C.ptr 0 0] :: (V.any :: ((cV v.t3_) :: (vs 25 []))))), (some (Blk.box 43 [C.d (.sc (.str qB)), (cI qC), C.d (.sl qD qE .val qA)]) :: (ns 12 [])), 0⟩
def ex_z6c2_4 (qB : ByteArray) (qC : Int) (qD : OBz) (qE : Bool) (qA : Lv) (j : Nat) (v : S.z6c2_4_V) : Ex × St := match j with
 | 0 => (Ex.ret, ⟨(V.any :: (V.any :: (V.v false [cB false] :: (vs 26 [])))), (some (Blk.box 43 [C.d (.sc (.str qB)), (cI qC), C.d (.sl qD qE .val qA)]) :: (ns 26 [])), 0⟩)
 | 1 => (Ex.exit 0, ⟨(vs 29 []), (some (Blk.box 43 [C.d (.sc (.str qB)), (cI qC), C.d (.sl qD qE .val qA)]) :: (ns 17 [])), 0⟩)
 | _ => (.ret, ⟨[], [], 0⟩)
def T1_z6c2_4 : V → V → Option Blk → Tree
 | V.v false [C.ptr 0 0], V.v false [C.d (.sc (.int .i64 t3_))], some (Blk.box 43 [C.d (.sc (.str qB)), C.d (.sc (.int .i64 qC)), C.d (.sl qD qE .val qA)]) => exT (fun j => ex_z6c2_4 qB qC qD qE qA j (S.z6c2_4_v qA ⟨t3_⟩)) (S.z6c2_4_j qA ⟨t3_⟩) [0, 1]
 | _, _, _ => .bad
def T_z6c2_4 (st : St) : Tree := bif okSt 29 13 0 [0] st then T1_z6c2_4 (st.env.getD 1 .any) (st.env.getD 3 .any) (lk st.heap 0) else .bad
def b_z6c2_4 : Code := loopBy Tryz.f18 4
theorem rnd_z6c2_4 (qB : ByteArray) (qC : Int) (qD : OBz) (qE : Bool) (qA : Lv) (v : S.z6c2_4_V) : round2 cx_z6c2 (hdI cx_z6c2 (find []) [] none 0) 18 b_z6c2_4 [] 13 [2] (mk_z6c2_4 qB qC qD qE qA v) = (S.z6c2_4_R qA v).go (roundOut (mk_z6c2_4 qB qC qD qE qA) (ex_z6c2_4 qB qC qD qE qA)) := by kernel_rfl
theorem bs_z6c2_4 : loopsOf b_z6c2_4 ++ loopsInl [] = [] := by kernel_rfl
theorem ci_z6c2_4 (qB : ByteArray) (qC : Int) (qD : OBz) (qE : Bool) (qA : Lv) : ∀ v j v2, Lp (S.z6c2_4_r qA) v = some (j, v2) → Circles Tryz.prog cx_z6c2 b_z6c2_4 (mk_z6c2_4 qB qC qD qE qA v) (ex_z6c2_4 qB qC qD qE qA j v2).1 (ex_z6c2_4 qB qC qD qE qA j v2).2 :=
 loop_ok2 (L := find []) (n := 0) (hints := [(18, 4, { keep := [1, 3], acc := [] })]) (cx_ok rfl) rdy_z6c2 bs_z6c2_4 nilB (fun v => (rnd_z6c2_4 qB qC qD qE qA v).trans (DT.go_run _ _)) (by intro j v; unfold ex_z6c2_4; split <;> rfl)
theorem mke_z6c2_4 (qB : ByteArray) (qC : Int) (qD : OBz) (qE : Bool) (qA : Lv) (v : S.z6c2_4_V) : mk_z6c2_4 qB qC qD qE qA v = ⟨envOf 29 [(1, V.v false [C.ptr 0 0]), (3, (cV v.t3_))], heapOf 13 [(0, some (Blk.box 43 [C.d (.sc (.str qB)), (cI qC), C.d (.sl qD qE .val qA)]))], 0⟩ := by kernel_rfl
theorem lo1_z6c2_4 (e1 e3 : V) (h0 : Option Blk) e st2 (h : (T1_z6c2_4 e1 e3 h0).eval = some (e, st2)) : Circles Tryz.prog cx_z6c2 b_z6c2_4 ⟨envOf 29 [(1, e1), (3, e3)], heapOf 13 [(0, h0)], 0⟩ e st2 := by
 unfold T1_z6c2_4 at h
 split at h
 ·have := loop_tree (mk := mk_z6c2_4 _ _ _ _ _) (ci_z6c2_4 _ _ _ _ _) _ _ e st2 h
  rw [mke_z6c2_4] at this
  exact this
 ·cases h
theorem lok_z6c2_4 : LoopOk Tryz.prog cx_z6c2 b_z6c2_4 T_z6c2_4 := by
 intro st e st2 h
 unfold T_z6c2_4 at h
 cases hk : okSt 29 13 0 [0] st with
 | false => rw [hk] at h; cases h
 | true =>
  rw [hk] at h
  exact circles_keep (ks := [1, 3]) hk (lo1_z6c2_4 _ _ _ e st2 h)
structure S.z6c2_T where
 x0 : Bool
 deriving Inhabited
def S.z6c2_R (a0_0 : ByteArray) (a0_2 : Lv) : DT S.z6c2_T :=
let y0 : S.z6c2_4_V := { t3_ := 0 : S.z6c2_4_V }
(.br (xdec ((↑a0_0.size : Int) > 60))
(.leaf ⟨false⟩)
(.br (xdec ((↑a0_2.length : Int) > 10))
(.leaf ⟨false⟩)
(.br (S.z6c2_4_j a0_2 y0 0)
(.leaf ⟨false⟩)
(.br (S.z6c2_4_j a0_2 y0 1)
(.leaf ⟨true⟩)
.fail))))
def S.z6c2 (a0_0 : ByteArray) (a0_2 : Lv) : Option S.z6c2_T := (S.z6c2_R a0_0 a0_2).run
def S.z6c2_is (a0_0 : ByteArray) (a0_2 : Lv) : Bool := (S.z6c2 a0_0 a0_2).isSome
def S.z6c2_o (a0_0 : ByteArray) (a0_2 : Lv) : S.z6c2_T := (S.z6c2 a0_0 a0_2).getD default
def ret_z6c2 (b : Bool) (r : S.z6c2_T) : Ret := ⟨b, none, [(false, [cB r.x0])]⟩
def g_z6c2 : Con
 | [(true, [.sc (.str a0_0), .sc (.int .i64 a0_1), .sl a0_2n a0_2f .val a0_2])] => some (ret_z6c2 (S.z6c2_is a0_0 a0_2) (S.z6c2_o a0_0 a0_2))
 | _ => none
theorem raw_z6c2 (a0_0 : ByteArray) (a0_1 : Int) (a0_2n : OBz) (a0_2f : Bool) (a0_2 : Lv) : evR2 cx_z6c2 (hdI cx_z6c2 (find [(4, T_z6c2_4)]) [] none 0) none Tryz.f18 18 none [(true, [.sc (.str a0_0), dI a0_1, .sl a0_2n a0_2f .val a0_2])] some = (S.z6c2_R a0_0 a0_2).go (ret_z6c2 true) := by kernel_rfl
theorem bs_z6c2 : loopsIn Tryz.f18 [] = [b_z6c2_4] := by kernel_rfl
theorem z6c2_ok : Stands Tryz.prog tyTab 18 g_z6c2 := by
 refine stands3 (L := find [(4, T_z6c2_4)]) (n := 0) (hints := [(18, 4, { keep := [1, 3], acc := [] })]) (cx_ok rfl) rdy_z6c2 ⟨by kernel_rfl, by kernel_rfl, by kernel_rfl⟩ bs_z6c2 (consB (fun T h => by have e : T_z6c2_4 = T := Option.some.inj (show some T_z6c2_4 = some T from h); exact e ▸ lok_z6c2_4) nilB) (fun das r hG hr => ?_)
 unfold g_z6c2 at hG
 split at hG
 ·rename_i a0_0 a0_1 a0_2n a0_2f a0_2
  injection hG with hG; subst hG
  exact ⟨none, true, win default ((raw_z6c2 a0_0 a0_1 a0_2n a0_2f a0_2).trans (DT.go_run _ _)) hr⟩
 ·cases hG
abbrev cx_zzsx : Cx := mkCx2 tyTab [] [] [(17, 4, { keep := [0, 3], acc := [] })] []
theorem rdy_zzsx : Ready Tryz.prog tyTab [] [] [] := ⟨noneG2, noneI2, noneF2⟩
structure S.zzsx_4_V where
 t3_ : Int
def S.zzsx_4_R (qF : Lo) (v : S.zzsx_4_V) : DT (Option Nat × S.zzsx_4_V) :=
let y0 : Bool := xdec (v.t3_ < (↑qF.length : Int))
(.br (y0)
(.br (xdec (0 ≤ v.t3_) && y0)
(.br (xdec ((↑(qF.getD v.t3_.toNat (dflt .op)).v.s.size : Int) > 100))
(.leaf (some 0, v))
(.leaf (none, ⟨xwrap .i64 (v.t3_ + 1)⟩)))
.fail)
(.leaf (some 1, v)))
def S.zzsx_4_r (qF : Lo) (v : S.zzsx_4_V) : Option (Option Nat × S.zzsx_4_V) := (S.zzsx_4_R qF v).run
def S.zzsx_4_j (qF : Lo) (v : S.zzsx_4_V) (j : Nat) : Bool := Lp_j (S.zzsx_4_r qF) v j
def S.zzsx_4_v (qF : Lo) (v : S.zzsx_4_V) : S.zzsx_4_V := Lp_v (S.zzsx_4_r qF) v
def mk_zzsx_4 (qG : OBz) (qH : Bool) (qF : Lo) (v : S.zzsx_4_V) : St := ⟨(V.v false [C.d (.sl qG qH .op qF)] :: (V.any :: (V.any :: ((cV v.t3_) :: (vs 17 []))))), (ns 5 []), 0⟩
def ex_zzsx_4 (qG : OBz) (qH : Bool) (qF : Lo) (j : Nat) (v : S.zzsx_4_V) : Ex × St := match j with
 | 0 => (Ex.ret, ⟨(V.any :: (V.any :: (V.v false [cB false] :: (vs 18 [])))), (ns 18 []), 0⟩)
 | 1 => (Ex.exit 0, ⟨(vs 21 []), (ns 9 []), 0⟩)
 | _ => (.ret, ⟨[], [], 0⟩)
def T1_zzsx_4 : V → V → Tree
 | V.v false [C.d (.sl qG qH .op qF)], V.v false [C.d (.sc (.int .i64 t3_))] => exT (fun j => ex_zzsx_4 qG qH qF j (S.zzsx_4_v qF ⟨t3_⟩)) (S.zzsx_4_j qF ⟨t3_⟩) [0, 1]
 | _, _ => .bad
def T_zzsx_4 (st : St) : Tree := bif okSt 21 5 0 [] st then T1_zzsx_4 (st.env.getD 0 .any) (st.env.getD 3 .any) else .bad
def b_zzsx_4 : Code := loopBy Tryz.f17 4
theorem rnd_zzsx_4 (qG : OBz) (qH : Bool) (qF : Lo) (v : S.zzsx_4_V) : round2 cx_zzsx (hdI cx_zzsx (find []) [] none 0) 17 b_zzsx_4 [] 5 [2] (mk_zzsx_4 qG qH qF v) = (S.zzsx_4_R qF v).go (roundOut (mk_zzsx_4 qG qH qF) (ex_zzsx_4 qG qH qF)) := by kernel_rfl
theorem bs_zzsx_4 : loopsOf b_zzsx_4 ++ loopsInl [] = [] := by kernel_rfl
theorem ci_zzsx_4 (qG : OBz) (qH : Bool) (qF : Lo) : ∀ v j v2, Lp (S.zzsx_4_r qF) v = some (j, v2) → Circles Tryz.prog cx_zzsx b_zzsx_4 (mk_zzsx_4 qG qH qF v) (ex_zzsx_4 qG qH qF j v2).1 (ex_zzsx_4 qG qH qF j v2).2 :=
 loop_ok2 (L := find []) (n := 0) (hints := [(17, 4, { keep := [0, 3], acc := [] })]) (cx_ok rfl) rdy_zzsx bs_zzsx_4 nilB (fun v => (rnd_zzsx_4 qG qH qF v).trans (DT.go_run _ _)) (by intro j v; unfold ex_zzsx_4; split <;> rfl)
theorem mke_zzsx_4 (qG : OBz) (qH : Bool) (qF : Lo) (v : S.zzsx_4_V) : mk_zzsx_4 qG qH qF v = ⟨envOf 21 [(0, V.v false [C.d (.sl qG qH .op qF)]), (3, (cV v.t3_))], heapOf 5 [], 0⟩ := by kernel_rfl
theorem lo1_zzsx_4 (e0 e3 : V)  e st2 (h : (T1_zzsx_4 e0 e3).eval = some (e, st2)) : Circles Tryz.prog cx_zzsx b_zzsx_4 ⟨envOf 21 [(0, e0), (3, e3)], heapOf 5 [], 0⟩ e st2 := by
 unfold T1_zzsx_4 at h
 split at h
 ·have := loop_tree (mk := mk_zzsx_4 _ _ _) (ci_zzsx_4 _ _ _) _ _ e st2 h
  rw [mke_zzsx_4] at this
  exact this
 ·cases h
theorem lok_zzsx_4 : LoopOk Tryz.prog cx_zzsx b_zzsx_4 T_zzsx_4 := by
 intro st e st2 h
 unfold T_zzsx_4 at h
 cases hk : okSt 21 5 0 [] st with
 | false => rw [hk] at h; cases h
 | true =>
  rw [hk] at h
  exact circles_keep (ks := [0, 3]) hk (lo1_zzsx_4 _ _ e st2 h)
structure S.zzsx_T where
 x0 : Bool
 deriving Inhabited
def S.zzsx_R (a0 : Lo) : DT S.zzsx_T :=
let y0 : S.zzsx_4_V := { t3_ := 0 : S.zzsx_4_V }
(.br (xdec ((↑a0.length : Int) > 20))
(.leaf ⟨false⟩)
(.br (S.zzsx_4_j a0 y0 0)
(.leaf ⟨false⟩)
(.br (S.zzsx_4_j a0 y0 1)
(.leaf ⟨true⟩)
.fail)))
def S.zzsx (a0 : Lo) : Option S.zzsx_T := (S.zzsx_R a0).run
def S.zzsx_is (a0 : Lo) : Bool := (S.zzsx a0).isSome
def S.zzsx_o (a0 : Lo) : S.zzsx_T := (S.zzsx a0).getD default
def ret_zzsx (b : Bool) (r : S.zzsx_T) : Ret := ⟨b, none, [(false, [cB r.x0])]⟩
def g_zzsx : Con
 | [(false, [.sl a0n a0f .op a0])] => some (ret_zzsx (S.zzsx_is a0) (S.zzsx_o a0))
 | _ => none
theorem raw_zzsx (a0n : OBz) (a0f : Bool) (a0 : Lo) : evR2 cx_zzsx (hdI cx_zzsx (find [(4, T_zzsx_4)]) [] none 0) none Tryz.f17 17 none [(false, [.sl a0n a0f .op a0])] some = (S.zzsx_R a0).go (ret_zzsx true) := by kernel_rfl
theorem bs_zzsx : loopsIn Tryz.f17 [] = [b_zzsx_4] := by kernel_rfl
theorem zzsx_ok : Stands Tryz.prog tyTab 17 g_zzsx := by
 refine stands3 (L := find [(4, T_zzsx_4)]) (n := 0) (hints := [(17, 4, { keep := [0, 3], acc := [] })]) (cx_ok rfl) rdy_zzsx ⟨by kernel_rfl, by kernel_rfl, by kernel_rfl⟩ bs_zzsx (consB (fun T h => by have e : T_zzsx_4 = T := Option.some.inj (show some T_zzsx_4 = some T from h); exact e ▸ lok_zzsx_4) nilB) (fun das r hG hr => ?_)
 unfold g_zzsx at hG
 split at hG
 ·rename_i a0n a0f a0
  injection hG with hG; subst hG
  exact ⟨none, true, win default ((raw_zzsx a0n a0f a0).trans (DT.go_run _ _)) hr⟩
 ·cases hG
abbrev cx_zydq : Cx := mkCx2 tyTab [(17, g_zzsx)] [] [(5, 4, { keep := [1, 3], acc := [] })] []
theorem rdy_zydq : Ready Tryz.prog tyTab [(17, g_zzsx)] [] [] := ⟨consG2 zzsx_ok (noneG2), noneI2, noneF2⟩
structure S.zydq_4_V where
 t3_ : Int
def S.zydq_4_R (qB : Ls) (v : S.zydq_4_V) : DT (Option Nat × S.zydq_4_V) :=
let y0 : Bool := xdec (v.t3_ < (↑qB.length : Int))
let y1 : Ty .step := qB.getD v.t3_.toNat (dflt .step)
let y2 := y1.ifs
let y3 := y1.notIf
(.br (y0)
(.br (xdec (0 ≤ v.t3_) && y0)
(.br (S.zzsx_is y2)
(.br (S.zzsx_is y3)
(.br (xnot (S.zzsx_o y2).x0)
(.leaf (some 0, v))
(.br (xnot (S.zzsx_o y3).x0)
(.leaf (some 0, v))
(.br (xdec ((↑y1.name.size : Int) > 60))
(.leaf (some 0, v))
(.br (xdec ((↑y1.notName.size : Int) > 60))
(.leaf (some 0, v))
(.leaf (none, ⟨xwrap .i64 (v.t3_ + 1)⟩))))))
.fail)
.fail)
.fail)
(.leaf (some 1, v)))
def S.zydq_4_r (qB : Ls) (v : S.zydq_4_V) : Option (Option Nat × S.zydq_4_V) := (S.zydq_4_R qB v).run
def S.zydq_4_j (qB : Ls) (v : S.zydq_4_V) (j : Nat) : Bool := Lp_j (S.zydq_4_r qB) v j
def S.zydq_4_v (qB : Ls) (v : S.zydq_4_V) : S.zydq_4_V := Lp_v (S.zydq_4_r qB) v
def mk_zydq_4 (qI : OBz) (qJ : Bool) (qB : Ls) (qC qA qK qL : Int) (v : S.zydq_4_V) : St := ⟨(V.any :: (V.v false [C.ptr 0 0] :: (V.any :: ((cV v.t3_) :: (vs 43 []))))), (some (Blk.box 24 [C.d (.sl qI qJ .step qB), (cI qC), (cI qA), (cI qK), (cI qL)]) :: (ns 6 [])), 0⟩
def ex_zydq_4 (qI : OBz) (qJ : Bool) (qB : Ls) (qC qA qK qL : Int) (j : Nat) (v : S.zydq_4_V) : Ex × St := match j with
 | 0 => (Ex.ret, ⟨(V.any :: (V.any :: (V.v false [cB false] :: (vs 44 [])))), (some
  (Blk.box 24
   [C.d (.sl qI qJ .step qB), (cI qC), (cI qA), (cI qK),
    (cI qL)]) :: (ns 16 (some
  (Blk.box 59
   [C.d (.sc (.str (qB.getD v.t3_.toNat (dflt .step)).name)), C.d (.sl none false .op (qB.getD v.t3_.toNat (dflt .step)).ifs),
    (cI (qB.getD v.t3_.toNat (dflt .step)).min), (cI (qB.getD v.t3_.toNat (dflt .step)).max),
    C.d (.sc (.bool (qB.getD v.t3_.toNat (dflt .step)).guard)), C.d (.sc (.str (qB.getD v.t3_.toNat (dflt .step)).notName)),
    C.d (.sl none false .op (qB.getD v.t3_.toNat (dflt .step)).notIf)]) :: (ns 28 [])))), 0⟩)
 | 1 => (Ex.exit 0, ⟨(vs 47 []), (some
  (Blk.box 24
   [C.d (.sl qI qJ .step qB), (cI qC), (cI qA), (cI qK),
    (cI qL)]) :: (ns 11 [])), 0⟩)
 | _ => (.ret, ⟨[], [], 0⟩)
def T1_zydq_4 : V → V → Option Blk → Tree
 | V.v false [C.ptr 0 0], V.v false [C.d (.sc (.int .i64 t3_))], some (Blk.box 24 [C.d (.sl qI qJ .step qB), C.d (.sc (.int .i64 qC)), C.d (.sc (.int .i64 qA)), C.d (.sc (.int .i64 qK)), C.d (.sc (.int .i64 qL))]) => exT (fun j => ex_zydq_4 qI qJ qB qC qA qK qL j (S.zydq_4_v qB ⟨t3_⟩)) (S.zydq_4_j qB ⟨t3_⟩) [0, 1]
 | _, _, _ => .bad
def T_zydq_4 (st : St) : Tree := bif okSt 47 7 0 [0] st then T1_zydq_4 (st.env.getD 1 .any) (st.env.getD 3 .any) (lk st.heap 0) else .bad
def b_zydq_4 : Code := loopBy Tryz.f5 4
theorem rnd_zydq_4 (qI : OBz) (qJ : Bool) (qB : Ls) (qC qA qK qL : Int) (v : S.zydq_4_V) : round2 cx_zydq (hdI cx_zydq (find []) [] none 0) 5 b_zydq_4 [] 7 [2] (mk_zydq_4 qI qJ qB qC qA qK qL v) = (S.zydq_4_R qB v).go (roundOut (mk_zydq_4 qI qJ qB qC qA qK qL) (ex_zydq_4 qI qJ qB qC qA qK qL)) := by kernel_rfl
theorem bs_zydq_4 : loopsOf b_zydq_4 ++ loopsInl [] = [] := by kernel_rfl
theorem ci_zydq_4 (qI : OBz) (qJ : Bool) (qB : Ls) (qC qA qK qL : Int) : ∀ v j v2, Lp (S.zydq_4_r qB) v = some (j, v2) → Circles Tryz.prog cx_zydq b_zydq_4 (mk_zydq_4 qI qJ qB qC qA qK qL v) (ex_zydq_4 qI qJ qB qC qA qK qL j v2).1 (ex_zydq_4 qI qJ qB qC qA qK qL j v2).2 :=
 loop_ok2 (L := find []) (n := 0) (hints := [(5, 4, { keep := [1, 3], acc := [] })]) (cx_ok rfl) rdy_zydq bs_zydq_4 nilB (fun v => (rnd_zydq_4 qI qJ qB qC qA qK qL v).trans (DT.go_run _ _)) (by intro j v; unfold ex_zydq_4; split <;> rfl)
theorem mke_zydq_4 (qI : OBz) (qJ : Bool) (qB : Ls) (qC qA qK qL : Int) (v : S.zydq_4_V) : mk_zydq_4 qI qJ qB qC qA qK qL v = ⟨envOf 47 [(1, V.v false [C.ptr 0 0]), (3, (cV v.t3_))], heapOf 7 [(0, some
 (Blk.box 24
  [C.d (.sl qI qJ .step qB), (cI qC), (cI qA), (cI qK),
   (cI qL)]))], 0⟩ := by kernel_rfl
theorem lo1_zydq_4 (e1 e3 : V) (h0 : Option Blk) e st2 (h : (T1_zydq_4 e1 e3 h0).eval = some (e, st2)) : Circles Tryz.prog cx_zydq b_zydq_4 ⟨envOf 47 [(1, e1), (3, e3)], heapOf 7 [(0, h0)], 0⟩ e st2 := by
 unfold T1_zydq_4 at h
 split at h
 ·have := loop_tree (mk := mk_zydq_4 _ _ _ _ _ _ _) (ci_zydq_4 _ _ _ _ _ _ _) _ _ e st2 h
  rw [mke_zydq_4] at this
  exact this
 ·cases h
theorem lok_zydq_4 : LoopOk Tryz.prog cx_zydq b_zydq_4 T_zydq_4 := by
 intro st e st2 h
 unfold T_zydq_4 at h
 cases hk : okSt 47 7 0 [0] st with
 | false => rw [hk] at h; cases h
 | true =>
  rw [hk] at h
  exact circles_keep (ks := [1, 3]) hk (lo1_zydq_4 _ _ _ e st2 h)
structure S.zydq_T where
 x0 : Bool
 deriving Inhabited
def S.zydq_R (a0_0 : Ls) : DT S.zydq_T :=
let y0 : S.zydq_4_V := { t3_ := 0 : S.zydq_4_V }
(.br (xdec ((↑a0_0.length : Int) > 8))
(.leaf ⟨false⟩)
(.br (S.zydq_4_j a0_0 y0 0)
(.leaf ⟨false⟩)
(.br (S.zydq_4_j a0_0 y0 1)
(.leaf ⟨true⟩)
.fail)))
def S.zydq (a0_0 : Ls) : Option S.zydq_T := (S.zydq_R a0_0).run
def S.zydq_is (a0_0 : Ls) : Bool := (S.zydq a0_0).isSome
def S.zydq_o (a0_0 : Ls) : S.zydq_T := (S.zydq a0_0).getD default
def ret_zydq (b : Bool) (r : S.zydq_T) : Ret := ⟨b, none, [(false, [cB r.x0])]⟩
def g_zydq : Con
 | [(true, [.sl a0_0n a0_0f .step a0_0, .sc (.int .i64 a0_1), .sc (.int .i64 a0_2), .sc (.int .i64 a0_3), .sc (.int .i64 a0_4)])] => some (ret_zydq (S.zydq_is a0_0) (S.zydq_o a0_0))
 | _ => none
theorem raw_zydq (a0_0n : OBz) (a0_0f : Bool) (a0_0 : Ls) (a0_1 a0_2 a0_3 a0_4 : Int) : evR2 cx_zydq (hdI cx_zydq (find [(4, T_zydq_4)]) [] none 0) none Tryz.f5 5 none [(true, [.sl a0_0n a0_0f .step a0_0, dI a0_1, dI a0_2, dI a0_3, dI a0_4])] some = (S.zydq_R a0_0).go (ret_zydq true) := by kernel_rfl
theorem bs_zydq : loopsIn Tryz.f5 [] = [b_zydq_4] := by kernel_rfl
theorem zydq_ok : Stands Tryz.prog tyTab 5 g_zydq := by
 refine stands3 (L := find [(4, T_zydq_4)]) (n := 0) (hints := [(5, 4, { keep := [1, 3], acc := [] })]) (cx_ok rfl) rdy_zydq ⟨by kernel_rfl, by kernel_rfl, by kernel_rfl⟩ bs_zydq (consB (fun T h => by have e : T_zydq_4 = T := Option.some.inj (show some T_zydq_4 = some T from h); exact e ▸ lok_zydq_4) nilB) (fun das r hG hr => ?_)
 unfold g_zydq at hG
 split at hG
 ·rename_i a0_0n a0_0f a0_0 a0_1 a0_2 a0_3 a0_4
  injection hG with hG; subst hG
  exact ⟨none, true, win default ((raw_zydq a0_0n a0_0f a0_0 a0_1 a0_2 a0_3 a0_4).trans (DT.go_run _ _)) hr⟩
 ·cases hG
abbrev cx_z5c6 : Cx := mkCx2 tyTab [(71, g_zh5h)] [] [] []
theorem rdy_z5c6 : Ready Tryz.prog tyTab [(71, g_zh5h)] [] [] := ⟨consG2 zh5h_ok (noneG2), noneI2, noneF2⟩
structure S.z5c6_T where
 x0 : Bool
 deriving Inhabited
def S.z5c6_R (a0_0 : ByteArray) (a0_1 : Lo) (a1_0 : ByteArray) (a1_1 : Int) (a1_2 : Lv) : DT S.z5c6_T :=
(.br (S.zh5h_is a0_0 a0_1 a1_0 a1_1 a1_2)
(.leaf ⟨(S.zh5h_o a0_0 a0_1 a1_0 a1_1 a1_2).x0⟩)
.fail)
def S.z5c6 (a0_0 : ByteArray) (a0_1 : Lo) (a1_0 : ByteArray) (a1_1 : Int) (a1_2 : Lv) : Option S.z5c6_T := (S.z5c6_R a0_0 a0_1 a1_0 a1_1 a1_2).run
def S.z5c6_is (a0_0 : ByteArray) (a0_1 : Lo) (a1_0 : ByteArray) (a1_1 : Int) (a1_2 : Lv) : Bool := (S.z5c6 a0_0 a0_1 a1_0 a1_1 a1_2).isSome
def S.z5c6_o (a0_0 : ByteArray) (a0_1 : Lo) (a1_0 : ByteArray) (a1_1 : Int) (a1_2 : Lv) : S.z5c6_T := (S.z5c6 a0_0 a0_1 a1_0 a1_1 a1_2).getD default
def ret_z5c6 (b : Bool) (r : S.z5c6_T) : Ret := ⟨b, none, [(false, [cB r.x0])]⟩
def g_z5c6 : Con
 | [(true, [.sc (.str a0_0), .sl a0_1n a0_1f .op a0_1, .sc (.int .i64 a0_2), .sc (.int .i64 a0_3), .sc (.bool a0_4), .sc (.str a0_5), .sl a0_6n a0_6f .op a0_6]), (true, [.sc (.str a1_0), .sc (.int .i64 a1_1), .sl a1_2n a1_2f .val a1_2])] => some (ret_z5c6 (S.z5c6_is a0_0 a0_1 a1_0 a1_1 a1_2) (S.z5c6_o a0_0 a0_1 a1_0 a1_1 a1_2))
 | _ => none
theorem raw_z5c6 (a0_0 : ByteArray) (a0_1n : OBz) (a0_1f : Bool) (a0_1 : Lo) (a0_2 a0_3 : Int) (a0_4 : Bool) (a0_5 : ByteArray) (a0_6n : OBz) (a0_6f : Bool) (a0_6 : Lo) (a1_0 : ByteArray) (a1_1 : Int) (a1_2n : OBz) (a1_2f : Bool) (a1_2 : Lv) : evR2 cx_z5c6 (hdI cx_z5c6 (find []) [] none 0) none Tryz.f62 62 none [(true, [.sc (.str a0_0), .sl a0_1n a0_1f .op a0_1, dI a0_2, dI a0_3, .sc (.bool a0_4), .sc (.str a0_5), .sl a0_6n a0_6f .op a0_6]), (true, [.sc (.str a1_0), dI a1_1, .sl a1_2n a1_2f .val a1_2])] some = (S.z5c6_R a0_0 a0_1 a1_0 a1_1 a1_2).go (ret_z5c6 true) := by kernel_rfl
theorem bs_z5c6 : loopsIn Tryz.f62 [] = [] := by kernel_rfl
theorem z5c6_ok : Stands Tryz.prog tyTab 62 g_z5c6 := by
 refine stands3 (L := find []) (n := 0) (hints := []) (cx_ok rfl) rdy_z5c6 ⟨by kernel_rfl, by kernel_rfl, by kernel_rfl⟩ bs_z5c6 nilB (fun das r hG hr => ?_)
 unfold g_z5c6 at hG
 split at hG
 ·rename_i a0_0 a0_1n a0_1f a0_1 a0_2 a0_3 a0_4 a0_5 a0_6n a0_6f a0_6 a1_0 a1_1 a1_2n a1_2f a1_2
  injection hG with hG; subst hG
  exact ⟨none, true, win default ((raw_z5c6 a0_0 a0_1n a0_1f a0_1 a0_2 a0_3 a0_4 a0_5 a0_6n a0_6f a0_6 a1_0 a1_1 a1_2n a1_2f a1_2).trans (DT.go_run _ _)) hr⟩
 ·cases hG
abbrev cx_zrsz : Cx := mkCx2 tyTab [(71, g_zh5h)] [] [] []
theorem rdy_zrsz : Ready Tryz.prog tyTab [(71, g_zh5h)] [] [] := ⟨consG2 zh5h_ok (noneG2), noneI2, noneF2⟩
structure S.zrsz_T where
 x0 : Bool
 deriving Inhabited
def S.zrsz_R (a0_4 : Bool) (a0_5 : ByteArray) (a0_6 : Lo) (a1_0 : ByteArray) (a1_1 : Int) (a1_2 : Lv) : DT S.zrsz_T :=
(.br (a0_4)
(.br (S.zh5h_is a0_5 a0_6 a1_0 a1_1 a1_2)
(.leaf ⟨(S.zh5h_o a0_5 a0_6 a1_0 a1_1 a1_2).x0⟩)
.fail)
(.leaf ⟨false⟩))
def S.zrsz (a0_4 : Bool) (a0_5 : ByteArray) (a0_6 : Lo) (a1_0 : ByteArray) (a1_1 : Int) (a1_2 : Lv) : Option S.zrsz_T := (S.zrsz_R a0_4 a0_5 a0_6 a1_0 a1_1 a1_2).run
def S.zrsz_is (a0_4 : Bool) (a0_5 : ByteArray) (a0_6 : Lo) (a1_0 : ByteArray) (a1_1 : Int) (a1_2 : Lv) : Bool := (S.zrsz a0_4 a0_5 a0_6 a1_0 a1_1 a1_2).isSome
def S.zrsz_o (a0_4 : Bool) (a0_5 : ByteArray) (a0_6 : Lo) (a1_0 : ByteArray) (a1_1 : Int) (a1_2 : Lv) : S.zrsz_T := (S.zrsz a0_4 a0_5 a0_6 a1_0 a1_1 a1_2).getD default
def ret_zrsz (b : Bool) (r : S.zrsz_T) : Ret := ⟨b, none, [(false, [cB r.x0])]⟩
def g_zrsz : Con
 | [(true, [.sc (.str a0_0), .sl a0_1n a0_1f .op a0_1, .sc (.int .i64 a0_2), .sc (.int .i64 a0_3), .sc (.bool a0_4), .sc (.str a0_5), .sl a0_6n a0_6f .op a0_6]), (true, [.sc (.str a1_0), .sc (.int .i64 a1_1), .sl a1_2n a1_2f .val a1_2])] => some (ret_zrsz (S.zrsz_is a0_4 a0_5 a0_6 a1_0 a1_1 a1_2) (S.zrsz_o a0_4 a0_5 a0_6 a1_0 a1_1 a1_2))
 | _ => none
theorem raw_zrsz (a0_0 : ByteArray) (a0_1n : OBz) (a0_1f : Bool) (a0_1 : Lo) (a0_2 a0_3 : Int) (a0_4 : Bool) (a0_5 : ByteArray) (a0_6n : OBz) (a0_6f : Bool) (a0_6 : Lo) (a1_0 : ByteArray) (a1_1 : Int) (a1_2n : OBz) (a1_2f : Bool) (a1_2 : Lv) : evR2 cx_zrsz (hdI cx_zrsz (find []) [] none 0) none Tryz.f65 65 none [(true, [.sc (.str a0_0), .sl a0_1n a0_1f .op a0_1, dI a0_2, dI a0_3, .sc (.bool a0_4), .sc (.str a0_5), .sl a0_6n a0_6f .op a0_6]), (true, [.sc (.str a1_0), dI a1_1, .sl a1_2n a1_2f .val a1_2])] some = (S.zrsz_R a0_4 a0_5 a0_6 a1_0 a1_1 a1_2).go (ret_zrsz true) := by kernel_rfl
theorem bs_zrsz : loopsIn Tryz.f65 [] = [] := by kernel_rfl
theorem zrsz_ok : Stands Tryz.prog tyTab 65 g_zrsz := by
 refine stands3 (L := find []) (n := 0) (hints := []) (cx_ok rfl) rdy_zrsz ⟨by kernel_rfl, by kernel_rfl, by kernel_rfl⟩ bs_zrsz nilB (fun das r hG hr => ?_)
 unfold g_zrsz at hG
 split at hG
 ·rename_i a0_0 a0_1n a0_1f a0_1 a0_2 a0_3 a0_4 a0_5 a0_6n a0_6f a0_6 a1_0 a1_1 a1_2n a1_2f a1_2
  injection hG with hG; subst hG
  exact ⟨none, true, win default ((raw_zrsz a0_0 a0_1n a0_1f a0_1 a0_2 a0_3 a0_4 a0_5 a0_6n a0_6f a0_6 a1_0 a1_1 a1_2n a1_2f a1_2).trans (DT.go_run _ _)) hr⟩
 ·cases hG
abbrev cx_zfzb : Cx := mkCx2 tyTab [] [] [] []
theorem rdy_zfzb : Ready Tryz.prog tyTab [] [] [] := ⟨noneG2, noneI2, noneF2⟩
structure S.zfzb_T where
 x0 : Bool
 deriving Inhabited
def S.zfzb_R (a0_1 a1_1 a2_1 : Int) : DT S.zfzb_T :=
(.br (xdec (a0_1 < 0))
(.leaf ⟨true⟩)
(.leaf ⟨xdec (xwrap IntKind.u64 (IntKind.u64.wrap a2_1 - IntKind.u64.wrap a1_1) > IntKind.u64.wrap a0_1)⟩))
def S.zfzb (a0_1 a1_1 a2_1 : Int) : Option S.zfzb_T := (S.zfzb_R a0_1 a1_1 a2_1).run
def S.zfzb_is (a0_1 a1_1 a2_1 : Int) : Bool := (S.zfzb a0_1 a1_1 a2_1).isSome
def S.zfzb_o (a0_1 a1_1 a2_1 : Int) : S.zfzb_T := (S.zfzb a0_1 a1_1 a2_1).getD default
def ret_zfzb (b : Bool) (r : S.zfzb_T) : Ret := ⟨b, none, [(false, [cB r.x0])]⟩
def g_zfzb : Con
 | [(true, [.sl a0_0n a0_0f .step a0_0, .sc (.int .i64 a0_1), .sc (.int .i64 a0_2), .sc (.int .i64 a0_3), .sc (.int .i64 a0_4)]), (true, [.sc (.int .i64 a1_0), .sc (.int .i64 a1_1), .sc (.int .i64 a1_2), .sc (.int .i64 a1_3), .sc (.int .i64 a1_4), .sc (.int .i64 a1_5), .sc (.bool a1_6)]), (true, [.sc (.str a2_0), .sc (.int .i64 a2_1), .sl a2_2n a2_2f .val a2_2])] => some (ret_zfzb (S.zfzb_is a0_1 a1_1 a2_1) (S.zfzb_o a0_1 a1_1 a2_1))
 | _ => none
theorem raw_zfzb (a0_0n : OBz) (a0_0f : Bool) (a0_0 : Ls) (a0_1 a0_2 a0_3 a0_4 a1_0 a1_1 a1_2 a1_3 a1_4 a1_5 : Int) (a1_6 : Bool) (a2_0 : ByteArray) (a2_1 : Int) (a2_2n : OBz) (a2_2f : Bool) (a2_2 : Lv) : evR2 cx_zfzb (hdI cx_zfzb (find []) [] none 0) none Tryz.f64 64 none [(true, [.sl a0_0n a0_0f .step a0_0, dI a0_1, dI a0_2, dI a0_3, dI a0_4]), (true, [dI a1_0, dI a1_1, dI a1_2, dI a1_3, dI a1_4, dI a1_5, .sc (.bool a1_6)]), (true, [.sc (.str a2_0), dI a2_1, .sl a2_2n a2_2f .val a2_2])] some = (S.zfzb_R a0_1 a1_1 a2_1).go (ret_zfzb true) := by kernel_rfl
theorem bs_zfzb : loopsIn Tryz.f64 [] = [] := by kernel_rfl
theorem zfzb_ok : Stands Tryz.prog tyTab 64 g_zfzb := by
 refine stands3 (L := find []) (n := 0) (hints := []) (cx_ok rfl) rdy_zfzb ⟨by kernel_rfl, by kernel_rfl, by kernel_rfl⟩ bs_zfzb nilB (fun das r hG hr => ?_)
 unfold g_zfzb at hG
 split at hG
 ·rename_i a0_0n a0_0f a0_0 a0_1 a0_2 a0_3 a0_4 a1_0 a1_1 a1_2 a1_3 a1_4 a1_5 a1_6 a2_0 a2_1 a2_2n a2_2f a2_2
  injection hG with hG; subst hG
  exact ⟨none, true, win default ((raw_zfzb a0_0n a0_0f a0_0 a0_1 a0_2 a0_3 a0_4 a1_0 a1_1 a1_2 a1_3 a1_4 a1_5 a1_6 a2_0 a2_1 a2_2n a2_2f a2_2).trans (DT.go_run _ _)) hr⟩
 ·cases hG
abbrev cx_zahd : Cx := mkCx2 tyTab [] [] [] []
theorem rdy_zahd : Ready Tryz.prog tyTab [] [] [] := ⟨noneG2, noneI2, noneF2⟩
structure S.zahd_T where
 x0 : Int
 deriving Inhabited
def S.zahd_R (a0_0 : Ls) (a1_2 a1_3 : Int) : DT S.zahd_T :=
let y0 : Int := (↑a0_0.length : Int)
(.br (xeqI a1_2 (xwrap .i64 (y0 - 1)))
(.br (xdec (0 ≤ a1_2) && xdec (a1_2 < y0))
(.br (xdec (a1_3 ≥ (a0_0.getD a1_2.toNat (dflt .step)).min))
(.leaf ⟨2⟩)
(.leaf ⟨0⟩))
.fail)
(.leaf ⟨0⟩))
def S.zahd (a0_0 : Ls) (a1_2 a1_3 : Int) : Option S.zahd_T := (S.zahd_R a0_0 a1_2 a1_3).run
def S.zahd_is (a0_0 : Ls) (a1_2 a1_3 : Int) : Bool := (S.zahd a0_0 a1_2 a1_3).isSome
def S.zahd_o (a0_0 : Ls) (a1_2 a1_3 : Int) : S.zahd_T := (S.zahd a0_0 a1_2 a1_3).getD default
def ret_zahd (b : Bool) (r : S.zahd_T) : Ret := ⟨b, none, [(false, [(cI r.x0)])]⟩
def g_zahd : Con
 | [(true, [.sl a0_0n a0_0f .step a0_0, .sc (.int .i64 a0_1), .sc (.int .i64 a0_2), .sc (.int .i64 a0_3), .sc (.int .i64 a0_4)]), (true, [.sc (.int .i64 a1_0), .sc (.int .i64 a1_1), .sc (.int .i64 a1_2), .sc (.int .i64 a1_3), .sc (.int .i64 a1_4), .sc (.int .i64 a1_5), .sc (.bool a1_6)])] => some (ret_zahd (S.zahd_is a0_0 a1_2 a1_3) (S.zahd_o a0_0 a1_2 a1_3))
 | _ => none
theorem raw_zahd (a0_0n : OBz) (a0_0f : Bool) (a0_0 : Ls) (a0_1 a0_2 a0_3 a0_4 a1_0 a1_1 a1_2 a1_3 a1_4 a1_5 : Int) (a1_6 : Bool) : evR2 cx_zahd (hdI cx_zahd (find []) [] none 0) none Tryz.f66 66 none [(true, [.sl a0_0n a0_0f .step a0_0, dI a0_1, dI a0_2, dI a0_3, dI a0_4]), (true, [dI a1_0, dI a1_1, dI a1_2, dI a1_3, dI a1_4, dI a1_5, .sc (.bool a1_6)])] some = (S.zahd_R a0_0 a1_2 a1_3).go (ret_zahd true) := by kernel_rfl
theorem bs_zahd : loopsIn Tryz.f66 [] = [] := by kernel_rfl
theorem zahd_ok : Stands Tryz.prog tyTab 66 g_zahd := by
 refine stands3 (L := find []) (n := 0) (hints := []) (cx_ok rfl) rdy_zahd ⟨by kernel_rfl, by kernel_rfl, by kernel_rfl⟩ bs_zahd nilB (fun das r hG hr => ?_)
 unfold g_zahd at hG
 split at hG
 ·rename_i a0_0n a0_0f a0_0 a0_1 a0_2 a0_3 a0_4 a1_0 a1_1 a1_2 a1_3 a1_4 a1_5 a1_6
  injection hG with hG; subst hG
  exact ⟨none, true, win default ((raw_zahd a0_0n a0_0f a0_0 a0_1 a0_2 a0_3 a0_4 a1_0 a1_1 a1_2 a1_3 a1_4 a1_5 a1_6).trans (DT.go_run _ _)) hr⟩
 ·cases hG
abbrev cx_zs6k : Cx := mkCx2 tyTab [] [] [] []
theorem rdy_zs6k : Ready Tryz.prog tyTab [] [] [] := ⟨noneG2, noneI2, noneF2⟩
structure S.zs6k_T where
 x0 : Int
 x1 : Bool
 deriving Inhabited
def S.zs6k_R (a0 a1 : Int) : DT S.zs6k_T :=
let y0 : Int := xwrap .i64 (a0 + a1)
(.br (bif xdec (y0 > a0) == xdec (a1 > 0) then false else true)
(.leaf ⟨a0, false⟩)
(.leaf ⟨y0, true⟩))
def S.zs6k (a0 a1 : Int) : Option S.zs6k_T := (S.zs6k_R a0 a1).run
def S.zs6k_is (a0 a1 : Int) : Bool := (S.zs6k a0 a1).isSome
def S.zs6k_o (a0 a1 : Int) : S.zs6k_T := (S.zs6k a0 a1).getD default
def ret_zs6k (b : Bool) (r : S.zs6k_T) : Ret := ⟨b, none, [(false, [(cI r.x0)]), (false, [cB r.x1])]⟩
def g_zs6k : Con
 | [(false, [.sc (.int .i64 a0)]), (false, [.sc (.int .i64 a1)])] => some (ret_zs6k (S.zs6k_is a0 a1) (S.zs6k_o a0 a1))
 | _ => none
theorem raw_zs6k (a0 a1 : Int) : evR2 cx_zs6k (hdI cx_zs6k (find []) [] none 0) none Tryz.f76 76 none [(false, [dI a0]), (false, [dI a1])] some = (S.zs6k_R a0 a1).go (ret_zs6k true) := by kernel_rfl
theorem bs_zs6k : loopsIn Tryz.f76 [] = [] := by kernel_rfl
theorem zs6k_ok : Stands Tryz.prog tyTab 76 g_zs6k := by
 refine stands3 (L := find []) (n := 0) (hints := []) (cx_ok rfl) rdy_zs6k ⟨by kernel_rfl, by kernel_rfl, by kernel_rfl⟩ bs_zs6k nilB (fun das r hG hr => ?_)
 unfold g_zs6k at hG
 split at hG
 ·rename_i a0 a1
  injection hG with hG; subst hG
  exact ⟨none, true, win default ((raw_zs6k a0 a1).trans (DT.go_run _ _)) hr⟩
 ·cases hG
abbrev cx_zmak : Cx := mkCx2 tyTab [] [] [] []
theorem rdy_zmak : Ready Tryz.prog tyTab [] [] [] := ⟨noneG2, noneI2, noneF2⟩
structure S.zmak_T where
 x0 : Int
 x1 : Bool
 deriving Inhabited
def S.zmak_R (a0 a1 : Int) : DT S.zmak_T :=
(.leaf ⟨if a1 < a0 then a1 else a0, true⟩)
def S.zmak (a0 a1 : Int) : Option S.zmak_T := (S.zmak_R a0 a1).run
def S.zmak_is (a0 a1 : Int) : Bool := (S.zmak a0 a1).isSome
def S.zmak_o (a0 a1 : Int) : S.zmak_T := (S.zmak a0 a1).getD default
def ret_zmak (b : Bool) (r : S.zmak_T) : Ret := ⟨b, none, [(false, [(cI r.x0)]), (false, [cB r.x1])]⟩
def g_zmak : Con
 | [(false, [.sc (.int .i64 a0)]), (false, [.sc (.int .i64 a1)])] => some (ret_zmak (S.zmak_is a0 a1) (S.zmak_o a0 a1))
 | _ => none
theorem raw_zmak (a0 a1 : Int) : evR2 cx_zmak (hdI cx_zmak (find []) [] none 0) none Tryz.f77 77 none [(false, [dI a0]), (false, [dI a1])] some = (S.zmak_R a0 a1).go (ret_zmak true) := by kernel_rfl
theorem bs_zmak : loopsIn Tryz.f77 [] = [] := by kernel_rfl
theorem zmak_ok : Stands Tryz.prog tyTab 77 g_zmak := by
 refine stands3 (L := find []) (n := 0) (hints := []) (cx_ok rfl) rdy_zmak ⟨by kernel_rfl, by kernel_rfl, by kernel_rfl⟩ bs_zmak nilB (fun das r hG hr => ?_)
 unfold g_zmak at hG
 split at hG
 ·rename_i a0 a1
  injection hG with hG; subst hG
  exact ⟨none, true, win default ((raw_zmak a0 a1).trans (DT.go_run _ _)) hr⟩
 ·cases hG
abbrev cx_zrqv : Cx := mkCx2 tyTab [] [] [] []
theorem rdy_zrqv : Ready Tryz.prog tyTab [] [] [] := ⟨noneG2, noneI2, noneF2⟩
structure S.zrqv_T where
 x0 : Int
 x1 : Bool
 deriving Inhabited
def S.zrqv_R (a0 a1 : Int) : DT S.zrqv_T :=
(.leaf ⟨if a1 > a0 then a1 else a0, true⟩)
def S.zrqv (a0 a1 : Int) : Option S.zrqv_T := (S.zrqv_R a0 a1).run
def S.zrqv_is (a0 a1 : Int) : Bool := (S.zrqv a0 a1).isSome
def S.zrqv_o (a0 a1 : Int) : S.zrqv_T := (S.zrqv a0 a1).getD default
def ret_zrqv (b : Bool) (r : S.zrqv_T) : Ret := ⟨b, none, [(false, [(cI r.x0)]), (false, [cB r.x1])]⟩
def g_zrqv : Con
 | [(false, [.sc (.int .i64 a0)]), (false, [.sc (.int .i64 a1)])] => some (ret_zrqv (S.zrqv_is a0 a1) (S.zrqv_o a0 a1))
 | _ => none
theorem raw_zrqv (a0 a1 : Int) : evR2 cx_zrqv (hdI cx_zrqv (find []) [] none 0) none Tryz.f78 78 none [(false, [dI a0]), (false, [dI a1])] some = (S.zrqv_R a0 a1).go (ret_zrqv true) := by kernel_rfl
theorem bs_zrqv : loopsIn Tryz.f78 [] = [] := by kernel_rfl
theorem zrqv_ok : Stands Tryz.prog tyTab 78 g_zrqv := by
 refine stands3 (L := find []) (n := 0) (hints := []) (cx_ok rfl) rdy_zrqv ⟨by kernel_rfl, by kernel_rfl, by kernel_rfl⟩ bs_zrqv nilB (fun das r hG hr => ?_)
 unfold g_zrqv at hG
 split at hG
 ·rename_i a0 a1
  injection hG with hG; subst hG
  exact ⟨none, true, win default ((raw_zrqv a0 a1).trans (DT.go_run _ _)) hr⟩
 ·cases hG
abbrev cx_zo54 : Cx := mkCx2 tyTab [] [] [] []
theorem rdy_zo54 : Ready Tryz.prog tyTab [] [] [] := ⟨noneG2, noneI2, noneF2⟩
structure S.zo54_T where
 x0 : Ls
 x1 : Int
 x2 : Int
 x3 : Int
 x4 : Int
 deriving Inhabited
def S.zo54_R  : DT S.zo54_T :=
(.leaf ⟨sub [{ name := { data := { toList := [97] : Array UInt8 } : ByteArray }, ifs := [], min := 1, max := 1, guard := false, notName := ByteArray.empty, notIf := [] : Step }] 0 (0 + 1), 0, 0, 0, 0⟩)
def S.zo54  : Option S.zo54_T := (S.zo54_R ).run
def S.zo54_is  : Bool := (S.zo54 ).isSome
def S.zo54_o  : S.zo54_T := (S.zo54 ).getD default
def ret_zo54 (b : Bool) (r : S.zo54_T) : Ret := ⟨b, none, [(true,
    [cL .step r.x0, (cI r.x1), (cI r.x2), (cI r.x3),
     (cI r.x4)])]⟩
def g_zo54 : Con
 | [] => some (ret_zo54 (S.zo54_is ) (S.zo54_o ))
 | _ => none
theorem raw_zo54  : evR2 cx_zo54 (hdI cx_zo54 (find []) [] none 0) none Tryz.f14 14 none [] some = (S.zo54_R ).go (ret_zo54 true) := by kernel_rfl
theorem bs_zo54 : loopsIn Tryz.f14 [] = [] := by kernel_rfl
theorem zo54_ok : Stands Tryz.prog tyTab 14 g_zo54 := by
 refine stands3 (L := find []) (n := 0) (hints := []) (cx_ok rfl) rdy_zo54 ⟨by kernel_rfl, by kernel_rfl, by kernel_rfl⟩ bs_zo54 nilB (fun das r hG hr => ?_)
 unfold g_zo54 at hG
 split at hG
 ·injection hG with hG; subst hG
  exact ⟨none, true, win default ((raw_zo54 ).trans (DT.go_run _ _)) hr⟩
 ·cases hG
abbrev cx_told0 : Cx := mkCx2 tyTab [(76, g_zs6k), (77, g_zmak), (78, g_zrqv)] [] [] []
theorem rdy_told0 : Ready Tryz.prog tyTab [(76, g_zs6k), (77, g_zmak), (78, g_zrqv)] [] [] := ⟨consG2 zs6k_ok (consG2 zmak_ok (consG2 zrqv_ok (noneG2))), noneI2, noneF2⟩
structure S.told0_T where
 x0 : Int
 x1 : Int
 x2 : Int
 x3 : Int
 x4 : Int
 x5 : Int
 x6 : Bool
 deriving Inhabited
def S.told0_R (a0_3 a1_0 a1_1 a1_2 a1_3 a1_4 a1_5 : Int) (a1_6 : Bool) : DT S.told0_T :=
let y0 : Int := xwrap .i64 (a1_4 + 1)
(.br (xneI a1_2 a0_3)
(.leaf ⟨a1_0, a1_1, a1_2, a1_3, a1_4, a1_5, a1_6⟩)
(.leaf ⟨a1_0, a1_1, a1_2, a1_3, y0, y0, a1_6⟩))
def S.told0 (a0_3 a1_0 a1_1 a1_2 a1_3 a1_4 a1_5 : Int) (a1_6 : Bool) : Option S.told0_T := (S.told0_R a0_3 a1_0 a1_1 a1_2 a1_3 a1_4 a1_5 a1_6).run
def S.told0_is (a0_3 a1_0 a1_1 a1_2 a1_3 a1_4 a1_5 : Int) (a1_6 : Bool) : Bool := (S.told0 a0_3 a1_0 a1_1 a1_2 a1_3 a1_4 a1_5 a1_6).isSome
def S.told0_o (a0_3 a1_0 a1_1 a1_2 a1_3 a1_4 a1_5 : Int) (a1_6 : Bool) : S.told0_T := (S.told0 a0_3 a1_0 a1_1 a1_2 a1_3 a1_4 a1_5 a1_6).getD default
def ret_told0 (b : Bool) (r : S.told0_T) : Ret := ⟨b, none, [(true,
    [(cI r.x0), (cI r.x1), (cI r.x2), (cI r.x3),
     (cI r.x4), (cI r.x5), cB r.x6])]⟩
def g_told0 : Con
 | [(true, [.sl a0_0n a0_0f .step a0_0, .sc (.int .i64 a0_1), .sc (.int .i64 0), .sc (.int .i64 a0_3), .sc (.int .i64 a0_4)]), (true, [.sc (.int .i64 a1_0), .sc (.int .i64 a1_1), .sc (.int .i64 a1_2), .sc (.int .i64 a1_3), .sc (.int .i64 a1_4), .sc (.int .i64 a1_5), .sc (.bool a1_6)]), (true, [.sc (.str a2_0), .sc (.int .i64 a2_1), .sl a2_2n a2_2f .val a2_2])] => some (ret_told0 (S.told0_is a0_3 a1_0 a1_1 a1_2 a1_3 a1_4 a1_5 a1_6) (S.told0_o a0_3 a1_0 a1_1 a1_2 a1_3 a1_4 a1_5 a1_6))
 | _ => none
theorem raw_told0 (a0_0n : OBz) (a0_0f : Bool) (a0_0 : Ls) (a0_1 a0_3 a0_4 a1_0 a1_1 a1_2 a1_3 a1_4 a1_5 : Int) (a1_6 : Bool) (a2_0 : ByteArray) (a2_1 : Int) (a2_2n : OBz) (a2_2f : Bool) (a2_2 : Lv) : evR2 cx_told0 (hdI cx_told0 (find []) [] none 0) none Tryz.f72 72 none [(true, [.sl a0_0n a0_0f .step a0_0, dI a0_1, dI 0, dI a0_3, dI a0_4]), (true, [dI a1_0, dI a1_1, dI a1_2, dI a1_3, dI a1_4, dI a1_5, .sc (.bool a1_6)]), (true, [.sc (.str a2_0), dI a2_1, .sl a2_2n a2_2f .val a2_2])] some = (S.told0_R a0_3 a1_0 a1_1 a1_2 a1_3 a1_4 a1_5 a1_6).go (ret_told0 true) := by kernel_rfl
theorem bs_told0 : loopsIn Tryz.f72 [] = [] := by kernel_rfl
theorem told0_ok : Stands Tryz.prog tyTab 72 g_told0 := by
 refine stands3 (L := find []) (n := 0) (hints := []) (cx_ok rfl) rdy_told0 ⟨by kernel_rfl, by kernel_rfl, by kernel_rfl⟩ bs_told0 nilB (fun das r hG hr => ?_)
 unfold g_told0 at hG
 split at hG
 ·rename_i a0_0n a0_0f a0_0 a0_1 a0_3 a0_4 a1_0 a1_1 a1_2 a1_3 a1_4 a1_5 a1_6 a2_0 a2_1 a2_2n a2_2f a2_2
  injection hG with hG; subst hG
  exact ⟨none, true, win default ((raw_told0 a0_0n a0_0f a0_0 a0_1 a0_3 a0_4 a1_0 a1_1 a1_2 a1_3 a1_4 a1_5 a1_6 a2_0 a2_1 a2_2n a2_2f a2_2).trans (DT.go_run _ _)) hr⟩
 ·cases hG
abbrev cx_toldp : Cx := mkCx2 tyTab [(76, g_zs6k), (77, g_zmak), (78, g_zrqv)] [] [] []
theorem rdy_toldp : Ready Tryz.prog tyTab [(76, g_zs6k), (77, g_zmak), (78, g_zrqv)] [] [] := ⟨consG2 zs6k_ok (consG2 zmak_ok (consG2 zrqv_ok (noneG2))), noneI2, noneF2⟩
structure S.toldp_T where
 x0 : Int
 x1 : Int
 x2 : Int
 x3 : Int
 x4 : Int
 x5 : Int
 x6 : Bool
 deriving Inhabited
def S.toldp_R (a0_3 a0_4 a1_0 a1_1 a1_2 a1_3 a1_4 a1_5 : Int) (a1_6 : Bool) (a2_2 : Lv) : DT S.toldp_T :=
let y0 : Int := xwrap .i64 (a1_4 + 1)
let y1 : Int := (↑a2_2.length : Int)
let y2 : Bool := xdec (0 ≤ a0_4) && xdec (a0_4 < y1)
let y3 : Ty .val := a2_2.getD a0_4.toNat (dflt .val)
let y4 := y3.n
let y5 := S.zrqv_o y4 y4
let y6 := y5.x0
let y7 := S.zrqv_o a1_5 y4
let y8 := y7.x0
(.br (xneI a1_2 a0_3)
(.leaf ⟨a1_0, a1_1, a1_2, a1_3, a1_4, a1_5, a1_6⟩)
(.br (xdec (a0_4 < 0))
(.leaf ⟨a1_0, a1_1, a1_2, a1_3, y0, a1_5, true⟩)
(.br (xdec (a0_4 ≥ y1))
(.leaf ⟨a1_0, a1_1, a1_2, a1_3, y0, a1_5, true⟩)
(.br (y2)
(.br (xneI y3.kind 0)
(.leaf ⟨a1_0, a1_1, a1_2, a1_3, y0, a1_5, true⟩)
(.br (y2)
(.br (xeqI y0 1)
(.br (a1_6)
(.leaf ⟨a1_0, a1_1, a1_2, a1_3, y0, y6, true⟩)
(.leaf ⟨a1_0, a1_1, a1_2, a1_3, y0, y6, xnot y5.x1⟩))
(.br (a1_6)
(.leaf ⟨a1_0, a1_1, a1_2, a1_3, y0, y8, true⟩)
(.leaf ⟨a1_0, a1_1, a1_2, a1_3, y0, y8, xnot y7.x1⟩)))
.fail))
.fail))))
def S.toldp (a0_3 a0_4 a1_0 a1_1 a1_2 a1_3 a1_4 a1_5 : Int) (a1_6 : Bool) (a2_2 : Lv) : Option S.toldp_T := (S.toldp_R a0_3 a0_4 a1_0 a1_1 a1_2 a1_3 a1_4 a1_5 a1_6 a2_2).run
def S.toldp_is (a0_3 a0_4 a1_0 a1_1 a1_2 a1_3 a1_4 a1_5 : Int) (a1_6 : Bool) (a2_2 : Lv) : Bool := (S.toldp a0_3 a0_4 a1_0 a1_1 a1_2 a1_3 a1_4 a1_5 a1_6 a2_2).isSome
def S.toldp_o (a0_3 a0_4 a1_0 a1_1 a1_2 a1_3 a1_4 a1_5 : Int) (a1_6 : Bool) (a2_2 : Lv) : S.toldp_T := (S.toldp a0_3 a0_4 a1_0 a1_1 a1_2 a1_3 a1_4 a1_5 a1_6 a2_2).getD default
def ret_toldp (b : Bool) (r : S.toldp_T) : Ret := ⟨b, none, [(true,
    [(cI r.x0), (cI r.x1), (cI r.x2), (cI r.x3),
     (cI r.x4), (cI r.x5), cB r.x6])]⟩
def g_toldp : Con
 | [(true, [.sl a0_0n a0_0f .step a0_0, .sc (.int .i64 a0_1), .sc (.int .i64 (Int.ofNat (a0_2 + 3))), .sc (.int .i64 a0_3), .sc (.int .i64 a0_4)]), (true, [.sc (.int .i64 a1_0), .sc (.int .i64 a1_1), .sc (.int .i64 a1_2), .sc (.int .i64 a1_3), .sc (.int .i64 a1_4), .sc (.int .i64 a1_5), .sc (.bool a1_6)]), (true, [.sc (.str a2_0), .sc (.int .i64 a2_1), .sl a2_2n a2_2f .val a2_2])] => some (ret_toldp (S.toldp_is a0_3 a0_4 a1_0 a1_1 a1_2 a1_3 a1_4 a1_5 a1_6 a2_2) (S.toldp_o a0_3 a0_4 a1_0 a1_1 a1_2 a1_3 a1_4 a1_5 a1_6 a2_2))
 | _ => none
theorem raw_toldp (a0_0n : OBz) (a0_0f : Bool) (a0_0 : Ls) (a0_1 : Int) (a0_2 : Nat) (a0_3 a0_4 a1_0 a1_1 a1_2 a1_3 a1_4 a1_5 : Int) (a1_6 : Bool) (a2_0 : ByteArray) (a2_1 : Int) (a2_2n : OBz) (a2_2f : Bool) (a2_2 : Lv) : evR2 cx_toldp (hdI cx_toldp (find []) [] none 0) none Tryz.f72 72 none [(true, [.sl a0_0n a0_0f .step a0_0, dI a0_1, dI (Int.ofNat (a0_2 + 3)), dI a0_3, dI a0_4]), (true, [dI a1_0, dI a1_1, dI a1_2, dI a1_3, dI a1_4, dI a1_5, .sc (.bool a1_6)]), (true, [.sc (.str a2_0), dI a2_1, .sl a2_2n a2_2f .val a2_2])] some = (S.toldp_R a0_3 a0_4 a1_0 a1_1 a1_2 a1_3 a1_4 a1_5 a1_6 a2_2).go (ret_toldp true) := by kernel_rfl
theorem bs_toldp : loopsIn Tryz.f72 [] = [] := by kernel_rfl
theorem toldp_ok : Stands Tryz.prog tyTab 72 g_toldp := by
 refine stands3 (L := find []) (n := 0) (hints := []) (cx_ok rfl) rdy_toldp ⟨by kernel_rfl, by kernel_rfl, by kernel_rfl⟩ bs_toldp nilB (fun das r hG hr => ?_)
 unfold g_toldp at hG
 split at hG
 ·rename_i a0_0n a0_0f a0_0 a0_1 a0_2 a0_3 a0_4 a1_0 a1_1 a1_2 a1_3 a1_4 a1_5 a1_6 a2_0 a2_1 a2_2n a2_2f a2_2
  injection hG with hG; subst hG
  exact ⟨none, true, win default ((raw_toldp a0_0n a0_0f a0_0 a0_1 a0_2 a0_3 a0_4 a1_0 a1_1 a1_2 a1_3 a1_4 a1_5 a1_6 a2_0 a2_1 a2_2n a2_2f a2_2).trans (DT.go_run _ _)) hr⟩
 ·cases hG
abbrev cx_toldn : Cx := mkCx2 tyTab [(76, g_zs6k), (77, g_zmak), (78, g_zrqv)] [] [] []
theorem rdy_toldn : Ready Tryz.prog tyTab [(76, g_zs6k), (77, g_zmak), (78, g_zrqv)] [] [] := ⟨consG2 zs6k_ok (consG2 zmak_ok (consG2 zrqv_ok (noneG2))), noneI2, noneF2⟩
structure S.toldn_T where
 x0 : Int
 x1 : Int
 x2 : Int
 x3 : Int
 x4 : Int
 x5 : Int
 x6 : Bool
 deriving Inhabited
def S.toldn_R (a0_3 a0_4 a1_0 a1_1 a1_2 a1_3 a1_4 a1_5 : Int) (a1_6 : Bool) (a2_2 : Lv) : DT S.toldn_T :=
let y0 : Int := xwrap .i64 (a1_4 + 1)
let y1 : Int := (↑a2_2.length : Int)
let y2 : Bool := xdec (0 ≤ a0_4) && xdec (a0_4 < y1)
let y3 : Ty .val := a2_2.getD a0_4.toNat (dflt .val)
let y4 := y3.n
let y5 := S.zrqv_o y4 y4
let y6 := y5.x0
let y7 := S.zrqv_o a1_5 y4
let y8 := y7.x0
(.br (xneI a1_2 a0_3)
(.leaf ⟨a1_0, a1_1, a1_2, a1_3, a1_4, a1_5, a1_6⟩)
(.br (xdec (a0_4 < 0))
(.leaf ⟨a1_0, a1_1, a1_2, a1_3, y0, a1_5, true⟩)
(.br (xdec (a0_4 ≥ y1))
(.leaf ⟨a1_0, a1_1, a1_2, a1_3, y0, a1_5, true⟩)
(.br (y2)
(.br (xneI y3.kind 0)
(.leaf ⟨a1_0, a1_1, a1_2, a1_3, y0, a1_5, true⟩)
(.br (y2)
(.br (xeqI y0 1)
(.br (a1_6)
(.leaf ⟨a1_0, a1_1, a1_2, a1_3, y0, y6, true⟩)
(.leaf ⟨a1_0, a1_1, a1_2, a1_3, y0, y6, xnot y5.x1⟩))
(.br (a1_6)
(.leaf ⟨a1_0, a1_1, a1_2, a1_3, y0, y8, true⟩)
(.leaf ⟨a1_0, a1_1, a1_2, a1_3, y0, y8, xnot y7.x1⟩)))
.fail))
.fail))))
def S.toldn (a0_3 a0_4 a1_0 a1_1 a1_2 a1_3 a1_4 a1_5 : Int) (a1_6 : Bool) (a2_2 : Lv) : Option S.toldn_T := (S.toldn_R a0_3 a0_4 a1_0 a1_1 a1_2 a1_3 a1_4 a1_5 a1_6 a2_2).run
def S.toldn_is (a0_3 a0_4 a1_0 a1_1 a1_2 a1_3 a1_4 a1_5 : Int) (a1_6 : Bool) (a2_2 : Lv) : Bool := (S.toldn a0_3 a0_4 a1_0 a1_1 a1_2 a1_3 a1_4 a1_5 a1_6 a2_2).isSome
def S.toldn_o (a0_3 a0_4 a1_0 a1_1 a1_2 a1_3 a1_4 a1_5 : Int) (a1_6 : Bool) (a2_2 : Lv) : S.toldn_T := (S.toldn a0_3 a0_4 a1_0 a1_1 a1_2 a1_3 a1_4 a1_5 a1_6 a2_2).getD default
def ret_toldn (b : Bool) (r : S.toldn_T) : Ret := ⟨b, none, [(true,
    [(cI r.x0), (cI r.x1), (cI r.x2), (cI r.x3),
     (cI r.x4), (cI r.x5), cB r.x6])]⟩
def g_toldn : Con
 | [(true, [.sl a0_0n a0_0f .step a0_0, .sc (.int .i64 a0_1), .sc (.int .i64 (Int.negSucc a0_2)), .sc (.int .i64 a0_3), .sc (.int .i64 a0_4)]), (true, [.sc (.int .i64 a1_0), .sc (.int .i64 a1_1), .sc (.int .i64 a1_2), .sc (.int .i64 a1_3), .sc (.int .i64 a1_4), .sc (.int .i64 a1_5), .sc (.bool a1_6)]), (true, [.sc (.str a2_0), .sc (.int .i64 a2_1), .sl a2_2n a2_2f .val a2_2])] => some (ret_toldn (S.toldn_is a0_3 a0_4 a1_0 a1_1 a1_2 a1_3 a1_4 a1_5 a1_6 a2_2) (S.toldn_o a0_3 a0_4 a1_0 a1_1 a1_2 a1_3 a1_4 a1_5 a1_6 a2_2))
 | _ => none
theorem raw_toldn (a0_0n : OBz) (a0_0f : Bool) (a0_0 : Ls) (a0_1 : Int) (a0_2 : Nat) (a0_3 a0_4 a1_0 a1_1 a1_2 a1_3 a1_4 a1_5 : Int) (a1_6 : Bool) (a2_0 : ByteArray) (a2_1 : Int) (a2_2n : OBz) (a2_2f : Bool) (a2_2 : Lv) : evR2 cx_toldn (hdI cx_toldn (find []) [] none 0) none Tryz.f72 72 none [(true, [.sl a0_0n a0_0f .step a0_0, dI a0_1, dI (Int.negSucc a0_2), dI a0_3, dI a0_4]), (true, [dI a1_0, dI a1_1, dI a1_2, dI a1_3, dI a1_4, dI a1_5, .sc (.bool a1_6)]), (true, [.sc (.str a2_0), dI a2_1, .sl a2_2n a2_2f .val a2_2])] some = (S.toldn_R a0_3 a0_4 a1_0 a1_1 a1_2 a1_3 a1_4 a1_5 a1_6 a2_2).go (ret_toldn true) := by kernel_rfl
theorem bs_toldn : loopsIn Tryz.f72 [] = [] := by kernel_rfl
theorem toldn_ok : Stands Tryz.prog tyTab 72 g_toldn := by
 refine stands3 (L := find []) (n := 0) (hints := []) (cx_ok rfl) rdy_toldn ⟨by kernel_rfl, by kernel_rfl, by kernel_rfl⟩ bs_toldn nilB (fun das r hG hr => ?_)
 unfold g_toldn at hG
 split at hG
 ·rename_i a0_0n a0_0f a0_0 a0_1 a0_2 a0_3 a0_4 a1_0 a1_1 a1_2 a1_3 a1_4 a1_5 a1_6 a2_0 a2_1 a2_2n a2_2f a2_2
  injection hG with hG; subst hG
  exact ⟨none, true, win default ((raw_toldn a0_0n a0_0f a0_0 a0_1 a0_2 a0_3 a0_4 a1_0 a1_1 a1_2 a1_3 a1_4 a1_5 a1_6 a2_0 a2_1 a2_2n a2_2f a2_2).trans (DT.go_run _ _)) hr⟩
 ·cases hG
abbrev cx_told1 : Cx := mkCx2 tyTab [(76, g_zs6k), (77, g_zmak), (78, g_zrqv)] [] [] []
theorem rdy_told1 : Ready Tryz.prog tyTab [(76, g_zs6k), (77, g_zmak), (78, g_zrqv)] [] [] := ⟨consG2 zs6k_ok (consG2 zmak_ok (consG2 zrqv_ok (noneG2))), noneI2, noneF2⟩
structure S.told1_T where
 x0 : Int
 x1 : Int
 x2 : Int
 x3 : Int
 x4 : Int
 x5 : Int
 x6 : Bool
 deriving Inhabited
def S.told1_R (a0_3 a0_4 a1_0 a1_1 a1_2 a1_3 a1_4 a1_5 : Int) (a1_6 : Bool) (a2_2 : Lv) : DT S.told1_T :=
let y0 : Int := xwrap .i64 (a1_4 + 1)
let y1 : Int := (↑a2_2.length : Int)
let y2 : Bool := xdec (0 ≤ a0_4) && xdec (a0_4 < y1)
let y3 : Ty .val := a2_2.getD a0_4.toNat (dflt .val)
let y4 := y3.n
let y5 := S.zs6k_is a1_5 y4
let y6 := S.zs6k_o a1_5 y4
let y7 := y6.x0
let y8 : Bool := xnot y6.x1
(.br (xneI a1_2 a0_3)
(.leaf ⟨a1_0, a1_1, a1_2, a1_3, a1_4, a1_5, a1_6⟩)
(.br (xdec (a0_4 < 0))
(.leaf ⟨a1_0, a1_1, a1_2, a1_3, y0, a1_5, true⟩)
(.br (xdec (a0_4 ≥ y1))
(.leaf ⟨a1_0, a1_1, a1_2, a1_3, y0, a1_5, true⟩)
(.br (y2)
(.br (xneI y3.kind 0)
(.leaf ⟨a1_0, a1_1, a1_2, a1_3, y0, a1_5, true⟩)
(.br (y2)
(.br (xeqI y0 1)
(.br (y5)
(.br (a1_6)
(.leaf ⟨a1_0, a1_1, a1_2, a1_3, y0, y7, true⟩)
(.leaf ⟨a1_0, a1_1, a1_2, a1_3, y0, y7, y8⟩))
.fail)
(.br (y5)
(.br (a1_6)
(.leaf ⟨a1_0, a1_1, a1_2, a1_3, y0, y7, true⟩)
(.leaf ⟨a1_0, a1_1, a1_2, a1_3, y0, y7, y8⟩))
.fail))
.fail))
.fail))))
def S.told1 (a0_3 a0_4 a1_0 a1_1 a1_2 a1_3 a1_4 a1_5 : Int) (a1_6 : Bool) (a2_2 : Lv) : Option S.told1_T := (S.told1_R a0_3 a0_4 a1_0 a1_1 a1_2 a1_3 a1_4 a1_5 a1_6 a2_2).run
def S.told1_is (a0_3 a0_4 a1_0 a1_1 a1_2 a1_3 a1_4 a1_5 : Int) (a1_6 : Bool) (a2_2 : Lv) : Bool := (S.told1 a0_3 a0_4 a1_0 a1_1 a1_2 a1_3 a1_4 a1_5 a1_6 a2_2).isSome
def S.told1_o (a0_3 a0_4 a1_0 a1_1 a1_2 a1_3 a1_4 a1_5 : Int) (a1_6 : Bool) (a2_2 : Lv) : S.told1_T := (S.told1 a0_3 a0_4 a1_0 a1_1 a1_2 a1_3 a1_4 a1_5 a1_6 a2_2).getD default
def ret_told1 (b : Bool) (r : S.told1_T) : Ret := ⟨b, none, [(true,
    [(cI r.x0), (cI r.x1), (cI r.x2), (cI r.x3),
     (cI r.x4), (cI r.x5), cB r.x6])]⟩
def g_told1 : Con
 | [(true, [.sl a0_0n a0_0f .step a0_0, .sc (.int .i64 a0_1), .sc (.int .i64 1), .sc (.int .i64 a0_3), .sc (.int .i64 a0_4)]), (true, [.sc (.int .i64 a1_0), .sc (.int .i64 a1_1), .sc (.int .i64 a1_2), .sc (.int .i64 a1_3), .sc (.int .i64 a1_4), .sc (.int .i64 a1_5), .sc (.bool a1_6)]), (true, [.sc (.str a2_0), .sc (.int .i64 a2_1), .sl a2_2n a2_2f .val a2_2])] => some (ret_told1 (S.told1_is a0_3 a0_4 a1_0 a1_1 a1_2 a1_3 a1_4 a1_5 a1_6 a2_2) (S.told1_o a0_3 a0_4 a1_0 a1_1 a1_2 a1_3 a1_4 a1_5 a1_6 a2_2))
 | _ => none
theorem raw_told1 (a0_0n : OBz) (a0_0f : Bool) (a0_0 : Ls) (a0_1 a0_3 a0_4 a1_0 a1_1 a1_2 a1_3 a1_4 a1_5 : Int) (a1_6 : Bool) (a2_0 : ByteArray) (a2_1 : Int) (a2_2n : OBz) (a2_2f : Bool) (a2_2 : Lv) : evR2 cx_told1 (hdI cx_told1 (find []) [] none 0) none Tryz.f72 72 none [(true, [.sl a0_0n a0_0f .step a0_0, dI a0_1, dI 1, dI a0_3, dI a0_4]), (true, [dI a1_0, dI a1_1, dI a1_2, dI a1_3, dI a1_4, dI a1_5, .sc (.bool a1_6)]), (true, [.sc (.str a2_0), dI a2_1, .sl a2_2n a2_2f .val a2_2])] some = (S.told1_R a0_3 a0_4 a1_0 a1_1 a1_2 a1_3 a1_4 a1_5 a1_6 a2_2).go (ret_told1 true) := by kernel_rfl
theorem bs_told1 : loopsIn Tryz.f72 [] = [] := by kernel_rfl
theorem told1_ok : Stands Tryz.prog tyTab 72 g_told1 := by
 refine stands3 (L := find []) (n := 0) (hints := []) (cx_ok rfl) rdy_told1 ⟨by kernel_rfl, by kernel_rfl, by kernel_rfl⟩ bs_told1 nilB (fun das r hG hr => ?_)
 unfold g_told1 at hG
 split at hG
 ·rename_i a0_0n a0_0f a0_0 a0_1 a0_3 a0_4 a1_0 a1_1 a1_2 a1_3 a1_4 a1_5 a1_6 a2_0 a2_1 a2_2n a2_2f a2_2
  injection hG with hG; subst hG
  exact ⟨none, true, win default ((raw_told1 a0_0n a0_0f a0_0 a0_1 a0_3 a0_4 a1_0 a1_1 a1_2 a1_3 a1_4 a1_5 a1_6 a2_0 a2_1 a2_2n a2_2f a2_2).trans (DT.go_run _ _)) hr⟩
 ·cases hG
abbrev cx_told2 : Cx := mkCx2 tyTab [(76, g_zs6k), (77, g_zmak), (78, g_zrqv)] [] [] []
theorem rdy_told2 : Ready Tryz.prog tyTab [(76, g_zs6k), (77, g_zmak), (78, g_zrqv)] [] [] := ⟨consG2 zs6k_ok (consG2 zmak_ok (consG2 zrqv_ok (noneG2))), noneI2, noneF2⟩
structure S.told2_T where
 x0 : Int
 x1 : Int
 x2 : Int
 x3 : Int
 x4 : Int
 x5 : Int
 x6 : Bool
 deriving Inhabited
def S.told2_R (a0_3 a0_4 a1_0 a1_1 a1_2 a1_3 a1_4 a1_5 : Int) (a1_6 : Bool) (a2_2 : Lv) : DT S.told2_T :=
let y0 : Int := xwrap .i64 (a1_4 + 1)
let y1 : Int := (↑a2_2.length : Int)
let y2 : Bool := xdec (0 ≤ a0_4) && xdec (a0_4 < y1)
let y3 : Ty .val := a2_2.getD a0_4.toNat (dflt .val)
let y4 := y3.n
let y5 := S.zmak_o y4 y4
let y6 := y5.x0
let y7 := S.zmak_o a1_5 y4
let y8 := y7.x0
(.br (xneI a1_2 a0_3)
(.leaf ⟨a1_0, a1_1, a1_2, a1_3, a1_4, a1_5, a1_6⟩)
(.br (xdec (a0_4 < 0))
(.leaf ⟨a1_0, a1_1, a1_2, a1_3, y0, a1_5, true⟩)
(.br (xdec (a0_4 ≥ y1))
(.leaf ⟨a1_0, a1_1, a1_2, a1_3, y0, a1_5, true⟩)
(.br (y2)
(.br (xneI y3.kind 0)
(.leaf ⟨a1_0, a1_1, a1_2, a1_3, y0, a1_5, true⟩)
(.br (y2)
(.br (xeqI y0 1)
(.br (a1_6)
(.leaf ⟨a1_0, a1_1, a1_2, a1_3, y0, y6, true⟩)
(.leaf ⟨a1_0, a1_1, a1_2, a1_3, y0, y6, xnot y5.x1⟩))
(.br (a1_6)
(.leaf ⟨a1_0, a1_1, a1_2, a1_3, y0, y8, true⟩)
(.leaf ⟨a1_0, a1_1, a1_2, a1_3, y0, y8, xnot y7.x1⟩)))
.fail))
.fail))))
def S.told2 (a0_3 a0_4 a1_0 a1_1 a1_2 a1_3 a1_4 a1_5 : Int) (a1_6 : Bool) (a2_2 : Lv) : Option S.told2_T := (S.told2_R a0_3 a0_4 a1_0 a1_1 a1_2 a1_3 a1_4 a1_5 a1_6 a2_2).run
def S.told2_is (a0_3 a0_4 a1_0 a1_1 a1_2 a1_3 a1_4 a1_5 : Int) (a1_6 : Bool) (a2_2 : Lv) : Bool := (S.told2 a0_3 a0_4 a1_0 a1_1 a1_2 a1_3 a1_4 a1_5 a1_6 a2_2).isSome
def S.told2_o (a0_3 a0_4 a1_0 a1_1 a1_2 a1_3 a1_4 a1_5 : Int) (a1_6 : Bool) (a2_2 : Lv) : S.told2_T := (S.told2 a0_3 a0_4 a1_0 a1_1 a1_2 a1_3 a1_4 a1_5 a1_6 a2_2).getD default
def ret_told2 (b : Bool) (r : S.told2_T) : Ret := ⟨b, none, [(true,
    [(cI r.x0), (cI r.x1), (cI r.x2), (cI r.x3),
     (cI r.x4), (cI r.x5), cB r.x6])]⟩
def g_told2 : Con
 | [(true, [.sl a0_0n a0_0f .step a0_0, .sc (.int .i64 a0_1), .sc (.int .i64 2), .sc (.int .i64 a0_3), .sc (.int .i64 a0_4)]), (true, [.sc (.int .i64 a1_0), .sc (.int .i64 a1_1), .sc (.int .i64 a1_2), .sc (.int .i64 a1_3), .sc (.int .i64 a1_4), .sc (.int .i64 a1_5), .sc (.bool a1_6)]), (true, [.sc (.str a2_0), .sc (.int .i64 a2_1), .sl a2_2n a2_2f .val a2_2])] => some (ret_told2 (S.told2_is a0_3 a0_4 a1_0 a1_1 a1_2 a1_3 a1_4 a1_5 a1_6 a2_2) (S.told2_o a0_3 a0_4 a1_0 a1_1 a1_2 a1_3 a1_4 a1_5 a1_6 a2_2))
 | _ => none
theorem raw_told2 (a0_0n : OBz) (a0_0f : Bool) (a0_0 : Ls) (a0_1 a0_3 a0_4 a1_0 a1_1 a1_2 a1_3 a1_4 a1_5 : Int) (a1_6 : Bool) (a2_0 : ByteArray) (a2_1 : Int) (a2_2n : OBz) (a2_2f : Bool) (a2_2 : Lv) : evR2 cx_told2 (hdI cx_told2 (find []) [] none 0) none Tryz.f72 72 none [(true, [.sl a0_0n a0_0f .step a0_0, dI a0_1, dI 2, dI a0_3, dI a0_4]), (true, [dI a1_0, dI a1_1, dI a1_2, dI a1_3, dI a1_4, dI a1_5, .sc (.bool a1_6)]), (true, [.sc (.str a2_0), dI a2_1, .sl a2_2n a2_2f .val a2_2])] some = (S.told2_R a0_3 a0_4 a1_0 a1_1 a1_2 a1_3 a1_4 a1_5 a1_6 a2_2).go (ret_told2 true) := by kernel_rfl
theorem bs_told2 : loopsIn Tryz.f72 [] = [] := by kernel_rfl
theorem told2_ok : Stands Tryz.prog tyTab 72 g_told2 := by
 refine stands3 (L := find []) (n := 0) (hints := []) (cx_ok rfl) rdy_told2 ⟨by kernel_rfl, by kernel_rfl, by kernel_rfl⟩ bs_told2 nilB (fun das r hG hr => ?_)
 unfold g_told2 at hG
 split at hG
 ·rename_i a0_0n a0_0f a0_0 a0_1 a0_3 a0_4 a1_0 a1_1 a1_2 a1_3 a1_4 a1_5 a1_6 a2_0 a2_1 a2_2n a2_2f a2_2
  injection hG with hG; subst hG
  exact ⟨none, true, win default ((raw_told2 a0_0n a0_0f a0_0 a0_1 a0_3 a0_4 a1_0 a1_1 a1_2 a1_3 a1_4 a1_5 a1_6 a2_0 a2_1 a2_2n a2_2f a2_2).trans (DT.go_run _ _)) hr⟩
 ·cases hG
end
end Go.Eng
