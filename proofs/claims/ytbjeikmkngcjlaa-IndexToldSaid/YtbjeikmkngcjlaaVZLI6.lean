/- Contracts, laid by program. -/
import Derived.Test.YtbjeikmkngcjlaaVZG16
set_option linter.unusedVariables false
namespace Go.Eng
noncomputable section
open Go Go.Eng Go.Proofs Go.Eng.Tab
abbrev cx_zaqx : Cx := mkCx2 tyTab [(33, g_zg3i), (37, g_zzsx), (47, g_zh5h)] [] [(6, 6, { keep := [2, 3, 7], acc := [] })] []
theorem rdy_zaqx : Ready Try.prog tyTab [(33, g_zg3i), (37, g_zzsx), (47, g_zh5h)] [] [] := ⟨consG2 zg3i_ok (consG2 zzsx_ok (consG2 zh5h_ok (noneG2))), noneI2, noneF2⟩
structure S.zaqx_6_V where
 t7_ : Int
def S.zaqx_6_R (qA : List (Ty .val)) (v : S.zaqx_6_V) : DT (Option Nat × S.zaqx_6_V) :=
let y0 : Bool := xdec (v.t7_ < (↑qA.length : Int))
(.br (y0)
(.br (xdec (0 ≤ v.t7_) && y0)
(.br (xdec ((↑(qA.getD v.t7_.toNat (dflt .val)).s.size : Int) > 100))
(.leaf (some 0, v))
(.leaf (none, ⟨xwrap .i64 (v.t7_ + 1)⟩)))
.fail)
(.leaf (some 1, v)))
def S.zaqx_6_r (qA : List (Ty .val)) (v : S.zaqx_6_V) : Option (Option Nat × S.zaqx_6_V) := (S.zaqx_6_R qA v).run
def S.zaqx_6_j (qA : List (Ty .val)) (v : S.zaqx_6_V) (j : Nat) : Bool := Lp_j (S.zaqx_6_r qA) v j
def S.zaqx_6_v (qA : List (Ty .val)) (v : S.zaqx_6_V) : S.zaqx_6_V := Lp_v (S.zaqx_6_r qA) v
def mk_zaqx_6 (qB : ByteArray) (qC : Option Bool) (qD : Bool) (qE : List (Ty .op)) (qF : ByteArray) (qG : Int) (qH : Option Bool) (qI : Bool) (qA : List (Ty .val)) (v : S.zaqx_6_V) : St := ⟨(V.any :: (V.any :: (V.v false [C.ptr 0 0] :: (V.v false [C.ptr 1 0] :: (vs 3 ((cV v.t7_) :: (vs 67 []))))))), (some (Blk.box 26 [C.d (.sc (.str qB)), C.d (.sl qC qD .op qE)]) :: (some (Blk.box 29 [C.d (.sc (.str qF)), (cI qG), C.d (.sl qH qI .val qA)]) :: (ns 20 []))), 0⟩
def ex_zaqx_6 (qB : ByteArray) (qC : Option Bool) (qD : Bool) (qE : List (Ty .op)) (qF : ByteArray) (qG : Int) (qH : Option Bool) (qI : Bool) (qA : List (Ty .val)) (j : Nat) (v : S.zaqx_6_V) : Ex × St := match j with
 | 0 => (Ex.ret, ⟨(V.any :: (V.any :: (V.v false [C.ptr 0 0] :: (V.v false [C.ptr 1 0] :: (V.v false [C.d (.sc (.bool true))] :: (vs 70 [])))))), (some (Blk.box 26 [C.d (.sc (.str qB)), C.d (.sl qC qD .op qE)]) :: (some (Blk.box 29 [C.d (.sc (.str qF)), (cI qG), C.d (.sl qH qI .val qA)]) :: (ns 34 []))), 0⟩)
 | 1 => (Ex.exit 0, ⟨(V.any :: (V.any :: (V.v false [C.ptr 0 0] :: (V.v false [C.ptr 1 0] :: (vs 71 []))))), (some (Blk.box 26 [C.d (.sc (.str qB)), C.d (.sl qC qD .op qE)]) :: (some (Blk.box 29 [C.d (.sc (.str qF)), (cI qG), C.d (.sl qH qI .val qA)]) :: (ns 25 []))), 0⟩)
 | _ => (.ret, ⟨[], [], 0⟩)
def T1_zaqx_6 : V → V → V → Option Blk → Option Blk → Tree
 | V.v false [C.ptr 0 0], V.v false [C.ptr 1 0], V.v false [C.d (.sc (.int .i64 t7_))], some (Blk.box 26 [C.d (.sc (.str qB)), C.d (.sl qC qD .op qE)]), some (Blk.box 29 [C.d (.sc (.str qF)), C.d (.sc (.int .i64 qG)), C.d (.sl qH qI .val qA)]) => exT (fun j => ex_zaqx_6 qB qC qD qE qF qG qH qI qA j (S.zaqx_6_v qA ⟨t7_⟩)) (S.zaqx_6_j qA ⟨t7_⟩) [0, 1]
 | _, _, _, _, _ => .bad
def T_zaqx_6 (st : St) : Tree := bif okSt 75 22 0 [0, 1] st then T1_zaqx_6 (st.env.getD 2 .any) (st.env.getD 3 .any) (st.env.getD 7 .any) (lk st.heap 0) (lk st.heap 1) else .bad
def b_zaqx_6 : Code := loopBy Try.f6 6
theorem rnd_zaqx_6 (qB : ByteArray) (qC : Option Bool) (qD : Bool) (qE : List (Ty .op)) (qF : ByteArray) (qG : Int) (qH : Option Bool) (qI : Bool) (qA : List (Ty .val)) (v : S.zaqx_6_V) : round2 cx_zaqx (hdI cx_zaqx (find []) [] none 0) 6 b_zaqx_6 [] 22 [2, 3, 4] (mk_zaqx_6 qB qC qD qE qF qG qH qI qA v) = (S.zaqx_6_R qA v).go (roundOut (mk_zaqx_6 qB qC qD qE qF qG qH qI qA) (ex_zaqx_6 qB qC qD qE qF qG qH qI qA)) := by kernel_rfl
theorem bs_zaqx_6 : loopsOf b_zaqx_6 ++ loopsInl [] = [] := by kernel_rfl
theorem ci_zaqx_6 (qB : ByteArray) (qC : Option Bool) (qD : Bool) (qE : List (Ty .op)) (qF : ByteArray) (qG : Int) (qH : Option Bool) (qI : Bool) (qA : List (Ty .val)) : ∀ v j v2, Lp (S.zaqx_6_r qA) v = some (j, v2) → Circles Try.prog cx_zaqx b_zaqx_6 (mk_zaqx_6 qB qC qD qE qF qG qH qI qA v) (ex_zaqx_6 qB qC qD qE qF qG qH qI qA j v2).1 (ex_zaqx_6 qB qC qD qE qF qG qH qI qA j v2).2 :=
 loop_ok2 (L := find []) (n := 0) (hints := [(6, 6, { keep := [2, 3, 7], acc := [] })]) (cx_ok rfl) rdy_zaqx bs_zaqx_6 nilB (fun v => (rnd_zaqx_6 qB qC qD qE qF qG qH qI qA v).trans (DT.go_run _ _)) (by intro j v; unfold ex_zaqx_6; split <;> rfl)
theorem mke_zaqx_6 (qB : ByteArray) (qC : Option Bool) (qD : Bool) (qE : List (Ty .op)) (qF : ByteArray) (qG : Int) (qH : Option Bool) (qI : Bool) (qA : List (Ty .val)) (v : S.zaqx_6_V) : mk_zaqx_6 qB qC qD qE qF qG qH qI qA v = ⟨envOf 75 [(2, V.v false [C.ptr 0 0]), (3, V.v false [C.ptr 1 0]), (7, (cV v.t7_))], heapOf 22 [(0, some (Blk.box 26 [C.d (.sc (.str qB)), C.d (.sl qC qD .op qE)])), (1, some (Blk.box 29 [C.d (.sc (.str qF)), (cI qG), C.d (.sl qH qI .val qA)]))], 0⟩ := by kernel_rfl
theorem lo1_zaqx_6 (e2 : V) (e3 : V) (e7 : V) (h0 : Option Blk) (h1 : Option Blk) e st2 (h : (T1_zaqx_6 e2 e3 e7 h0 h1).eval = some (e, st2)) : Circles Try.prog cx_zaqx b_zaqx_6 ⟨envOf 75 [(2, e2), (3, e3), (7, e7)], heapOf 22 [(0, h0), (1, h1)], 0⟩ e st2 := by
 unfold T1_zaqx_6 at h
 split at h
 ·have := loop_tree (mk := mk_zaqx_6 _ _ _ _ _ _ _ _ _) (ci_zaqx_6 _ _ _ _ _ _ _ _ _) _ _ e st2 h
  rw [mke_zaqx_6] at this
  exact this
 ·cases h
theorem lok_zaqx_6 : LoopOk Try.prog cx_zaqx b_zaqx_6 T_zaqx_6 := by
 intro st e st2 h
 unfold T_zaqx_6 at h
 cases hk : okSt 75 22 0 [0, 1] st with
 | false => rw [hk] at h; cases h
 | true =>
  rw [hk] at h
  exact circles_keep (ks := [2, 3, 7]) hk (lo1_zaqx_6 _ _ _ _ _ e st2 h)
structure S.zaqx_T where
 x0 : Bool
 deriving Inhabited
def S.zaqx_R (a0_0 : ByteArray) (a0_1 : List (Ty .op)) (a1_0 : ByteArray) (a1_1 : Int) (a1_2 : List (Ty .val)) : DT S.zaqx_T :=
let y0 : S.zaqx_6_V := { t7_ := 0 : S.zaqx_6_V }
let y1 : Bool := xnot (S.zh5h_o a0_0 a0_1 a1_0 a1_1 a1_2).x0
let y2 : Bool := (S.zh5h_o a0_0 [] a1_0 a1_1 a1_2).x0
let y3 : Bool := xdec (a0_0 = a1_0)
let y4 : Bool := y2 == y3
(.br (S.zg3i_is)
(.br (S.zzsx_is a0_1)
(.br (xnot S.zg3i_o.x0)
(.leaf ⟨S.zg3i_o.x0⟩)
(.br (xnot (S.zzsx_o a0_1).x0)
(.leaf ⟨S.zg3i_o.x0⟩)
(.br (xdec ((↑a1_2.length : Int) > 10))
(.leaf ⟨S.zg3i_o.x0⟩)
(.br (S.zaqx_6_j a1_2 y0 0)
(.leaf ⟨true⟩)
(.br (S.zaqx_6_j a1_2 y0 1)
(.br (S.zh5h_is a0_0 a0_1 a1_0 a1_1 a1_2)
(.br (S.zh5h_is a0_0 [] a1_0 a1_1 a1_2)
(.br (y1)
(.br (y4)
(.br (y1)
(.leaf ⟨true⟩)
(.leaf ⟨y2⟩))
(.leaf ⟨false⟩))
(.br (y3)
(.br (y4)
(.br (y1)
(.leaf ⟨true⟩)
(.leaf ⟨y2⟩))
(.leaf ⟨false⟩))
(.leaf ⟨false⟩)))
.fail)
.fail)
.fail)))))
.fail)
.fail)
def S.zaqx (a0_0 : ByteArray) (a0_1 : List (Ty .op)) (a1_0 : ByteArray) (a1_1 : Int) (a1_2 : List (Ty .val)) : Option S.zaqx_T := (S.zaqx_R a0_0 a0_1 a1_0 a1_1 a1_2).run
def S.zaqx_is (a0_0 : ByteArray) (a0_1 : List (Ty .op)) (a1_0 : ByteArray) (a1_1 : Int) (a1_2 : List (Ty .val)) : Bool := (S.zaqx a0_0 a0_1 a1_0 a1_1 a1_2).isSome
def S.zaqx_o (a0_0 : ByteArray) (a0_1 : List (Ty .op)) (a1_0 : ByteArray) (a1_1 : Int) (a1_2 : List (Ty .val)) : S.zaqx_T := (S.zaqx a0_0 a0_1 a1_0 a1_1 a1_2).getD default
def ret_zaqx (b : Bool) (r : S.zaqx_T) : Ret := ⟨b, none, [(false, [C.d (.sc (.bool r.x0))])]⟩
def g_zaqx : Con
 | [(true, [.sc (.str a0_0), .sl a0_1n a0_1f .op a0_1]), (true, [.sc (.str a1_0), .sc (.int .i64 a1_1), .sl a1_2n a1_2f .val a1_2])] => some (ret_zaqx (S.zaqx_is a0_0 a0_1 a1_0 a1_1 a1_2) (S.zaqx_o a0_0 a0_1 a1_0 a1_1 a1_2))
 | _ => none
theorem raw_zaqx (a0_0 : ByteArray) (a0_1n : Option Bool) (a0_1f : Bool) (a0_1 : List (Ty .op)) (a1_0 : ByteArray) (a1_1 : Int) (a1_2n : Option Bool) (a1_2f : Bool) (a1_2 : List (Ty .val)) : evR2 cx_zaqx (hdI cx_zaqx (find [(6, T_zaqx_6)]) [] none 0) none Try.f6 6 none [(true, [.sc (.str a0_0), .sl a0_1n a0_1f .op a0_1]), (true, [.sc (.str a1_0), .sc (.int .i64 a1_1), .sl a1_2n a1_2f .val a1_2])] some = (S.zaqx_R a0_0 a0_1 a1_0 a1_1 a1_2).go (ret_zaqx true) := by kernel_rfl
theorem bs_zaqx : loopsIn Try.f6 [] = [b_zaqx_6] := by kernel_rfl
theorem zaqx_ok : Stands Try.prog tyTab 6 g_zaqx := by
 refine stands3 (L := find [(6, T_zaqx_6)]) (n := 0) (hints := [(6, 6, { keep := [2, 3, 7], acc := [] })]) (cx_ok rfl) rdy_zaqx ⟨by kernel_rfl, by kernel_rfl, by kernel_rfl⟩ bs_zaqx (consB (fun T h => by have e : T_zaqx_6 = T := Option.some.inj (show some T_zaqx_6 = some T from h); exact e ▸ lok_zaqx_6) nilB) (fun das r hG hr => ?_)
 unfold g_zaqx at hG
 split at hG
 ·rename_i a0_0 a0_1n a0_1f a0_1 a1_0 a1_1 a1_2n a1_2f a1_2
  injection hG with hG; subst hG
  exact ⟨none, true, win default ((raw_zaqx a0_0 a0_1n a0_1f a0_1 a1_0 a1_1 a1_2n a1_2f a1_2).trans (DT.go_run _ _)) hr⟩
 ·cases hG
end
end Go.Eng
