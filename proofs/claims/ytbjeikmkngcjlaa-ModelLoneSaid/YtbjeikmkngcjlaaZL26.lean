/- Contracts, laid by program. -/
import Derived.Test.YtbjeikmkngcjlaaZG13
set_option linter.unusedVariables false
namespace Go.Eng
noncomputable section
open Go Go.Eng Go.Proofs Go.Eng.Tab
abbrev cx_zlsj : Cx := mkCx2 tyTab [(60, g_zgwp), (72, g_zkyx), (73, g_all2), (75, g_zjsn)] [] [(26, 9, { keep := [0, 1, 2, 9, 10, 11, 12], acc := [] })] []
theorem rdy_zlsj : Ready Try.prog tyTab [(60, g_zgwp), (72, g_zkyx), (73, g_all2), (75, g_zjsn)] [] [] := ⟨consG2 zgwp_ok (consG2 zkyx_ok (consG2 all2_ok (consG2 zjsn_ok (noneG2)))), noneI2, noneF2⟩
structure S.zlsj_9_V where
 t11_ : Int
 t12_ : Int
def S.zlsj_9_R (qA : ByteArray) (qB : List (Ty .evt)) (t10_l : Nat) (h_26 : List (Ty .mat)) (v : S.zlsj_9_V) : DT (Option Nat × S.zlsj_9_V) :=
let y0 : Bool := xdec (v.t12_ < (↑qB.length : Int))
let y1 : Int := xwrap .i64 (v.t12_ + 1)
let y2 : Int := (↑t10_l : Int)
let y3 : Nat := 0 + v.t11_.toNat
let y4 : Ty .mat := h_26.getD y3 (dflt .mat)
(.br (y0)
(.br (xdec (0 ≤ v.t12_) && y0)
(.br (xnot (xdec ((qB.getD v.t12_.toNat (dflt .evt)).name = qA)))
(.leaf (none, ⟨v.t11_, y1⟩))
(.br (xdec (v.t11_ ≥ y2))
(.leaf (some 0, v))
(.br (xdec (0 ≤ v.t11_) && xdec (v.t11_ < y2))
(.br (xdec (y3 < h_26.length))
(.br (bif xeqI y4.start v.t12_ && (xeqI y4.fin v.t12_ && (xeqI y4.agg 1 && xeqB y4.bad false)) then false else true)
(.leaf (some 0, v))
(.leaf (none, ⟨xwrap .i64 (v.t11_ + 1), y1⟩)))
.fail)
.fail)))
.fail)
(.leaf (some 1, v)))
def S.zlsj_9_r (qA : ByteArray) (qB : List (Ty .evt)) (t10_l : Nat) (h_26 : List (Ty .mat)) (v : S.zlsj_9_V) : Option (Option Nat × S.zlsj_9_V) := (S.zlsj_9_R qA qB t10_l h_26 v).run
def S.zlsj_9_j (qA : ByteArray) (qB : List (Ty .evt)) (t10_l : Nat) (h_26 : List (Ty .mat)) (v : S.zlsj_9_V) (j : Nat) : Bool := Lp_j (S.zlsj_9_r qA qB t10_l h_26) v j
def S.zlsj_9_v (qA : ByteArray) (qB : List (Ty .evt)) (t10_l : Nat) (h_26 : List (Ty .mat)) (v : S.zlsj_9_V) : S.zlsj_9_V := Lp_v (S.zlsj_9_r qA qB t10_l h_26) v
def mk_zlsj_9 (qA : ByteArray) (qC : Option Bool) (qD : Bool) (qB : List (Ty .evt)) (qE : Int) (qF : Bool) (t10_l : Nat) (h_19 : List (Ty .step)) (h21_l : Nat) (qG : Int) (qH : Int) (qI : Int) (qJ : Int) (h_26 : List (Ty .mat)) (v : S.zlsj_9_V) : St := ⟨(V.v false [C.d (.sc (.str qA))] :: (V.v false [C.d (.sl qC qD .evt qB)] :: ((cV qE) :: (vs 6 (V.v false [C.ptr 21 0] :: (V.v false [C.own 26 .mat qF 0 t10_l] :: ((cV v.t11_) :: ((cV v.t12_) :: (vs 63 []))))))))), (ns 19 (some (Blk.arr 47 .step h_19) :: (none :: (some (Blk.box 45 [C.own 19 .step true 0 h21_l, (cI qG), (cI qH), (cI qI), (cI qJ)]) :: (ns 4 (some (Blk.arr 81 .mat h_26) :: (ns 3 []))))))), 0⟩
def ex_zlsj_9 (qA : ByteArray) (qC : Option Bool) (qD : Bool) (qB : List (Ty .evt)) (qE : Int) (qF : Bool) (t10_l : Nat) (h_19 : List (Ty .step)) (h21_l : Nat) (qG : Int) (qH : Int) (qI : Int) (qJ : Int) (h_26 : List (Ty .mat)) (j : Nat) (v : S.zlsj_9_V) : Ex × St := match j with
 | 0 => (Ex.ret, ⟨(V.any :: (V.v false [C.d (.sl qC qD .evt qB)] :: ((cV qE) :: (vs 3 (V.v false [C.d (.sc (.bool false))] :: (V.any :: (V.any :: (V.v false [C.ptr 21 0] :: (V.v false [C.own 26 .mat qF 0 t10_l] :: ((cV v.t11_) :: (vs 64 []))))))))))), (ns 19 (some (Blk.arr 47 .step h_19) :: (none :: (some
  (Blk.box 45
   [C.own 19 .step true 0 h21_l, (cI qG), (cI qH), (cI qI),
    (cI qJ)]) :: (ns 4 (some (Blk.arr 81 .mat h_26) :: (ns 29 []))))))), 0⟩)
 | 1 => (Ex.exit 0, ⟨(V.any :: (V.v false [C.d (.sl qC qD .evt qB)] :: ((cV qE) :: (vs 6 (V.v false [C.ptr 21 0] :: (V.v false [C.own 26 .mat qF 0 t10_l] :: ((cV v.t11_) :: (vs 64 [])))))))), (ns 19 (some (Blk.arr 47 .step h_19) :: (none :: (some
  (Blk.box 45
   [C.own 19 .step true 0 h21_l, (cI qG), (cI qH), (cI qI),
    (cI qJ)]) :: (ns 4 (some (Blk.arr 81 .mat h_26) :: (ns 7 []))))))), 0⟩)
 | _ => (.ret, ⟨[], [], 0⟩)
def T1_zlsj_9 : V → V → V → V → V → V → V → Option Blk → Option Blk → Option Blk → Tree
 | V.v false [C.d (.sc (.str qA))], V.v false [C.d (.sl qC qD .evt qB)], V.v false [C.d (.sc (.int .i64 qE))], V.v false [C.ptr 21 0], V.v false [C.own 26 .mat qF 0 t10_l], V.v false [C.d (.sc (.int .i64 t11_))], V.v false [C.d (.sc (.int .i64 t12_))], some (Blk.arr 47 .step h_19), some (Blk.box 45 [C.own 19 .step true 0 h21_l, C.d (.sc (.int .i64 qG)), C.d (.sc (.int .i64 qH)), C.d (.sc (.int .i64 qI)), C.d (.sc (.int .i64 qJ))]), some (Blk.arr 81 .mat h_26) => exT (fun j => ex_zlsj_9 qA qC qD qB qE qF t10_l h_19 h21_l qG qH qI qJ h_26 j (S.zlsj_9_v qA qB t10_l h_26 ⟨t11_, t12_⟩)) (S.zlsj_9_j qA qB t10_l h_26 ⟨t11_, t12_⟩) [0, 1]
 | _, _, _, _, _, _, _, _, _, _ => .bad
def T_zlsj_9 (st : St) : Tree := bif okSt 76 30 0 [19, 21, 26] st then T1_zlsj_9 (st.env.getD 0 .any) (st.env.getD 1 .any) (st.env.getD 2 .any) (st.env.getD 9 .any) (st.env.getD 10 .any) (st.env.getD 11 .any) (st.env.getD 12 .any) (lk st.heap 19) (lk st.heap 21) (lk st.heap 26) else .bad
def b_zlsj_9 : Code := loopBy Try.f26 9
theorem rnd_zlsj_9 (qA : ByteArray) (qC : Option Bool) (qD : Bool) (qB : List (Ty .evt)) (qE : Int) (qF : Bool) (t10_l : Nat) (h_19 : List (Ty .step)) (h21_l : Nat) (qG : Int) (qH : Int) (qI : Int) (qJ : Int) (h_26 : List (Ty .mat)) (v : S.zlsj_9_V) : round2 cx_zlsj (hdI cx_zlsj (find []) [] none 0) 26 b_zlsj_9 [] 30 [1, 2, 6, 9, 10, 11] (mk_zlsj_9 qA qC qD qB qE qF t10_l h_19 h21_l qG qH qI qJ h_26 v) = (S.zlsj_9_R qA qB t10_l h_26 v).go (roundOut (mk_zlsj_9 qA qC qD qB qE qF t10_l h_19 h21_l qG qH qI qJ h_26) (ex_zlsj_9 qA qC qD qB qE qF t10_l h_19 h21_l qG qH qI qJ h_26)) := by kernel_rfl
theorem bs_zlsj_9 : loopsOf b_zlsj_9 ++ loopsInl [] = [] := by kernel_rfl
theorem ci_zlsj_9 (qA : ByteArray) (qC : Option Bool) (qD : Bool) (qB : List (Ty .evt)) (qE : Int) (qF : Bool) (t10_l : Nat) (h_19 : List (Ty .step)) (h21_l : Nat) (qG : Int) (qH : Int) (qI : Int) (qJ : Int) (h_26 : List (Ty .mat)) : ∀ v j v2, Lp (S.zlsj_9_r qA qB t10_l h_26) v = some (j, v2) → Circles Try.prog cx_zlsj b_zlsj_9 (mk_zlsj_9 qA qC qD qB qE qF t10_l h_19 h21_l qG qH qI qJ h_26 v) (ex_zlsj_9 qA qC qD qB qE qF t10_l h_19 h21_l qG qH qI qJ h_26 j v2).1 (ex_zlsj_9 qA qC qD qB qE qF t10_l h_19 h21_l qG qH qI qJ h_26 j v2).2 :=
 loop_ok2 (L := find []) (n := 0) (hints := [(26, 9, { keep := [0, 1, 2, 9, 10, 11, 12], acc := [] })]) (cx_ok rfl) rdy_zlsj bs_zlsj_9 nilB (fun v => (rnd_zlsj_9 qA qC qD qB qE qF t10_l h_19 h21_l qG qH qI qJ h_26 v).trans (DT.go_run _ _)) (by intro j v; unfold ex_zlsj_9; split <;> rfl)
theorem mke_zlsj_9 (qA : ByteArray) (qC : Option Bool) (qD : Bool) (qB : List (Ty .evt)) (qE : Int) (qF : Bool) (t10_l : Nat) (h_19 : List (Ty .step)) (h21_l : Nat) (qG : Int) (qH : Int) (qI : Int) (qJ : Int) (h_26 : List (Ty .mat)) (v : S.zlsj_9_V) : mk_zlsj_9 qA qC qD qB qE qF t10_l h_19 h21_l qG qH qI qJ h_26 v = ⟨envOf 76 [(0, V.v false [C.d (.sc (.str qA))]), (1, V.v false [C.d (.sl qC qD .evt qB)]), (2, (cV qE)), (9, V.v false [C.ptr 21 0]), (10, V.v false [C.own 26 .mat qF 0 t10_l]), (11, (cV v.t11_)), (12, (cV v.t12_))], heapOf 30 [(19, some (Blk.arr 47 .step h_19)), (21, some
 (Blk.box 45
  [C.own 19 .step true 0 h21_l, (cI qG), (cI qH), (cI qI),
   (cI qJ)])), (26, some (Blk.arr 81 .mat h_26))], 0⟩ := by kernel_rfl
theorem lo1_zlsj_9 (e0 : V) (e1 : V) (e2 : V) (e9 : V) (e10 : V) (e11 : V) (e12 : V) (h19 : Option Blk) (h21 : Option Blk) (h26 : Option Blk) e st2 (h : (T1_zlsj_9 e0 e1 e2 e9 e10 e11 e12 h19 h21 h26).eval = some (e, st2)) : Circles Try.prog cx_zlsj b_zlsj_9 ⟨envOf 76 [(0, e0), (1, e1), (2, e2), (9, e9), (10, e10), (11, e11), (12, e12)], heapOf 30 [(19, h19), (21, h21), (26, h26)], 0⟩ e st2 := by
 unfold T1_zlsj_9 at h
 split at h
 ·have := loop_tree (mk := mk_zlsj_9 _ _ _ _ _ _ _ _ _ _ _ _ _ _) (ci_zlsj_9 _ _ _ _ _ _ _ _ _ _ _ _ _ _) _ _ e st2 h
  rw [mke_zlsj_9] at this
  exact this
 ·cases h
theorem lok_zlsj_9 : LoopOk Try.prog cx_zlsj b_zlsj_9 T_zlsj_9 := by
 intro st e st2 h
 unfold T_zlsj_9 at h
 cases hk : okSt 76 30 0 [19, 21, 26] st with
 | false => rw [hk] at h; cases h
 | true =>
  rw [hk] at h
  exact circles_keep (ks := [0, 1, 2, 9, 10, 11, 12]) hk (lo1_zlsj_9 _ _ _ _ _ _ _ _ _ _ e st2 h)
structure S.zlsj_T where
 x0 : Bool
 deriving Inhabited
def S.zlsj_R (a0 : ByteArray) (a1n : Option Bool) (a1f : Bool) (a1 : List (Ty .evt)) (a2 : Int) : DT S.zlsj_T :=
let y0 : Nat := 0 + 1
let y1 : Step := { name := a0, ifs := [], min := 1, max := 1, guard := false, notName := ByteArray.empty, notIf := [] : Step }
let y2 : Bool := xdec (y0 ≤ ((List.replicate 1 (dflt .step)).set 0 y1).length) && true && true
let y3 : List (Ty .step) := sub [y1] 0 y0
let y4 : S.all2_T := S.all2_o none true y3 0 0 0 0 a1n a1f a1 a2
let y5 : Nat := y4.x2
let y6 : List (Ty .mat) := y4.x0
let y7 : S.zlsj_9_V := { t11_ := 0, t12_ := 0 : S.zlsj_9_V }
(.br (S.zkyx_is)
(.br (S.zgwp_is a1 25)
(.br (xnot S.zkyx_o.x0)
(.leaf ⟨S.zkyx_o.x0⟩)
(.br (xnot (S.zgwp_o a1 25).x0)
(.leaf ⟨S.zkyx_o.x0⟩)
(.br (xdec ((↑a0.size : Int) > 60))
(.leaf ⟨S.zkyx_o.x0⟩)
(.br (y2 && S.all2_is none true y3 0 0 0 0 a1n a1f a1 a2)
(.br (S.zlsj_9_j a0 a1 y5 y6 y7 0)
(.leaf ⟨false⟩)
(.br (S.zlsj_9_j a0 a1 y5 y6 y7 1)
(.br (xeqI (S.zlsj_9_v a0 a1 y5 y6 y7).t11_ (↑y5 : Int))
(.br (y2 && S.zjsn_is y3 0 0 0 0 a1 a2)
(.leaf ⟨xeqI (S.zjsn_o y3 0 0 0 0 a1 a2).x0 (-1)⟩)
.fail)
(.leaf ⟨false⟩))
.fail))
.fail))))
.fail)
.fail)
def S.zlsj (a0 : ByteArray) (a1n : Option Bool) (a1f : Bool) (a1 : List (Ty .evt)) (a2 : Int) : Option S.zlsj_T := (S.zlsj_R a0 a1n a1f a1 a2).run
def S.zlsj_is (a0 : ByteArray) (a1n : Option Bool) (a1f : Bool) (a1 : List (Ty .evt)) (a2 : Int) : Bool := (S.zlsj a0 a1n a1f a1 a2).isSome
def S.zlsj_o (a0 : ByteArray) (a1n : Option Bool) (a1f : Bool) (a1 : List (Ty .evt)) (a2 : Int) : S.zlsj_T := (S.zlsj a0 a1n a1f a1 a2).getD default
def ret_zlsj (b : Bool) (r : S.zlsj_T) : Ret := ⟨b, none, [(false, [C.d (.sc (.bool r.x0))])]⟩
def g_zlsj : Con
 | [(false, [.sc (.str a0)]), (false, [.sl a1n a1f .evt a1]), (false, [.sc (.int .i64 a2)])] => some (ret_zlsj (S.zlsj_is a0 a1n a1f a1 a2) (S.zlsj_o a0 a1n a1f a1 a2))
 | _ => none
theorem raw_zlsj (a0 : ByteArray) (a1n : Option Bool) (a1f : Bool) (a1 : List (Ty .evt)) (a2 : Int) : evR2 cx_zlsj (hdI cx_zlsj (find [(9, T_zlsj_9)]) [] none 0) none Try.f26 26 none [(false, [.sc (.str a0)]), (false, [.sl a1n a1f .evt a1]), (false, [.sc (.int .i64 a2)])] some = (S.zlsj_R a0 a1n a1f a1 a2).go (ret_zlsj true) := by kernel_rfl
theorem bs_zlsj : loopsIn Try.f26 [] = [b_zlsj_9] := by kernel_rfl
theorem zlsj_ok : Stands Try.prog tyTab 26 g_zlsj := by
 refine stands3 (L := find [(9, T_zlsj_9)]) (n := 0) (hints := [(26, 9, { keep := [0, 1, 2, 9, 10, 11, 12], acc := [] })]) (cx_ok rfl) rdy_zlsj ⟨by kernel_rfl, by kernel_rfl, by kernel_rfl⟩ bs_zlsj (consB (fun T h => by have e : T_zlsj_9 = T := Option.some.inj (show some T_zlsj_9 = some T from h); exact e ▸ lok_zlsj_9) nilB) (fun das r hG hr => ?_)
 unfold g_zlsj at hG
 split at hG
 ·rename_i a0 a1n a1f a1 a2
  injection hG with hG; subst hG
  exact ⟨none, true, win default ((raw_zlsj a0 a1n a1f a1 a2).trans (DT.go_run _ _)) hr⟩
 ·cases hG
end
end Go.Eng
