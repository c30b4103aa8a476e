/- Contracts, laid by program. -/
import Derived.Test.YtbjeikmkngcjlaaZG8
set_option linter.unusedVariables false
namespace Go.Eng
noncomputable section
open Go Go.Eng Go.Proofs Go.Eng.Tab
abbrev cx_z52o : Cx := mkCx2 tyTab [(50, g_zydq), (51, g_zjar), (55, g_z2oj), (58, g_zxf7), (59, g_z2yo), (60, g_zgwp), (61, g_zpf4), (62, g_zhdz)] [] [(999999, 0, { keep := [], acc := [] }), (18, 15, { keep := [1, 5, 12, 14], acc := [] }), (18, 8, { keep := [1, 3, 5, 11], acc := [] })] []
theorem rdy_z52o : Ready Try.prog tyTab [(50, g_zydq), (51, g_zjar), (55, g_z2oj), (58, g_zxf7), (59, g_z2yo), (60, g_zgwp), (61, g_zpf4), (62, g_zhdz)] [] [] := ⟨consG2 zydq_ok (consG2 zjar_ok (consG2 z2oj_ok (consG2 zxf7_ok (consG2 z2yo_ok (consG2 zgwp_ok (consG2 zpf4_ok (consG2 zhdz_ok (noneG2)))))))), noneI2, noneF2⟩
structure S.z52o_8_V where
 t11_ : Int
def S.z52o_8_R (qA : List (Ty .step)) (qB : ByteArray) (v : S.z52o_8_V) : DT (Option Nat × S.z52o_8_V) :=
let y0 : Bool := xdec (v.t11_ < (↑qA.length : Int))
let y1 : Bool := xdec (0 ≤ v.t11_) && y0
let y2 : Ty .step := qA.getD v.t11_.toNat (dflt .step)
let y3 : Int := xwrap .i64 (v.t11_ + 1)
(.br (y0)
(.br (y1)
(.br (xdec (y2.name = qB))
(.leaf (some 0, v))
(.br (y1)
(.br (y2.guard)
(.br (y1)
(.br (xdec (y2.notName = qB))
(.leaf (some 0, v))
(.leaf (none, ⟨y3⟩)))
.fail)
(.leaf (none, ⟨y3⟩)))
.fail))
.fail)
(.leaf (some 1, v)))
def S.z52o_8_r (qA : List (Ty .step)) (qB : ByteArray) (v : S.z52o_8_V) : Option (Option Nat × S.z52o_8_V) := (S.z52o_8_R qA qB v).run
def S.z52o_8_j (qA : List (Ty .step)) (qB : ByteArray) (v : S.z52o_8_V) (j : Nat) : Bool := Lp_j (S.z52o_8_r qA qB) v j
def S.z52o_8_v (qA : List (Ty .step)) (qB : ByteArray) (v : S.z52o_8_V) : S.z52o_8_V := Lp_v (S.z52o_8_r qA qB) v
def mk_z52o_8 (qC : Option Bool) (qD : Bool) (qE : List (Ty .evt)) (qF : Option Bool) (qG : Bool) (qA : List (Ty .step)) (qH : Int) (qI : Int) (qJ : Int) (qK : Int) (qB : ByteArray) (h_1_1 : Int) (qL : Option Bool) (qM : Bool) (qN : List (Ty .val)) (h_11 : List (Ty .evt)) (h_12 : List (Ty .evt)) (v : S.z52o_8_V) : St := ⟨(V.any :: (V.v false [C.d (.sl qC qD .evt qE)] :: (V.any :: (V.v false [C.ptr 0 0] :: (V.any :: (V.v false [C.ptr 1 0] :: (vs 5 ((cV v.t11_) :: (vs 119 []))))))))), (some (Blk.box 45 [C.d (.sl qF qG .step qA), (cI qH), (cI qI), (cI qJ), (cI qK)]) :: (some (Blk.box 29 [C.d (.sc (.str qB)), (cI h_1_1), C.d (.sl qL qM .val qN)]) :: (ns 9 (some (Blk.arr 29 .evt h_11) :: (some (Blk.arr 29 .evt h_12) :: (ns 20 [])))))), 0⟩
def ex_z52o_8 (qC : Option Bool) (qD : Bool) (qE : List (Ty .evt)) (qF : Option Bool) (qG : Bool) (qA : List (Ty .step)) (qH : Int) (qI : Int) (qJ : Int) (qK : Int) (qB : ByteArray) (h_1_1 : Int) (qL : Option Bool) (qM : Bool) (qN : List (Ty .val)) (h_11 : List (Ty .evt)) (h_12 : List (Ty .evt)) (j : Nat) (v : S.z52o_8_V) : Ex × St := match j with
 | 0 => (Ex.ret, ⟨(V.any :: (V.v false [C.d (.sl qC qD .evt qE)] :: (V.any :: (V.v false [C.ptr 0 0] :: (V.any :: (V.v false [C.ptr 1 0] :: (V.v false [C.d (.sc (.bool true))] :: (vs 124 [])))))))), (some
  (Blk.box 45
   [C.d (.sl qF qG .step qA), (cI qH), (cI qI), (cI qJ),
    (cI qK)]) :: (some (Blk.box 29 [C.d (.sc (.str qB)), (cI h_1_1), C.d (.sl qL qM .val qN)]) :: (ns 9 (some (Blk.arr 29 .evt h_11) :: (some (Blk.arr 29 .evt h_12) :: (ns 54 [])))))), 0⟩)
 | 1 => (Ex.exit 0, ⟨(V.any :: (V.v false [C.d (.sl qC qD .evt qE)] :: (V.any :: (V.v false [C.ptr 0 0] :: (V.any :: (V.v false [C.ptr 1 0] :: (vs 125 []))))))), (some
  (Blk.box 45
   [C.d (.sl qF qG .step qA), (cI qH), (cI qI), (cI qJ),
    (cI qK)]) :: (some (Blk.box 29 [C.d (.sc (.str qB)), (cI h_1_1), C.d (.sl qL qM .val qN)]) :: (ns 9 (some (Blk.arr 29 .evt h_11) :: (some (Blk.arr 29 .evt h_12) :: (ns 25 [])))))), 0⟩)
 | _ => (.ret, ⟨[], [], 0⟩)
def T1_z52o_8 : V → V → V → V → Option Blk → Option Blk → Option Blk → Option Blk → Tree
 | V.v false [C.d (.sl qC qD .evt qE)], V.v false [C.ptr 0 0], V.v false [C.ptr 1 0], V.v false [C.d (.sc (.int .i64 t11_))], some (Blk.box 45 [C.d (.sl qF qG .step qA), C.d (.sc (.int .i64 qH)), C.d (.sc (.int .i64 qI)), C.d (.sc (.int .i64 qJ)), C.d (.sc (.int .i64 qK))]), some (Blk.box 29 [C.d (.sc (.str qB)), C.d (.sc (.int .i64 h_1_1)), C.d (.sl qL qM .val qN)]), some (Blk.arr 29 .evt h_11), some (Blk.arr 29 .evt h_12) => exT (fun j => ex_z52o_8 qC qD qE qF qG qA qH qI qJ qK qB h_1_1 qL qM qN h_11 h_12 j (S.z52o_8_v qA qB ⟨t11_⟩)) (S.z52o_8_j qA qB ⟨t11_⟩) [0, 1]
 | _, _, _, _, _, _, _, _ => .bad
def T_z52o_8 (st : St) : Tree := bif okSt 131 33 0 [0, 1, 11, 12] st then T1_z52o_8 (st.env.getD 1 .any) (st.env.getD 3 .any) (st.env.getD 5 .any) (st.env.getD 11 .any) (lk st.heap 0) (lk st.heap 1) (lk st.heap 11) (lk st.heap 12) else .bad
def b_z52o_8 : Code := loopBy Try.f18 8
theorem rnd_z52o_8 (qC : Option Bool) (qD : Bool) (qE : List (Ty .evt)) (qF : Option Bool) (qG : Bool) (qA : List (Ty .step)) (qH : Int) (qI : Int) (qJ : Int) (qK : Int) (qB : ByteArray) (h_1_1 : Int) (qL : Option Bool) (qM : Bool) (qN : List (Ty .val)) (h_11 : List (Ty .evt)) (h_12 : List (Ty .evt)) (v : S.z52o_8_V) : round2 cx_z52o (hdI cx_z52o (find []) [] none 0) 18 b_z52o_8 [] 33 [1, 3, 5, 6] (mk_z52o_8 qC qD qE qF qG qA qH qI qJ qK qB h_1_1 qL qM qN h_11 h_12 v) = (S.z52o_8_R qA qB v).go (roundOut (mk_z52o_8 qC qD qE qF qG qA qH qI qJ qK qB h_1_1 qL qM qN h_11 h_12) (ex_z52o_8 qC qD qE qF qG qA qH qI qJ qK qB h_1_1 qL qM qN h_11 h_12)) := by kernel_rfl
theorem bs_z52o_8 : loopsOf b_z52o_8 ++ loopsInl [] = [] := by kernel_rfl
theorem ci_z52o_8 (qC : Option Bool) (qD : Bool) (qE : List (Ty .evt)) (qF : Option Bool) (qG : Bool) (qA : List (Ty .step)) (qH : Int) (qI : Int) (qJ : Int) (qK : Int) (qB : ByteArray) (h_1_1 : Int) (qL : Option Bool) (qM : Bool) (qN : List (Ty .val)) (h_11 : List (Ty .evt)) (h_12 : List (Ty .evt)) : ∀ v j v2, Lp (S.z52o_8_r qA qB) v = some (j, v2) → Circles Try.prog cx_z52o b_z52o_8 (mk_z52o_8 qC qD qE qF qG qA qH qI qJ qK qB h_1_1 qL qM qN h_11 h_12 v) (ex_z52o_8 qC qD qE qF qG qA qH qI qJ qK qB h_1_1 qL qM qN h_11 h_12 j v2).1 (ex_z52o_8 qC qD qE qF qG qA qH qI qJ qK qB h_1_1 qL qM qN h_11 h_12 j v2).2 :=
 loop_ok2 (L := find []) (n := 0) (hints := [(999999, 0, { keep := [], acc := [] }), (18, 15, { keep := [1, 5, 12, 14], acc := [] }), (18, 8, { keep := [1, 3, 5, 11], acc := [] })]) (cx_ok rfl) rdy_z52o bs_z52o_8 nilB (fun v => (rnd_z52o_8 qC qD qE qF qG qA qH qI qJ qK qB h_1_1 qL qM qN h_11 h_12 v).trans (DT.go_run _ _)) (by intro j v; unfold ex_z52o_8; split <;> rfl)
theorem mke_z52o_8 (qC : Option Bool) (qD : Bool) (qE : List (Ty .evt)) (qF : Option Bool) (qG : Bool) (qA : List (Ty .step)) (qH : Int) (qI : Int) (qJ : Int) (qK : Int) (qB : ByteArray) (h_1_1 : Int) (qL : Option Bool) (qM : Bool) (qN : List (Ty .val)) (h_11 : List (Ty .evt)) (h_12 : List (Ty .evt)) (v : S.z52o_8_V) : mk_z52o_8 qC qD qE qF qG qA qH qI qJ qK qB h_1_1 qL qM qN h_11 h_12 v = ⟨envOf 131 [(1, V.v false [C.d (.sl qC qD .evt qE)]), (3, V.v false [C.ptr 0 0]), (5, V.v false [C.ptr 1 0]), (11, (cV v.t11_))], heapOf 33 [(0, some
 (Blk.box 45
  [C.d (.sl qF qG .step qA), (cI qH), (cI qI), (cI qJ),
   (cI qK)])), (1, some (Blk.box 29 [C.d (.sc (.str qB)), (cI h_1_1), C.d (.sl qL qM .val qN)])), (11, some (Blk.arr 29 .evt h_11)), (12, some (Blk.arr 29 .evt h_12))], 0⟩ := by kernel_rfl
theorem lo1_z52o_8 (e1 : V) (e3 : V) (e5 : V) (e11 : V) (h0 : Option Blk) (h1 : Option Blk) (h11 : Option Blk) (h12 : Option Blk) e st2 (h : (T1_z52o_8 e1 e3 e5 e11 h0 h1 h11 h12).eval = some (e, st2)) : Circles Try.prog cx_z52o b_z52o_8 ⟨envOf 131 [(1, e1), (3, e3), (5, e5), (11, e11)], heapOf 33 [(0, h0), (1, h1), (11, h11), (12, h12)], 0⟩ e st2 := by
 unfold T1_z52o_8 at h
 split at h
 ·have := loop_tree (mk := mk_z52o_8 _ _ _ _ _ _ _ _ _ _ _ _ _ _ _ _ _) (ci_z52o_8 _ _ _ _ _ _ _ _ _ _ _ _ _ _ _ _ _) _ _ e st2 h
  rw [mke_z52o_8] at this
  exact this
 ·cases h
theorem lok_z52o_8 : LoopOk Try.prog cx_z52o b_z52o_8 T_z52o_8 := by
 intro st e st2 h
 unfold T_z52o_8 at h
 cases hk : okSt 131 33 0 [0, 1, 11, 12] st with
 | false => rw [hk] at h; cases h
 | true =>
  rw [hk] at h
  exact circles_keep (ks := [1, 3, 5, 11]) hk (lo1_z52o_8 _ _ _ _ _ _ _ _ e st2 h)
structure S.z52o_15_V where
 t14_ : Int
 h_1_1 : Int
def S.z52o_15_R (qO : List (Ty .run)) (v : S.z52o_15_V) : DT (Option Nat × S.z52o_15_V) :=
let y0 : Bool := xdec (v.t14_ < (↑qO.length : Int))
let y1 : Bool := xdec (0 ≤ v.t14_) && y0
let y2 : Int := xwrap .i64 (v.t14_ + 1)
let y3 : Int := (qO.getD v.t14_.toNat (dflt .run)).at_
(.br (y0)
(.br (xeqI v.t14_ 0)
(.br (y1)
(.leaf (none, ⟨y2, y3⟩))
.fail)
(.br (y1)
(.br (xdec (y3 < v.h_1_1))
(.br (y1)
(.leaf (none, ⟨y2, y3⟩))
.fail)
(.leaf (none, ⟨y2, v.h_1_1⟩)))
.fail))
(.leaf (some 0, v)))
def S.z52o_15_r (qO : List (Ty .run)) (v : S.z52o_15_V) : Option (Option Nat × S.z52o_15_V) := (S.z52o_15_R qO v).run
def S.z52o_15_j (qO : List (Ty .run)) (v : S.z52o_15_V) (j : Nat) : Bool := Lp_j (S.z52o_15_r qO) v j
def S.z52o_15_v (qO : List (Ty .run)) (v : S.z52o_15_V) : S.z52o_15_V := Lp_v (S.z52o_15_r qO) v
def mk_z52o_15 (qC : Option Bool) (qD : Bool) (qE : List (Ty .evt)) (qF : Option Bool) (qG : Bool) (qA : List (Ty .step)) (qH : Int) (qI : Int) (qJ : Int) (qK : Int) (qB : ByteArray) (qL : Option Bool) (qM : Bool) (qN : List (Ty .val)) (h_11 : List (Ty .evt)) (h_12 : List (Ty .evt)) (qP : List (Ty .step)) (qQ : Int) (qR : Int) (qS : Int) (qT : Int) (qO : List (Ty .run)) (qU : Int) (v : S.z52o_15_V) : St := ⟨(V.any :: (V.v false [C.d (.sl qC qD .evt qE)] :: (vs 3 (V.v false [C.ptr 1 0] :: (vs 6 (V.v false [C.ptr 45 0] :: (V.any :: ((cV v.t14_) :: (vs 116 []))))))))), (some (Blk.box 45 [C.d (.sl qF qG .step qA), (cI qH), (cI qI), (cI qJ), (cI qK)]) :: (some (Blk.box 29 [C.d (.sc (.str qB)), (cI v.h_1_1), C.d (.sl qL qM .val qN)]) :: (ns 9 (some (Blk.arr 29 .evt h_11) :: (some (Blk.arr 29 .evt h_12) :: (ns 32 (some (Blk.box 71 [C.d (.sl none false .step qP), (cI qQ), (cI qR), (cI qS), (cI qT), C.d (.sl none false .run qO), (cI qU)]) :: (ns 5 [])))))))), 0⟩
def ex_z52o_15 (qC : Option Bool) (qD : Bool) (qE : List (Ty .evt)) (qF : Option Bool) (qG : Bool) (qA : List (Ty .step)) (qH : Int) (qI : Int) (qJ : Int) (qK : Int) (qB : ByteArray) (qL : Option Bool) (qM : Bool) (qN : List (Ty .val)) (h_11 : List (Ty .evt)) (h_12 : List (Ty .evt)) (qP : List (Ty .step)) (qQ : Int) (qR : Int) (qS : Int) (qT : Int) (qO : List (Ty .run)) (qU : Int) (j : Nat) (v : S.z52o_15_V) : Ex × St := match j with
 | 0 => (Ex.exit 2, ⟨(V.any :: (V.v false [C.d (.sl qC qD .evt qE)] :: (vs 3 (V.v false [C.ptr 1 0] :: (vs 6 (V.v false [C.ptr 45 0] :: (vs 118 []))))))), (some
  (Blk.box 45
   [C.d (.sl qF qG .step qA), (cI qH), (cI qI), (cI qJ),
    (cI qK)]) :: (some (Blk.box 29 [C.d (.sc (.str qB)), (cI v.h_1_1), C.d (.sl qL qM .val qN)]) :: (ns 9 (some (Blk.arr 29 .evt h_11) :: (some (Blk.arr 29 .evt h_12) :: (ns 32 (some
  (Blk.box 71
   [C.d (.sl none false .step qP), (cI qQ), (cI qR), (cI qS),
    (cI qT), C.d (.sl none false .run qO), (cI qU)]) :: (ns 10 [])))))))), 0⟩)
 | _ => (.ret, ⟨[], [], 0⟩)
def T1_z52o_15 : V → V → V → V → Option Blk → Option Blk → Option Blk → Option Blk → Option Blk → Tree
 | V.v false [C.d (.sl qC qD .evt qE)], V.v false [C.ptr 1 0], V.v false [C.ptr 45 0], V.v false [C.d (.sc (.int .i64 t14_))], some (Blk.box 45 [C.d (.sl qF qG .step qA), C.d (.sc (.int .i64 qH)), C.d (.sc (.int .i64 qI)), C.d (.sc (.int .i64 qJ)), C.d (.sc (.int .i64 qK))]), some (Blk.box 29 [C.d (.sc (.str qB)), C.d (.sc (.int .i64 h_1_1)), C.d (.sl qL qM .val qN)]), some (Blk.arr 29 .evt h_11), some (Blk.arr 29 .evt h_12), some (Blk.box 71 [C.d (.sl none false .step qP), C.d (.sc (.int .i64 qQ)), C.d (.sc (.int .i64 qR)), C.d (.sc (.int .i64 qS)), C.d (.sc (.int .i64 qT)), C.d (.sl none false .run qO), C.d (.sc (.int .i64 qU))]) => exT (fun j => ex_z52o_15 qC qD qE qF qG qA qH qI qJ qK qB qL qM qN h_11 h_12 qP qQ qR qS qT qO qU j (S.z52o_15_v qO ⟨t14_, h_1_1⟩)) (S.z52o_15_j qO ⟨t14_, h_1_1⟩) [0]
 | _, _, _, _, _, _, _, _, _ => .bad
def T_z52o_15 (st : St) : Tree := bif okSt 131 51 0 [0, 1, 11, 12, 45] st then T1_z52o_15 (st.env.getD 1 .any) (st.env.getD 5 .any) (st.env.getD 12 .any) (st.env.getD 14 .any) (lk st.heap 0) (lk st.heap 1) (lk st.heap 11) (lk st.heap 12) (lk st.heap 45) else .bad
def b_z52o_15 : Code := loopBy Try.f18 15
theorem rnd_z52o_15 (qC : Option Bool) (qD : Bool) (qE : List (Ty .evt)) (qF : Option Bool) (qG : Bool) (qA : List (Ty .step)) (qH : Int) (qI : Int) (qJ : Int) (qK : Int) (qB : ByteArray) (qL : Option Bool) (qM : Bool) (qN : List (Ty .val)) (h_11 : List (Ty .evt)) (h_12 : List (Ty .evt)) (qP : List (Ty .step)) (qQ : Int) (qR : Int) (qS : Int) (qT : Int) (qO : List (Ty .run)) (qU : Int) (v : S.z52o_15_V) : round2 cx_z52o (hdI cx_z52o (find [(8, T_z52o_8)]) [] none 0) 18 b_z52o_15 [] 51 [1, 5, 12] (mk_z52o_15 qC qD qE qF qG qA qH qI qJ qK qB qL qM qN h_11 h_12 qP qQ qR qS qT qO qU v) = (S.z52o_15_R qO v).go (roundOut (mk_z52o_15 qC qD qE qF qG qA qH qI qJ qK qB qL qM qN h_11 h_12 qP qQ qR qS qT qO qU) (ex_z52o_15 qC qD qE qF qG qA qH qI qJ qK qB qL qM qN h_11 h_12 qP qQ qR qS qT qO qU)) := by kernel_rfl
theorem bs_z52o_15 : loopsOf b_z52o_15 ++ loopsInl [] = [] := by kernel_rfl
theorem ci_z52o_15 (qC : Option Bool) (qD : Bool) (qE : List (Ty .evt)) (qF : Option Bool) (qG : Bool) (qA : List (Ty .step)) (qH : Int) (qI : Int) (qJ : Int) (qK : Int) (qB : ByteArray) (qL : Option Bool) (qM : Bool) (qN : List (Ty .val)) (h_11 : List (Ty .evt)) (h_12 : List (Ty .evt)) (qP : List (Ty .step)) (qQ : Int) (qR : Int) (qS : Int) (qT : Int) (qO : List (Ty .run)) (qU : Int) : ∀ v j v2, Lp (S.z52o_15_r qO) v = some (j, v2) → Circles Try.prog cx_z52o b_z52o_15 (mk_z52o_15 qC qD qE qF qG qA qH qI qJ qK qB qL qM qN h_11 h_12 qP qQ qR qS qT qO qU v) (ex_z52o_15 qC qD qE qF qG qA qH qI qJ qK qB qL qM qN h_11 h_12 qP qQ qR qS qT qO qU j v2).1 (ex_z52o_15 qC qD qE qF qG qA qH qI qJ qK qB qL qM qN h_11 h_12 qP qQ qR qS qT qO qU j v2).2 :=
 loop_ok2 (L := find [(8, T_z52o_8)]) (n := 0) (hints := [(999999, 0, { keep := [], acc := [] }), (18, 15, { keep := [1, 5, 12, 14], acc := [] }), (18, 8, { keep := [1, 3, 5, 11], acc := [] })]) (cx_ok rfl) rdy_z52o bs_z52o_15 nilB (fun v => (rnd_z52o_15 qC qD qE qF qG qA qH qI qJ qK qB qL qM qN h_11 h_12 qP qQ qR qS qT qO qU v).trans (DT.go_run _ _)) (by intro j v; unfold ex_z52o_15; split <;> rfl)
theorem mke_z52o_15 (qC : Option Bool) (qD : Bool) (qE : List (Ty .evt)) (qF : Option Bool) (qG : Bool) (qA : List (Ty .step)) (qH : Int) (qI : Int) (qJ : Int) (qK : Int) (qB : ByteArray) (qL : Option Bool) (qM : Bool) (qN : List (Ty .val)) (h_11 : List (Ty .evt)) (h_12 : List (Ty .evt)) (qP : List (Ty .step)) (qQ : Int) (qR : Int) (qS : Int) (qT : Int) (qO : List (Ty .run)) (qU : Int) (v : S.z52o_15_V) : mk_z52o_15 qC qD qE qF qG qA qH qI qJ qK qB qL qM qN h_11 h_12 qP qQ qR qS qT qO qU v = ⟨envOf 131 [(1, V.v false [C.d (.sl qC qD .evt qE)]), (5, V.v false [C.ptr 1 0]), (12, V.v false [C.ptr 45 0]), (14, (cV v.t14_))], heapOf 51 [(0, some
 (Blk.box 45
  [C.d (.sl qF qG .step qA), (cI qH), (cI qI), (cI qJ),
   (cI qK)])), (1, some (Blk.box 29 [C.d (.sc (.str qB)), (cI v.h_1_1), C.d (.sl qL qM .val qN)])), (11, some (Blk.arr 29 .evt h_11)), (12, some (Blk.arr 29 .evt h_12)), (45, some
 (Blk.box 71
  [C.d (.sl none false .step qP), (cI qQ), (cI qR), (cI qS),
   (cI qT), C.d (.sl none false .run qO), (cI qU)]))], 0⟩ := by kernel_rfl
theorem lo1_z52o_15 (e1 : V) (e5 : V) (e12 : V) (e14 : V) (h0 : Option Blk) (h1 : Option Blk) (h11 : Option Blk) (h12 : Option Blk) (h45 : Option Blk) e st2 (h : (T1_z52o_15 e1 e5 e12 e14 h0 h1 h11 h12 h45).eval = some (e, st2)) : Circles Try.prog cx_z52o b_z52o_15 ⟨envOf 131 [(1, e1), (5, e5), (12, e12), (14, e14)], heapOf 51 [(0, h0), (1, h1), (11, h11), (12, h12), (45, h45)], 0⟩ e st2 := by
 unfold T1_z52o_15 at h
 split at h
 ·have := loop_tree (mk := mk_z52o_15 _ _ _ _ _ _ _ _ _ _ _ _ _ _ _ _ _ _ _ _ _ _ _) (ci_z52o_15 _ _ _ _ _ _ _ _ _ _ _ _ _ _ _ _ _ _ _ _ _ _ _) _ _ e st2 h
  rw [mke_z52o_15] at this
  exact this
 ·cases h
theorem lok_z52o_15 : LoopOk Try.prog cx_z52o b_z52o_15 T_z52o_15 := by
 intro st e st2 h
 unfold T_z52o_15 at h
 cases hk : okSt 131 51 0 [0, 1, 11, 12, 45] st with
 | false => rw [hk] at h; cases h
 | true =>
  rw [hk] at h
  exact circles_keep (ks := [1, 5, 12, 14]) hk (lo1_z52o_15 _ _ _ _ _ _ _ _ _ e st2 h)
structure S.z52o_T where
 x0 : Bool
 deriving Inhabited
def S.z52o_R (a0_0 : List (Ty .step)) (a0_1 : Int) (a0_2 : Int) (a0_3 : Int) (a0_4 : Int) (a1 : List (Ty .evt)) (a2_0 : ByteArray) (a2_1 : Int) (a2_2 : List (Ty .val)) : DT S.z52o_T :=
let y0 : Nat := a1.length
let y1 : Evt := { name := a2_0, at_ := a2_1, v := a2_2 : Evt }
let y2 : Nat := y0 + 1
let y3 : Nat := 0 + y2
let y4 : List (Ty .evt) := List.take y0 a1 ++ [y1]
let y5 : List (Ty .evt) := sub y4 0 y3
let y6 : S.z52o_8_V := { t11_ := 0 : S.z52o_8_V }
let y7 : S.zpf4_T := S.zpf4_o a0_0 a0_1 a0_2 a0_3 a0_4
let y8 : List (Ty .step) := y7.x0
let y9 : Int := y7.x1
let y10 : Int := y7.x2
let y11 : Int := y7.x3
let y12 : Int := y7.x4
let y13 : List (Ty .run) := y7.x5
let y14 : Int := y7.x6
let y15 : S.zhdz_T := S.zhdz_o none false y8 y9 y10 y11 y12 none false y13 y14 a1 0
let y16 : List (Ty .run) := y15.x5
let y17 : S.z52o_15_V := { t14_ := 0, h_1_1 := 0 : S.z52o_15_V }
let y18 : List (Ty .step) := y15.x0
let y19 : Int := y15.x1
let y20 : Int := y15.x2
let y21 : Int := y15.x3
let y22 : Int := y15.x4
let y23 : Int := y15.x6
let y24 : Int := (S.z52o_15_v y16 y17).h_1_1
let y25 : Int := (↑y0 : Int)
let y26 : S.zxf7_T := S.zxf7_o y18 y19 y20 y21 y22 y16 y23 a2_0 y24 a2_2 y25
let y27 : List (Ty .step) := y26.x0
let y28 : Int := y26.x1
let y29 : Int := y26.x2
let y30 : Int := y26.x3
let y31 : Int := y26.x4
let y32 : List (Ty .run) := y26.x5
let y33 : Int := y26.x6
(.br (S.z2oj_is)
(.br (S.zydq_is a0_0)
(.br (xdec (y0 * 48 ≤ 140737488355328))
(.br (xdec (0 + 1 ≤ ((List.replicate 1 (dflt .evt)).set 0 y1).length) && xdec (y0 ≤ y0) && xdec (y2 * 48 ≤ 140737488355328))
(.br (xdec (y3 ≤ y4.length) && true && true && S.zgwp_is y5 26)
(.br (S.zjar_is a0_0 a0_1 a0_2 a0_3 a0_4)
(.br (xnot S.z2oj_o.x0)
(.leaf ⟨S.z2oj_o.x0⟩)
(.br (xnot (S.zydq_o a0_0).x0)
(.leaf ⟨S.z2oj_o.x0⟩)
(.br (xnot (S.zgwp_o y5 26).x0)
(.leaf ⟨S.z2oj_o.x0⟩)
(.br (xnot (S.zjar_o a0_0 a0_1 a0_2 a0_3 a0_4).x0)
(.leaf ⟨S.z2oj_o.x0⟩)
(.br (S.z52o_8_j a0_0 a2_0 y6 0)
(.leaf ⟨true⟩)
(.br (S.z52o_8_j a0_0 a2_0 y6 1)
(.br (S.zhdz_is none false y8 y9 y10 y11 y12 none false y13 y14 a1 0)
(.br (S.z52o_15_j y16 y17 0)
(.br (S.zxf7_is y18 y19 y20 y21 y22 y16 y23 a2_0 y24 a2_2 y25)
(.br (S.z2yo_is y27 y28 y29 y30 y31 y32 y33 y18 y19 y20 y21 y22 y16 y23)
(.br ((S.z2yo_o y27 y28 y29 y30 y31 y32 y33 y18 y19 y20 y21 y22 y16 y23).x0)
(.leaf ⟨xeqI (↑y26.x7.length : Int) 0⟩)
(.leaf ⟨false⟩))
.fail)
.fail)
.fail)
.fail)
.fail))))))
.fail)
.fail)
.fail)
.fail)
.fail)
.fail)
def S.z52o (a0_0 : List (Ty .step)) (a0_1 : Int) (a0_2 : Int) (a0_3 : Int) (a0_4 : Int) (a1 : List (Ty .evt)) (a2_0 : ByteArray) (a2_1 : Int) (a2_2 : List (Ty .val)) : Option S.z52o_T := (S.z52o_R a0_0 a0_1 a0_2 a0_3 a0_4 a1 a2_0 a2_1 a2_2).run
def S.z52o_is (a0_0 : List (Ty .step)) (a0_1 : Int) (a0_2 : Int) (a0_3 : Int) (a0_4 : Int) (a1 : List (Ty .evt)) (a2_0 : ByteArray) (a2_1 : Int) (a2_2 : List (Ty .val)) : Bool := (S.z52o a0_0 a0_1 a0_2 a0_3 a0_4 a1 a2_0 a2_1 a2_2).isSome
def S.z52o_o (a0_0 : List (Ty .step)) (a0_1 : Int) (a0_2 : Int) (a0_3 : Int) (a0_4 : Int) (a1 : List (Ty .evt)) (a2_0 : ByteArray) (a2_1 : Int) (a2_2 : List (Ty .val)) : S.z52o_T := (S.z52o a0_0 a0_1 a0_2 a0_3 a0_4 a1 a2_0 a2_1 a2_2).getD default
def ret_z52o (b : Bool) (r : S.z52o_T) : Ret := ⟨b, none, [(false, [C.d (.sc (.bool r.x0))])]⟩
def g_z52o : Con
 | [(true, [.sl a0_0n a0_0f .step a0_0, .sc (.int .i64 a0_1), .sc (.int .i64 a0_2), .sc (.int .i64 a0_3), .sc (.int .i64 a0_4)]), (false, [.sl a1n a1f .evt a1]), (true, [.sc (.str a2_0), .sc (.int .i64 a2_1), .sl a2_2n a2_2f .val a2_2])] => some (ret_z52o (S.z52o_is a0_0 a0_1 a0_2 a0_3 a0_4 a1 a2_0 a2_1 a2_2) (S.z52o_o a0_0 a0_1 a0_2 a0_3 a0_4 a1 a2_0 a2_1 a2_2))
 | _ => none
theorem raw_z52o (a0_0n : Option Bool) (a0_0f : Bool) (a0_0 : List (Ty .step)) (a0_1 : Int) (a0_2 : Int) (a0_3 : Int) (a0_4 : Int) (a1n : Option Bool) (a1f : Bool) (a1 : List (Ty .evt)) (a2_0 : ByteArray) (a2_1 : Int) (a2_2n : Option Bool) (a2_2f : Bool) (a2_2 : List (Ty .val)) : evR2 cx_z52o (hdI cx_z52o (find [(8, T_z52o_8), (15, T_z52o_15)]) [] none 0) none Try.f18 18 none [(true, [.sl a0_0n a0_0f .step a0_0, .sc (.int .i64 a0_1), .sc (.int .i64 a0_2), .sc (.int .i64 a0_3), .sc (.int .i64 a0_4)]), (false, [.sl a1n a1f .evt a1]), (true, [.sc (.str a2_0), .sc (.int .i64 a2_1), .sl a2_2n a2_2f .val a2_2])] some = (S.z52o_R a0_0 a0_1 a0_2 a0_3 a0_4 a1 a2_0 a2_1 a2_2).go (ret_z52o true) := by kernel_rfl
theorem bs_z52o : loopsIn Try.f18 [] = [b_z52o_8, b_z52o_15] := by kernel_rfl
theorem z52o_ok : Stands Try.prog tyTab 18 g_z52o := by
 refine stands3 (L := find [(8, T_z52o_8), (15, T_z52o_15)]) (n := 0) (hints := [(999999, 0, { keep := [], acc := [] }), (18, 15, { keep := [1, 5, 12, 14], acc := [] }), (18, 8, { keep := [1, 3, 5, 11], acc := [] })]) (cx_ok rfl) rdy_z52o ⟨by kernel_rfl, by kernel_rfl, by kernel_rfl⟩ bs_z52o (consB (fun T h => by have e : T_z52o_8 = T := Option.some.inj (show some T_z52o_8 = some T from h); exact e ▸ lok_z52o_8) (consB (fun T h => by have e : T_z52o_15 = T := Option.some.inj (show some T_z52o_15 = some T from h); exact e ▸ lok_z52o_15) nilB)) (fun das r hG hr => ?_)
 unfold g_z52o at hG
 split at hG
 ·rename_i a0_0n a0_0f a0_0 a0_1 a0_2 a0_3 a0_4 a1n a1f a1 a2_0 a2_1 a2_2n a2_2f a2_2
  injection hG with hG; subst hG
  exact ⟨none, true, win default ((raw_z52o a0_0n a0_0f a0_0 a0_1 a0_2 a0_3 a0_4 a1n a1f a1 a2_0 a2_1 a2_2n a2_2f a2_2).trans (DT.go_run _ _)) hr⟩
 ·cases hG
end
end Go.Eng
