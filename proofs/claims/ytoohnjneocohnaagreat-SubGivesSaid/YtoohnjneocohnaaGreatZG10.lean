/- Contracts, laid by program. -/
import Derived.Test.YtoohnjneocohnaaGreatZG9
import Derived.Test.YtoohnjneocohnaaGreatZE3
set_option maxHeartbeats 2000000
set_option maxRecDepth 10000
set_option linter.unusedVariables false
namespace Go.Eng
noncomputable section
open Go Go.Eng Go.Proofs Go.Eng.Tab
abbrev cx_zhhg : Cx := mkCx2 tyTab [] [] [] []
theorem rdy_zhhg : Ready Tryz.prog tyTab [] [] [] := ⟨noneG2, noneI2, noneF2⟩
structure S.zhhg_T where
 x0 : Int
 x1 : Bool
 deriving Inhabited
def S.zhhg_R (a0_5 : Int) (a0_6 : Bool) : DT S.zhhg_T :=
(.leaf ⟨a0_5, a0_6⟩)
def S.zhhg (a0_5 : Int) (a0_6 : Bool) : Option S.zhhg_T := (S.zhhg_R a0_5 a0_6).run
def S.zhhg_is (a0_5 : Int) (a0_6 : Bool) : Bool := (S.zhhg a0_5 a0_6).isSome
def S.zhhg_o (a0_5 : Int) (a0_6 : Bool) : S.zhhg_T := (S.zhhg a0_5 a0_6).getD default
def ret_zhhg (b : Bool) (r : S.zhhg_T) : Ret := ⟨b, none, [(false, [(cI r.x0)]), (false, [cB r.x1])]⟩
def g_zhhg : Con
 | [(true, [.sc (.int .i64 a0_0), .sc (.int .i64 a0_1), .sc (.int .i64 a0_2), .sc (.int .i64 a0_3), .sc (.int .i64 a0_4), .sc (.int .i64 a0_5), .sc (.bool a0_6)])] => some (ret_zhhg (S.zhhg_is a0_5 a0_6) (S.zhhg_o a0_5 a0_6))
 | _ => none
theorem raw_zhhg (a0_0 a0_1 a0_2 a0_3 a0_4 a0_5 : Int) (a0_6 : Bool) : evR2 cx_zhhg (hdI cx_zhhg (find []) [] none 0) none Tryz.f59 59 none [(true, [dI a0_0, dI a0_1, dI a0_2, dI a0_3, dI a0_4, dI a0_5, .sc (.bool a0_6)])] some = (S.zhhg_R a0_5 a0_6).go (ret_zhhg true) := by kernel_rfl
theorem bs_zhhg : loopsIn Tryz.f59 [] = [] := by kernel_rfl
theorem zhhg_ok : Stands Tryz.prog tyTab 59 g_zhhg := by
 refine stands3 (L := find []) (n := 0) (hints := []) (cx_ok rfl) rdy_zhhg ⟨by kernel_rfl, by kernel_rfl, by kernel_rfl⟩ bs_zhhg nilB (fun das r hG hr => ?_)
 unfold g_zhhg at hG
 split at hG
 ·rename_i a0_0 a0_1 a0_2 a0_3 a0_4 a0_5 a0_6
  injection hG with hG; subst hG
  exact ⟨none, true, win default ((raw_zhhg a0_0 a0_1 a0_2 a0_3 a0_4 a0_5 a0_6).trans (DT.go_run _ _)) hr⟩
 ·cases hG
abbrev cx_zu6e : Cx := mkCx3 tyTab [(42, g_zvb5), (43, g_zwus)] [] [(25, 4, { keep := [3, 6, 7, 8, 9, 25, 26, 27], acc := [(7, some 0, .run, 73)] })] [] [] []
theorem rdy_zu6e : Ready Tryz.prog tyTab [(42, g_zvb5), (43, g_zwus)] [] [] := ⟨consG2 zvb5_ok (consG2 zwus_ok (noneG2)), noneI2, noneF2⟩
theorem prs_zu6e : PrsOk Tryz.prog tyTab [] := noneP
structure S.zu6e_4_V where
 t9_ : Int
 t27_ : Int
 h2_f : Bool
 h2_l : Nat
 h13_ : Int
 h_13_1 : Int
 h_13_2 : Int
 h_13_3 : Int
 h_13_4 : Int
 h_13_5 : Int
 h_13_6 : Bool
 h_22 : Lr
def S.zu6e_4_R (qA : Le) (qB : Int) (qC : Ls) (qD qE qF qG : Int) (v : S.zu6e_4_V) : DT (Option Nat × S.zu6e_4_V) :=
let y0 : Run := { first := v.h13_, at_ := v.h_13_1, step := v.h_13_2, n := v.h_13_3, many := v.h_13_4, agg := v.h_13_5, bad := v.h_13_6 : Run }
let y1 : Nat := v.h2_l + 1
let y2 : Ty .evt := qA.getD v.t27_.toNat (dflt .evt)
let y3 := y2.name
let y4 := y2.at_
let y5 := y2.v
let y6 := S.zwus_o qC qD qE qF qG v.h13_ v.h_13_1 v.h_13_2 v.h_13_3 v.h_13_4 v.h_13_5 v.h_13_6 y3 y4 y5
(.br (xdec (v.t27_ < qB))
(.br (xdec (0 ≤ v.t27_) && xdec (v.t27_ < (↑qA.length : Int)))
(.br (xneI v.t9_ 0)
(.leaf (some 0, v))
(.br (xdec (0 + 1 ≤ ((List.replicate 1 (dflt .run)).set 0 y0).length) && xdec (v.h2_l ≤ v.h_22.length) && xdec (y1 ≤ 1048576))
(.br (S.zwus_is qC qD qE qF qG v.h13_ v.h_13_1 v.h_13_2 v.h_13_3 v.h_13_4 v.h_13_5 v.h_13_6 y3 y4 y5)
(.leaf (none, ⟨y6.x7, xwrap .i64 (v.t27_ + 1), false, y1, y6.x0, y6.x1, y6.x2, y6.x3, y6.x4, y6.x5, y6.x6, List.take v.h2_l v.h_22 ++ [y0]⟩))
.fail)
.fail))
.fail)
(.leaf (some 1, v)))
def S.zu6e_4_r (qA : Le) (qB : Int) (qC : Ls) (qD qE qF qG : Int) (v : S.zu6e_4_V) : Option (Option Nat × S.zu6e_4_V) := (S.zu6e_4_R qA qB qC qD qE qF qG v).run
def S.zu6e_4_j (qA : Le) (qB : Int) (qC : Ls) (qD qE qF qG : Int) (v : S.zu6e_4_V) (j : Nat) : Bool := Lp_j (S.zu6e_4_r qA qB qC qD qE qF qG) v j
def S.zu6e_4_v (qA : Le) (qB : Int) (qC : Ls) (qD qE qF qG : Int) (v : S.zu6e_4_V) : S.zu6e_4_V := Lp_v (S.zu6e_4_r qA qB qC qD qE qF qG) v
def mk_zu6e_4 (qH : OBz) (qI : Bool) (qA : Le) (qB : Int) (qJ : OBz) (qK : Bool) (qC : Ls) (qD qE qF qG : Int) (qL : OBz) (qM : Bool) (qN : Lr) (qO qP qQ qR qS qT : Int) (qU qV : Bool) (qW qX qY qZ rA rB : Int) (rC rD : Bool) (v : S.zu6e_4_V) : St := ⟨(vs 3 (V.v false [C.ptr 0 0] :: (V.any :: (V.any :: (V.v false [C.ptr 1 0] :: (V.v false [C.ptr 2 0] :: (V.v false [C.ptr 13 0] :: ((cV v.t9_) :: (vs 15 (V.v false [C.d (.sl qH qI .evt qA)] :: ((cV qB) :: ((cV v.t27_) :: (vs 33 []))))))))))))), (some (Blk.box 24 [C.d (.sl qJ qK .step qC), (cI qD), (cI qE), (cI qF), (cI qG)]) :: (some (Blk.box 75 [C.d (.sl qL qM .run qN), (cI qO), (cI qP), (cI qQ), (cI qR), (cI qS), (cI qT), cB qU, cB qV]) :: (some (Blk.box 75 [C.own 22 .run v.h2_f 0 v.h2_l, (cI qW), (cI qX), (cI qY), (cI qZ), (cI rA), (cI rB), cB rC, cB rD]) :: (ns 10 (some (Blk.box 73 [(cI v.h13_), (cI v.h_13_1), (cI v.h_13_2), (cI v.h_13_3), (cI v.h_13_4), (cI v.h_13_5), cB v.h_13_6]) :: (ns 8 (some (Blk.arr 73 .run v.h_22) :: []))))))), 0⟩
def ex_zu6e_4 (qH : OBz) (qI : Bool) (qA : Le) (qB : Int) (qJ : OBz) (qK : Bool) (qC : Ls) (qD qE qF qG : Int) (qL : OBz) (qM : Bool) (qN : Lr) (qO qP qQ qR qS qT : Int) (qU qV : Bool) (qW qX qY qZ rA rB : Int) (rC rD : Bool) (j : Nat) (v : S.zu6e_4_V) : Ex × St := match j with
 | 0 => (Ex.exit 0, ⟨(vs 6 (V.v false [C.ptr 1 0] :: (V.v false [C.ptr 2 0] :: (V.v false [C.ptr 13 0] :: ((cV v.t9_) :: (vs 51 [])))))), (some
  (Blk.box 24
   [C.d (.sl qJ qK .step qC), (cI qD), (cI qE), (cI qF),
    (cI qG)]) :: (some
  (Blk.box 75
   [C.d (.sl qL qM .run qN), (cI qO), (cI qP), (cI qQ),
    (cI qR), (cI qS), (cI qT), cB qU,
    cB qV]) :: (some
  (Blk.box 75
   [C.own 22 .run v.h2_f 0 v.h2_l, (cI qW), (cI qX), (cI qY),
    (cI qZ), (cI rA), (cI rB), cB rC,
    cB rD]) :: (ns 10 (some
  (Blk.box 73
   [(cI v.h13_), (cI v.h_13_1), (cI v.h_13_2), (cI v.h_13_3),
    (cI v.h_13_4), (cI v.h_13_5), cB v.h_13_6]) :: (ns 8 (some (Blk.arr 73 .run v.h_22) :: (ns 3 (some
  (Blk.box 43
   [C.d (.sc (.str (qA.getD v.t27_.toNat (dflt .evt)).name)), (cI (qA.getD v.t27_.toNat (dflt .evt)).at_),
    C.d (.sl none false .val (qA.getD v.t27_.toNat (dflt .evt)).v)]) :: (ns 3 [])))))))))), 0⟩)
 | 1 => (Ex.exit 0, ⟨(vs 6 (V.v false [C.ptr 1 0] :: (V.v false [C.ptr 2 0] :: (V.v false [C.ptr 13 0] :: ((cV v.t9_) :: (vs 51 [])))))), (some
  (Blk.box 24
   [C.d (.sl qJ qK .step qC), (cI qD), (cI qE), (cI qF),
    (cI qG)]) :: (some
  (Blk.box 75
   [C.d (.sl qL qM .run qN), (cI qO), (cI qP), (cI qQ),
    (cI qR), (cI qS), (cI qT), cB qU,
    cB qV]) :: (some
  (Blk.box 75
   [C.own 22 .run v.h2_f 0 v.h2_l, (cI qW), (cI qX), (cI qY),
    (cI qZ), (cI rA), (cI rB), cB rC,
    cB rD]) :: (ns 10 (some
  (Blk.box 73
   [(cI v.h13_), (cI v.h_13_1), (cI v.h_13_2), (cI v.h_13_3),
    (cI v.h_13_4), (cI v.h_13_5), cB v.h_13_6]) :: (ns 8 (some (Blk.arr 73 .run v.h_22) :: (none :: [])))))))), 0⟩)
 | _ => (.ret, ⟨[], [], 0⟩)
def U_zu6e_4_e8 (x : V) (K : Tree) : Tree := match x with
 | V.v false [C.ptr 13 0] => K
 | _ => .bad
def U_zu6e_4_h1 (x : Option Blk) (K : OBz → Bool → Lr → Int → Int → Int → Int → Int → Int → Bool → Bool → Tree) : Tree := match x with
 | some (Blk.box 75 [C.d (.sl qL qM .run qN), C.d (.sc (.int .i64 qO)), C.d (.sc (.int .i64 qP)), C.d (.sc (.int .i64 qQ)), C.d (.sc (.int .i64 qR)), C.d (.sc (.int .i64 qS)), C.d (.sc (.int .i64 qT)), C.d (.sc (.bool qU)), C.d (.sc (.bool qV))]) => K qL qM qN qO qP qQ qR qS qT qU qV
 | _ => .bad
def U_zu6e_4_h2 (x : Option Blk) (K : Bool → Nat → Int → Int → Int → Int → Int → Int → Bool → Bool → Tree) : Tree := match x with
 | some (Blk.box 75 [C.own 22 .run h2_f 0 h2_l, C.d (.sc (.int .i64 qW)), C.d (.sc (.int .i64 qX)), C.d (.sc (.int .i64 qY)), C.d (.sc (.int .i64 qZ)), C.d (.sc (.int .i64 rA)), C.d (.sc (.int .i64 rB)), C.d (.sc (.bool rC)), C.d (.sc (.bool rD))]) => K h2_f h2_l qW qX qY qZ rA rB rC rD
 | _ => .bad
def U_zu6e_4_h13 (x : Option Blk) (K : Int → Int → Int → Int → Int → Int → Bool → Tree) : Tree := match x with
 | some (Blk.box 73 [C.d (.sc (.int .i64 h13_)), C.d (.sc (.int .i64 h_13_1)), C.d (.sc (.int .i64 h_13_2)), C.d (.sc (.int .i64 h_13_3)), C.d (.sc (.int .i64 h_13_4)), C.d (.sc (.int .i64 h_13_5)), C.d (.sc (.bool h_13_6))]) => K h13_ h_13_1 h_13_2 h_13_3 h_13_4 h_13_5 h_13_6
 | _ => .bad
def T1_zu6e_4 (e3 e6 e7 e8 e9 e25 e26 e27 : V) (h0 h1 h2 h13 h22 : Option Blk) : Tree := Uz0 e3 (Uz1 e6 (Uz2 e7 (U_zu6e_4_e8 e8 (Uz3 e9 (fun t9_ => Uz8 e25 (fun qH qI qA => Uz3 e26 (fun qB => Uz3 e27 (fun t27_ => Uz9 h0 (fun qJ qK qC qD qE qF qG => U_zu6e_4_h1 h1 (fun qL qM qN qO qP qQ qR qS qT qU qV => U_zu6e_4_h2 h2 (fun h2_f h2_l qW qX qY qZ rA rB rC rD => U_zu6e_4_h13 h13 (fun h13_ h_13_1 h_13_2 h_13_3 h_13_4 h_13_5 h_13_6 => Uz6 h22 (fun h_22 => exT (fun j => ex_zu6e_4 qH qI qA qB qJ qK qC qD qE qF qG qL qM qN qO qP qQ qR qS qT qU qV qW qX qY qZ rA rB rC rD j (S.zu6e_4_v qA qB qC qD qE qF qG ⟨t9_, t27_, h2_f, h2_l, h13_, h_13_1, h_13_2, h_13_3, h_13_4, h_13_5, h_13_6, h_22⟩)) (S.zu6e_4_j qA qB qC qD qE qF qG ⟨t9_, t27_, h2_f, h2_l, h13_, h_13_1, h_13_2, h_13_3, h_13_4, h_13_5, h_13_6, h_22⟩) [0, 1])))))))))))))
def T_zu6e_4 (st : St) : Tree := bif okSt 61 23 0 [0, 1, 2, 13, 22] st then T1_zu6e_4 (st.env.getD 3 .any) (st.env.getD 6 .any) (st.env.getD 7 .any) (st.env.getD 8 .any) (st.env.getD 9 .any) (st.env.getD 25 .any) (st.env.getD 26 .any) (st.env.getD 27 .any) (lk st.heap 0) (lk st.heap 1) (lk st.heap 2) (lk st.heap 13) (lk st.heap 22) else .bad
def b_zu6e_4 : Code := loopBy Tryz.f25 4
theorem rnd_zu6e_4 (qH : OBz) (qI : Bool) (qA : Le) (qB : Int) (qJ : OBz) (qK : Bool) (qC : Ls) (qD qE qF qG : Int) (qL : OBz) (qM : Bool) (qN : Lr) (qO qP qQ qR qS qT : Int) (qU qV : Bool) (qW qX qY qZ rA rB : Int) (rC rD : Bool) (v : S.zu6e_4_V) : round2 cx_zu6e (hdI cx_zu6e (find []) [] none 0) 25 b_zu6e_4 [22] 23 [6, 7, 8, 9] (mk_zu6e_4 qH qI qA qB qJ qK qC qD qE qF qG qL qM qN qO qP qQ qR qS qT qU qV qW qX qY qZ rA rB rC rD v) = (S.zu6e_4_R qA qB qC qD qE qF qG v).go (roundOut (mk_zu6e_4 qH qI qA qB qJ qK qC qD qE qF qG qL qM qN qO qP qQ qR qS qT qU qV qW qX qY qZ rA rB rC rD) (ex_zu6e_4 qH qI qA qB qJ qK qC qD qE qF qG qL qM qN qO qP qQ qR qS qT qU qV qW qX qY qZ rA rB rC rD)) := by kernel_rfl
theorem bs_zu6e_4 : loopsOf b_zu6e_4 ++ loopsInl [] ++ loopsRf [] = [] := by kernel_rfl
theorem ci_zu6e_4 (qH : OBz) (qI : Bool) (qA : Le) (qB : Int) (qJ : OBz) (qK : Bool) (qC : Ls) (qD qE qF qG : Int) (qL : OBz) (qM : Bool) (qN : Lr) (qO qP qQ qR qS qT : Int) (qU qV : Bool) (qW qX qY qZ rA rB : Int) (rC rD : Bool) : ∀ v j v2, Lp (S.zu6e_4_r qA qB qC qD qE qF qG) v = some (j, v2) → Circles Tryz.prog cx_zu6e b_zu6e_4 (mk_zu6e_4 qH qI qA qB qJ qK qC qD qE qF qG qL qM qN qO qP qQ qR qS qT qU qV qW qX qY qZ rA rB rC rD v) (ex_zu6e_4 qH qI qA qB qJ qK qC qD qE qF qG qL qM qN qO qP qQ qR qS qT qU qV qW qX qY qZ rA rB rC rD j v2).1 (ex_zu6e_4 qH qI qA qB qJ qK qC qD qE qF qG qL qM qN qO qP qQ qR qS qT qU qV qW qX qY qZ rA rB rC rD j v2).2 :=
 loop_ok3 (L := find []) (n := 0) (hints := [(25, 4, { keep := [3, 6, 7, 8, 9, 25, 26, 27], acc := [(7, some 0, .run, 73)] })]) (cx_ok rfl) rdy_zu6e prs_zu6e bs_zu6e_4 nilB (fun v => (rnd_zu6e_4 qH qI qA qB qJ qK qC qD qE qF qG qL qM qN qO qP qQ qR qS qT qU qV qW qX qY qZ rA rB rC rD v).trans (DT.go_run _ _)) (by intro j v; unfold ex_zu6e_4; split <;> rfl)
theorem mke_zu6e_4 (qH : OBz) (qI : Bool) (qA : Le) (qB : Int) (qJ : OBz) (qK : Bool) (qC : Ls) (qD qE qF qG : Int) (qL : OBz) (qM : Bool) (qN : Lr) (qO qP qQ qR qS qT : Int) (qU qV : Bool) (qW qX qY qZ rA rB : Int) (rC rD : Bool) (v : S.zu6e_4_V) : mk_zu6e_4 qH qI qA qB qJ qK qC qD qE qF qG qL qM qN qO qP qQ qR qS qT qU qV qW qX qY qZ rA rB rC rD v = ⟨envOf 61 [(3, V.v false [C.ptr 0 0]), (6, V.v false [C.ptr 1 0]), (7, V.v false [C.ptr 2 0]), (8, V.v false [C.ptr 13 0]), (9, (cV v.t9_)), (25, V.v false [C.d (.sl qH qI .evt qA)]), (26, (cV qB)), (27, (cV v.t27_))], heapOf 23 [(0, some
 (Blk.box 24
  [C.d (.sl qJ qK .step qC), (cI qD), (cI qE), (cI qF),
   (cI qG)])), (1, some
 (Blk.box 75
  [C.d (.sl qL qM .run qN), (cI qO), (cI qP), (cI qQ),
   (cI qR), (cI qS), (cI qT), cB qU, cB qV])), (2, some
 (Blk.box 75
  [C.own 22 .run v.h2_f 0 v.h2_l, (cI qW), (cI qX), (cI qY),
   (cI qZ), (cI rA), (cI rB), cB rC, cB rD])), (13, some
 (Blk.box 73
  [(cI v.h13_), (cI v.h_13_1), (cI v.h_13_2), (cI v.h_13_3),
   (cI v.h_13_4), (cI v.h_13_5), cB v.h_13_6])), (22, some (Blk.arr 73 .run v.h_22))], 0⟩ := by kernel_rfl
theorem Ui_zu6e_4_e8 {x : V} {K : Tree} {z : Ex × St} (h : (U_zu6e_4_e8 x K).eval = some z) : x = V.v false [C.ptr 13 0] ∧ (K).eval = some z := by
 unfold U_zu6e_4_e8 at h
 split at h
 ·exact ⟨rfl, h⟩
 ·cases h
theorem Ui_zu6e_4_h1 {x : Option Blk} {K : OBz → Bool → Lr → Int → Int → Int → Int → Int → Int → Bool → Bool → Tree} {z : Ex × St} (h : (U_zu6e_4_h1 x K).eval = some z) : ∃ (qL : OBz) (qM : Bool) (qN : Lr) (qO qP qQ qR qS qT : Int) (qU qV : Bool), x = some (Blk.box 75 [C.d (.sl qL qM .run qN), C.d (.sc (.int .i64 qO)), C.d (.sc (.int .i64 qP)), C.d (.sc (.int .i64 qQ)), C.d (.sc (.int .i64 qR)), C.d (.sc (.int .i64 qS)), C.d (.sc (.int .i64 qT)), C.d (.sc (.bool qU)), C.d (.sc (.bool qV))]) ∧ (K qL qM qN qO qP qQ qR qS qT qU qV).eval = some z := by
 unfold U_zu6e_4_h1 at h
 split at h
 ·exact ⟨_, _, _, _, _, _, _, _, _, _, _, rfl, h⟩
 ·cases h
theorem Ui_zu6e_4_h2 {x : Option Blk} {K : Bool → Nat → Int → Int → Int → Int → Int → Int → Bool → Bool → Tree} {z : Ex × St} (h : (U_zu6e_4_h2 x K).eval = some z) : ∃ (h2_f : Bool) (h2_l : Nat) (qW qX qY qZ rA rB : Int) (rC rD : Bool), x = some (Blk.box 75 [C.own 22 .run h2_f 0 h2_l, C.d (.sc (.int .i64 qW)), C.d (.sc (.int .i64 qX)), C.d (.sc (.int .i64 qY)), C.d (.sc (.int .i64 qZ)), C.d (.sc (.int .i64 rA)), C.d (.sc (.int .i64 rB)), C.d (.sc (.bool rC)), C.d (.sc (.bool rD))]) ∧ (K h2_f h2_l qW qX qY qZ rA rB rC rD).eval = some z := by
 unfold U_zu6e_4_h2 at h
 split at h
 ·exact ⟨_, _, _, _, _, _, _, _, _, _, rfl, h⟩
 ·cases h
theorem Ui_zu6e_4_h13 {x : Option Blk} {K : Int → Int → Int → Int → Int → Int → Bool → Tree} {z : Ex × St} (h : (U_zu6e_4_h13 x K).eval = some z) : ∃ (h13_ h_13_1 h_13_2 h_13_3 h_13_4 h_13_5 : Int) (h_13_6 : Bool), x = some (Blk.box 73 [C.d (.sc (.int .i64 h13_)), C.d (.sc (.int .i64 h_13_1)), C.d (.sc (.int .i64 h_13_2)), C.d (.sc (.int .i64 h_13_3)), C.d (.sc (.int .i64 h_13_4)), C.d (.sc (.int .i64 h_13_5)), C.d (.sc (.bool h_13_6))]) ∧ (K h13_ h_13_1 h_13_2 h_13_3 h_13_4 h_13_5 h_13_6).eval = some z := by
 unfold U_zu6e_4_h13 at h
 split at h
 ·exact ⟨_, _, _, _, _, _, _, rfl, h⟩
 ·cases h
theorem lo1_zu6e_4 (e3 e6 e7 e8 e9 e25 e26 e27 : V) (h0 h1 h2 h13 h22 : Option Blk) e st2 (h : (T1_zu6e_4 e3 e6 e7 e8 e9 e25 e26 e27 h0 h1 h2 h13 h22).eval = some (e, st2)) : Circles Tryz.prog cx_zu6e b_zu6e_4 ⟨envOf 61 [(3, e3), (6, e6), (7, e7), (8, e8), (9, e9), (25, e25), (26, e26), (27, e27)], heapOf 23 [(0, h0), (1, h1), (2, h2), (13, h13), (22, h22)], 0⟩ e st2 := by
 unfold T1_zu6e_4 at h
 obtain ⟨rfl, h⟩ := Uz0i h
 obtain ⟨rfl, h⟩ := Uz1i h
 obtain ⟨rfl, h⟩ := Uz2i h
 obtain ⟨rfl, h⟩ := Ui_zu6e_4_e8 h
 obtain ⟨t9_, rfl, h⟩ := Uz3i h
 obtain ⟨qH, qI, qA, rfl, h⟩ := Uz8i h
 obtain ⟨qB, rfl, h⟩ := Uz3i h
 obtain ⟨t27_, rfl, h⟩ := Uz3i h
 obtain ⟨qJ, qK, qC, qD, qE, qF, qG, rfl, h⟩ := Uz9i h
 obtain ⟨qL, qM, qN, qO, qP, qQ, qR, qS, qT, qU, qV, rfl, h⟩ := Ui_zu6e_4_h1 h
 obtain ⟨h2_f, h2_l, qW, qX, qY, qZ, rA, rB, rC, rD, rfl, h⟩ := Ui_zu6e_4_h2 h
 obtain ⟨h13_, h_13_1, h_13_2, h_13_3, h_13_4, h_13_5, h_13_6, rfl, h⟩ := Ui_zu6e_4_h13 h
 obtain ⟨h_22, rfl, h⟩ := Uz6i h
 have := loop_tree (mk := mk_zu6e_4 qH qI qA qB qJ qK qC qD qE qF qG qL qM qN qO qP qQ qR qS qT qU qV qW qX qY qZ rA rB rC rD) (ci_zu6e_4 qH qI qA qB qJ qK qC qD qE qF qG qL qM qN qO qP qQ qR qS qT qU qV qW qX qY qZ rA rB rC rD) _ _ e st2 h
 rw [mke_zu6e_4] at this
 exact this
theorem lok_zu6e_4 : LoopOk Tryz.prog cx_zu6e b_zu6e_4 T_zu6e_4 := by
 intro st e st2 h
 unfold T_zu6e_4 at h
 cases hk : okSt 61 23 0 [0, 1, 2, 13, 22] st with
 | false => rw [hk] at h; cases h
 | true =>
  rw [hk] at h
  exact circles_keep (ks := [3, 6, 7, 8, 9, 25, 26, 27]) hk (lo1_zu6e_4 _ _ _ _ _ _ _ _ _ _ _ _ _ e st2 h)
structure S.zu6e_T where
 x0 : Lr
 x1 : Bool
 x2 : Nat
 x3 : Int
 x4 : Int
 x5 : Int
 x6 : Int
 x7 : Int
 x8 : Int
 x9 : Bool
 x10 : Bool
 deriving Inhabited
def S.zu6e_R (a0_0 : Ls) (a0_1 a0_2 a0_3 a0_4 : Int) (a1 : Le) (a2 : Int) : DT S.zu6e_T :=
let y0 : Nat := a1.length
let y1 : Ty .evt := a1.getD a2.toNat (dflt .evt)
let y2 := y1.name
let y3 := y1.at_
let y4 := y1.v
let y5 : Int := xwrap .i64 (a2 + 1)
let y6 : Le := sub a1 y5.toNat y0
let y7 : Int := (↑y6.length : Int)
let y8 := S.zvb5_o a0_0 a0_2 a0_3 a0_4 y2 y3 y4 a2
let y9 : S.zu6e_4_V := { t9_ := y8.x7, t27_ := 0, h2_f := true, h2_l := 0, h13_ := y8.x0, h_13_1 := y8.x1, h_13_2 := y8.x2, h_13_3 := y8.x3, h_13_4 := y8.x4, h_13_5 := y8.x5, h_13_6 := y8.x6, h_22 := [] : S.zu6e_4_V }
let y10 := S.zu6e_4_v y6 y7 a0_0 a0_1 a0_2 a0_3 a0_4 y9
let y11 := y10.t9_
let y12 : Bool := xeqI y11 0
let y13 := y10.h13_
let y14 := y10.h_13_1
let y15 := y10.h_13_2
let y16 := y10.h_13_3
let y17 := y10.h_13_4
let y18 := y10.h_13_5
let y19 := y10.h_13_6
let y20 : Run := { first := y13, at_ := y14, step := y15, n := y16, many := y17, agg := y18, bad := y19 : Run }
let y21 := y10.h2_l
let y22 := y10.h_22
let y23 : Nat := y21 + 1
let y24 : Bool := xdec (0 + 1 ≤ ((List.replicate 1 (dflt .run)).set 0 y20).length) && xdec (y21 ≤ y22.length) && xdec (y23 ≤ 1048576)
let y25 : Lr := List.take y21 y22 ++ [y20]
let y26 : Bool := xeqI y11 2
let y27 := y10.h2_f
(.br (xdec (0 ≤ a2) && xdec (a2 < (↑y0 : Int)))
(.br (S.zvb5_is a0_0 a0_2 a0_3 a0_4 y2 y3 y4 a2)
(.br (xdec (0 ≤ y5) && xdec (y5 ≤ Int.ofNat y0) && true && true)
(.br (S.zu6e_4_j y6 y7 a0_0 a0_1 a0_2 a0_3 a0_4 y9 0)
(.br (y12)
(.br (y24)
(.leaf ⟨y25, false, y23, y13, y14, y15, y16, y17, y18, y19, y26⟩)
.fail)
(.leaf ⟨y22, y27, y21, y13, y14, y15, y16, y17, y18, y19, y26⟩))
(.br (S.zu6e_4_j y6 y7 a0_0 a0_1 a0_2 a0_3 a0_4 y9 1)
(.br (y12)
(.br (y24)
(.leaf ⟨y25, false, y23, y13, y14, y15, y16, y17, y18, y19, y26⟩)
.fail)
(.leaf ⟨y22, y27, y21, y13, y14, y15, y16, y17, y18, y19, y26⟩))
.fail))
.fail)
.fail)
.fail)
def S.zu6e (a0_0 : Ls) (a0_1 a0_2 a0_3 a0_4 : Int) (a1 : Le) (a2 : Int) : Option S.zu6e_T := (S.zu6e_R a0_0 a0_1 a0_2 a0_3 a0_4 a1 a2).run
def S.zu6e_is (a0_0 : Ls) (a0_1 a0_2 a0_3 a0_4 : Int) (a1 : Le) (a2 : Int) : Bool := (S.zu6e a0_0 a0_1 a0_2 a0_3 a0_4 a1 a2).isSome
def S.zu6e_o (a0_0 : Ls) (a0_1 a0_2 a0_3 a0_4 : Int) (a1 : Le) (a2 : Int) : S.zu6e_T := (S.zu6e a0_0 a0_1 a0_2 a0_3 a0_4 a1 a2).getD default
def ret_zu6e (b : Bool) (r : S.zu6e_T) : Ret := ⟨b, some (73, (⟨.run, r.x0⟩ : (t : ET) × List (Ty t))), [(true,
    [C.own 0 .run r.x1 0 r.x2, (cI r.x3), (cI r.x4), (cI r.x5),
     (cI r.x6), (cI r.x7), (cI r.x8), cB r.x9, cB r.x10])]⟩
def g_zu6e : Con
 | [(true, [.sl a0_0n a0_0f .step a0_0, .sc (.int .i64 a0_1), .sc (.int .i64 a0_2), .sc (.int .i64 a0_3), .sc (.int .i64 a0_4)]), (false, [.sl a1n a1f .evt a1]), (false, [.sc (.int .i64 a2)])] => some (ret_zu6e (S.zu6e_is a0_0 a0_1 a0_2 a0_3 a0_4 a1 a2) (S.zu6e_o a0_0 a0_1 a0_2 a0_3 a0_4 a1 a2))
 | _ => none
theorem raw_zu6e (a0_0n : OBz) (a0_0f : Bool) (a0_0 : Ls) (a0_1 a0_2 a0_3 a0_4 : Int) (a1n : OBz) (a1f : Bool) (a1 : Le) (a2 : Int) : evR4 cx_zu6e (hdT cx_zu6e (find [(4, T_zu6e_4)]) [] none 0) none Tryz.f25 25 (some 73) [(true, [.sl a0_0n a0_0f .step a0_0, dI a0_1, dI a0_2, dI a0_3, dI a0_4]), (false, [.sl a1n a1f .evt a1]), (false, [dI a2])] some = (S.zu6e_R a0_0 a0_1 a0_2 a0_3 a0_4 a1 a2).go (ret_zu6e true) := by kernel_rfl
theorem bs_zu6e : loopsIn Tryz.f25 [] ++ loopsRf [] = [b_zu6e_4] := by kernel_rfl
theorem zu6e_ok : Stands Tryz.prog tyTab 25 g_zu6e := by
 refine stands4 (L := find [(4, T_zu6e_4)]) (n := 0) (hints := [(25, 4, { keep := [3, 6, 7, 8, 9, 25, 26, 27], acc := [(7, some 0, .run, 73)] })]) (cx_ok rfl) rdy_zu6e prs_zu6e ⟨by kernel_rfl, by kernel_rfl, by kernel_rfl⟩ (rfsOk_none (by kernel_rfl)) bs_zu6e (consB (fun T h => by have e : T_zu6e_4 = T := Option.some.inj (show some T_zu6e_4 = some T from h); exact e ▸ lok_zu6e_4) nilB) (fun das r hG hr => ?_)
 unfold g_zu6e at hG
 split at hG
 ·rename_i a0_0n a0_0f a0_0 a0_1 a0_2 a0_3 a0_4 a1n a1f a1 a2
  injection hG with hG; subst hG
  exact ⟨(some 73), true, win default ((raw_zu6e a0_0n a0_0f a0_0 a0_1 a0_2 a0_3 a0_4 a1n a1f a1 a2).trans (DT.go_run _ _)) hr⟩
 ·cases hG
abbrev cx_zrty : Cx := mkCx2 tyTab [(59, g_zhhg)] [] [] []
theorem rdy_zrty : Ready Tryz.prog tyTab [(59, g_zhhg)] [] [] := ⟨consG2 zhhg_ok (noneG2), noneI2, noneF2⟩
structure S.zrty_T where
 x0 : Int
 x1 : Int
 x2 : Int
 x3 : Bool
 x4 : Bool
 deriving Inhabited
def S.zrty_R (a0_0 : Lr) (a0_6 : Int) (a0_7 a0_8 : Bool) (a1 : Int) : DT S.zrty_T :=
(.br (xnot a0_8)
(.leaf ⟨0, 0, 0, false, false⟩)
(.leaf ⟨a1, xwrap .i64 (a1 + (↑a0_0.length : Int)), (S.zhhg_o a0_6 a0_7).x0, (S.zhhg_o a0_6 a0_7).x1, true⟩))
def S.zrty (a0_0 : Lr) (a0_6 : Int) (a0_7 a0_8 : Bool) (a1 : Int) : Option S.zrty_T := (S.zrty_R a0_0 a0_6 a0_7 a0_8 a1).run
def S.zrty_is (a0_0 : Lr) (a0_6 : Int) (a0_7 a0_8 : Bool) (a1 : Int) : Bool := (S.zrty a0_0 a0_6 a0_7 a0_8 a1).isSome
def S.zrty_o (a0_0 : Lr) (a0_6 : Int) (a0_7 a0_8 : Bool) (a1 : Int) : S.zrty_T := (S.zrty a0_0 a0_6 a0_7 a0_8 a1).getD default
def ret_zrty (b : Bool) (r : S.zrty_T) : Ret := ⟨b, none, [(true, [(cI r.x0), (cI r.x1), (cI r.x2), cB r.x3]),
 (false, [cB r.x4])]⟩
def g_zrty : Con
 | [(true, [.sl a0_0n a0_0f .run a0_0, .sc (.int .i64 a0_1), .sc (.int .i64 a0_2), .sc (.int .i64 a0_3), .sc (.int .i64 a0_4), .sc (.int .i64 a0_5), .sc (.int .i64 a0_6), .sc (.bool a0_7), .sc (.bool a0_8)]), (false, [.sc (.int .i64 a1)]), (false, [.fn 59 [] []])] => some (ret_zrty (S.zrty_is a0_0 a0_6 a0_7 a0_8 a1) (S.zrty_o a0_0 a0_6 a0_7 a0_8 a1))
 | _ => none
theorem raw_zrty (a0_0n : OBz) (a0_0f : Bool) (a0_0 : Lr) (a0_1 a0_2 a0_3 a0_4 a0_5 a0_6 : Int) (a0_7 a0_8 : Bool) (a1 : Int) : evR2 cx_zrty (hdI cx_zrty (find []) [] none 0) none Tryz.f58 58 none [(true, [.sl a0_0n a0_0f .run a0_0, dI a0_1, dI a0_2, dI a0_3, dI a0_4, dI a0_5, dI a0_6, .sc (.bool a0_7), .sc (.bool a0_8)]), (false, [dI a1]), (false, [.fn 59 [] []])] some = (S.zrty_R a0_0 a0_6 a0_7 a0_8 a1).go (ret_zrty true) := by kernel_rfl
theorem bs_zrty : loopsIn Tryz.f58 [] = [] := by kernel_rfl
theorem zrty_ok : Stands Tryz.prog tyTab 58 g_zrty := by
 refine stands3 (L := find []) (n := 0) (hints := []) (cx_ok rfl) rdy_zrty ⟨by kernel_rfl, by kernel_rfl, by kernel_rfl⟩ bs_zrty nilB (fun das r hG hr => ?_)
 unfold g_zrty at hG
 split at hG
 ·rename_i a0_0n a0_0f a0_0 a0_1 a0_2 a0_3 a0_4 a0_5 a0_6 a0_7 a0_8 a1
  injection hG with hG; subst hG
  exact ⟨none, true, win default ((raw_zrty a0_0n a0_0f a0_0 a0_1 a0_2 a0_3 a0_4 a0_5 a0_6 a0_7 a0_8 a1).trans (DT.go_run _ _)) hr⟩
 ·cases hG
abbrev cx_znv3 : Cx := mkCx2 tyTab [(25, g_zu6e), (58, g_zrty), (59, g_zhhg)] [] [] []
theorem rdy_znv3 : Ready Tryz.prog tyTab [(25, g_zu6e), (58, g_zrty), (59, g_zhhg)] [] [] := ⟨consG2 zu6e_ok (consG2 zrty_ok (consG2 zhhg_ok (noneG2))), noneI2, noneF2⟩
structure S.znv3_T where
 x0 : Int
 x1 : Int
 x2 : Int
 x3 : Bool
 x4 : Bool
 deriving Inhabited
def S.znv3_R (a0_0 : Ls) (a0_1 a0_2 a0_3 a0_4 : Int) (a1 : Le) (a2 : Int) : DT S.znv3_T :=
let y0 := S.zu6e_o a0_0 a0_1 a0_2 a0_3 a0_4 a1 a2
let y1 : Nat := 0 + y0.x2
let y2 := y0.x0
let y3 : Lr := sub y2 0 y1
let y4 := y0.x8
let y5 := y0.x9
let y6 := y0.x10
let y7 := S.zrty_o y3 y4 y5 y6 a2
(.br (xdec (a2 < 0))
(.leaf ⟨0, 0, 0, false, false⟩)
(.br (xdec (a2 ≥ (↑a1.length : Int)))
(.leaf ⟨0, 0, 0, false, false⟩)
(.br (S.zu6e_is a0_0 a0_1 a0_2 a0_3 a0_4 a1 a2)
(.br (xdec (y1 ≤ y2.length) && true && true && S.zrty_is y3 y4 y5 y6 a2)
(.leaf ⟨y7.x0, y7.x1, y7.x2, y7.x3, y7.x4⟩)
.fail)
.fail)))
def S.znv3 (a0_0 : Ls) (a0_1 a0_2 a0_3 a0_4 : Int) (a1 : Le) (a2 : Int) : Option S.znv3_T := (S.znv3_R a0_0 a0_1 a0_2 a0_3 a0_4 a1 a2).run
def S.znv3_is (a0_0 : Ls) (a0_1 a0_2 a0_3 a0_4 : Int) (a1 : Le) (a2 : Int) : Bool := (S.znv3 a0_0 a0_1 a0_2 a0_3 a0_4 a1 a2).isSome
def S.znv3_o (a0_0 : Ls) (a0_1 a0_2 a0_3 a0_4 : Int) (a1 : Le) (a2 : Int) : S.znv3_T := (S.znv3 a0_0 a0_1 a0_2 a0_3 a0_4 a1 a2).getD default
def ret_znv3 (b : Bool) (r : S.znv3_T) : Ret := ⟨b, none, [(true, [(cI r.x0), (cI r.x1), (cI r.x2), cB r.x3]),
 (false, [cB r.x4])]⟩
def g_znv3 : Con
 | [(true, [.sl a0_0n a0_0f .step a0_0, .sc (.int .i64 a0_1), .sc (.int .i64 a0_2), .sc (.int .i64 a0_3), .sc (.int .i64 a0_4)]), (false, [.sl a1n a1f .evt a1]), (false, [.sc (.int .i64 a2)])] => some (ret_znv3 (S.znv3_is a0_0 a0_1 a0_2 a0_3 a0_4 a1 a2) (S.znv3_o a0_0 a0_1 a0_2 a0_3 a0_4 a1 a2))
 | _ => none
theorem raw_znv3 (a0_0n : OBz) (a0_0f : Bool) (a0_0 : Ls) (a0_1 a0_2 a0_3 a0_4 : Int) (a1n : OBz) (a1f : Bool) (a1 : Le) (a2 : Int) : evR2 cx_znv3 (hdI cx_znv3 (find []) [] none 0) none Tryz.f39 39 none [(true, [.sl a0_0n a0_0f .step a0_0, dI a0_1, dI a0_2, dI a0_3, dI a0_4]), (false, [.sl a1n a1f .evt a1]), (false, [dI a2])] some = (S.znv3_R a0_0 a0_1 a0_2 a0_3 a0_4 a1 a2).go (ret_znv3 true) := by kernel_rfl
theorem bs_znv3 : loopsIn Tryz.f39 [] = [] := by kernel_rfl
theorem znv3_ok : Stands Tryz.prog tyTab 39 g_znv3 := by
 refine stands3 (L := find []) (n := 0) (hints := []) (cx_ok rfl) rdy_znv3 ⟨by kernel_rfl, by kernel_rfl, by kernel_rfl⟩ bs_znv3 nilB (fun das r hG hr => ?_)
 unfold g_znv3 at hG
 split at hG
 ·rename_i a0_0n a0_0f a0_0 a0_1 a0_2 a0_3 a0_4 a1n a1f a1 a2
  injection hG with hG; subst hG
  exact ⟨none, true, win default ((raw_znv3 a0_0n a0_0f a0_0 a0_1 a0_2 a0_3 a0_4 a1n a1f a1 a2).trans (DT.go_run _ _)) hr⟩
 ·cases hG
abbrev cx_zjsn : Cx := mkCx2 tyTab [(25, g_zu6e)] [] [(10, 15, { keep := [2, 7, 8, 52, 53], acc := [] }), (10, 8, { keep := [1, 2, 3, 7, 8, 9, 10, 20, 21, 30, 31], acc := [] }), (10, 4, { keep := [1, 2, 3, 7, 8, 20, 21], acc := [] })] []
theorem rdy_zjsn : Ready Tryz.prog tyTab [(25, g_zu6e)] [] [] := ⟨consG2 zu6e_ok (noneG2), noneI2, noneF2⟩
structure S.zjsn_8_V where
 t31_ : Int
 h_4 : Li
def S.zjsn_8_R (t7_l : Nat) (t9_ rE : Int) (v : S.zjsn_8_V) : DT (Option Nat × S.zjsn_8_V) :=
let y0 : Int := xwrap .i64 (t9_ + v.t31_)
let y1 : Bool := xdec (0 ≤ y0) && xdec (y0 < (↑t7_l : Int))
let y2 : Nat := 0 + y0.toNat
let y3 : Bool := xdec (y2 < v.h_4.length)
(.br (xdec (v.t31_ < rE))
(.br (y1)
(.br (y3)
(.br (y1)
(.br (y3)
(.leaf (none, ⟨xwrap .i64 (v.t31_ + 1), v.h_4.set y2 (xwrap .i64 (v.h_4.getD y2 (dflt .int) + 1))⟩))
.fail)
.fail)
.fail)
.fail)
(.leaf (some 0, v)))
def S.zjsn_8_r (t7_l : Nat) (t9_ rE : Int) (v : S.zjsn_8_V) : Option (Option Nat × S.zjsn_8_V) := (S.zjsn_8_R t7_l t9_ rE v).run
def S.zjsn_8_j (t7_l : Nat) (t9_ rE : Int) (v : S.zjsn_8_V) (j : Nat) : Bool := Lp_j (S.zjsn_8_r t7_l t9_ rE) v j
def S.zjsn_8_v (t7_l : Nat) (t9_ rE : Int) (v : S.zjsn_8_V) : S.zjsn_8_V := Lp_v (S.zjsn_8_r t7_l t9_ rE) v
def mk_zjsn_8 (rF : OBz) (rG : Bool) (rH : Le) (rI : Int) (t7_l t8_l : Nat) (t9_ rJ t21_ rE : Int) (qJ : OBz) (qK : Bool) (qC : Ls) (qD qE qF qG : Int) (h_8 : Lb) (h_19 : Lr) (rK : Bool) (h20_l : Nat) (rL rM rN rO rP rQ : Int) (rR rS : Bool) (v : S.zjsn_8_V) : St := ⟨(V.any :: (V.v false [C.d (.sl rF rG .evt rH)] :: ((cV rI) :: (V.v false [C.ptr 0 0] :: (vs 3 (V.v false [C.own 4 .int true 0 t7_l] :: (V.v false [C.own 8 .bool true 0 t8_l] :: ((cV t9_) :: (V.v false [C.ptr 20 0] :: (vs 9 ((cV rJ) :: ((cV t21_) :: (vs 8 ((cV rE) :: ((cV v.t31_) :: (vs 38 [])))))))))))))))), (some (Blk.box 24 [C.d (.sl qJ qK .step qC), (cI qD), (cI qE), (cI qF), (cI qG)]) :: (ns 3 (some (Blk.arr 3 .int v.h_4) :: (ns 3 (some (Blk.arr 4 .bool h_8) :: (ns 10 (some (Blk.arr 73 .run h_19) :: (some (Blk.box 75 [C.own 19 .run rK 0 h20_l, (cI rL), (cI rM), (cI rN), (cI rO), (cI rP), (cI rQ), cB rR, cB rS]) :: (ns 5 []))))))))), 0⟩
def ex_zjsn_8 (rF : OBz) (rG : Bool) (rH : Le) (rI : Int) (t7_l t8_l : Nat) (t9_ rJ t21_ rE : Int) (qJ : OBz) (qK : Bool) (qC : Ls) (qD qE qF qG : Int) (h_8 : Lb) (h_19 : Lr) (rK : Bool) (h20_l : Nat) (rL rM rN rO rP rQ : Int) (rR rS : Bool) (j : Nat) (v : S.zjsn_8_V) : Ex × St := match j with
 | 0 => (Ex.exit 2, ⟨(V.any :: (V.v false [C.d (.sl rF rG .evt rH)] :: ((cV rI) :: (V.v false [C.ptr 0 0] :: (vs 3 (V.v false [C.own 4 .int true 0 t7_l] :: (V.v false [C.own 8 .bool true 0 t8_l] :: ((cV t9_) :: (V.v false [C.ptr 20 0] :: (vs 9 ((cV rJ) :: ((cV t21_) :: (vs 48 []))))))))))))), (some
  (Blk.box 24
   [C.d (.sl qJ qK .step qC), (cI qD), (cI qE), (cI qF),
    (cI qG)]) :: (ns 3 (some (Blk.arr 3 .int v.h_4) :: (ns 3 (some (Blk.arr 4 .bool h_8) :: (ns 10 (some (Blk.arr 73 .run h_19) :: (some
  (Blk.box 75
   [C.own 19 .run rK 0 h20_l, (cI rL), (cI rM), (cI rN),
    (cI rO), (cI rP), (cI rQ), cB rR,
    cB rS]) :: (ns 6 []))))))))), 0⟩)
 | _ => (.ret, ⟨[], [], 0⟩)
def T1_zjsn_8 : V → V → V → V → V → V → V → V → V → V → V → Option Blk → Option Blk → Option Blk → Option Blk → Option Blk → Tree
 | V.v false [C.d (.sl rF rG .evt rH)], V.v false [C.d (.sc (.int .i64 rI))], V.v false [C.ptr 0 0], V.v false [C.own 4 .int true 0 t7_l], V.v false [C.own 8 .bool true 0 t8_l], V.v false [C.d (.sc (.int .i64 t9_))], V.v false [C.ptr 20 0], V.v false [C.d (.sc (.int .i64 rJ))], V.v false [C.d (.sc (.int .i64 t21_))], V.v false [C.d (.sc (.int .i64 rE))], V.v false [C.d (.sc (.int .i64 t31_))], some (Blk.box 24 [C.d (.sl qJ qK .step qC), C.d (.sc (.int .i64 qD)), C.d (.sc (.int .i64 qE)), C.d (.sc (.int .i64 qF)), C.d (.sc (.int .i64 qG))]), some (Blk.arr 3 .int h_4), some (Blk.arr 4 .bool h_8), some (Blk.arr 73 .run h_19), some (Blk.box 75 [C.own 19 .run rK 0 h20_l, C.d (.sc (.int .i64 rL)), C.d (.sc (.int .i64 rM)), C.d (.sc (.int .i64 rN)), C.d (.sc (.int .i64 rO)), C.d (.sc (.int .i64 rP)), C.d (.sc (.int .i64 rQ)), C.d (.sc (.bool rR)), C.d (.sc (.bool rS))]) => exT (fun j => ex_zjsn_8 rF rG rH rI t7_l t8_l t9_ rJ t21_ rE qJ qK qC qD qE qF qG h_8 h_19 rK h20_l rL rM rN rO rP rQ rR rS j (S.zjsn_8_v t7_l t9_ rE ⟨t31_, h_4⟩)) (S.zjsn_8_j t7_l t9_ rE ⟨t31_, h_4⟩) [0]
 | _, _, _, _, _, _, _, _, _, _, _, _, _, _, _, _ => .bad
def T_zjsn_8 (st : St) : Tree := bif okSt 70 26 0 [0, 4, 8, 19, 20] st then T1_zjsn_8 (st.env.getD 1 .any) (st.env.getD 2 .any) (st.env.getD 3 .any) (st.env.getD 7 .any) (st.env.getD 8 .any) (st.env.getD 9 .any) (st.env.getD 10 .any) (st.env.getD 20 .any) (st.env.getD 21 .any) (st.env.getD 30 .any) (st.env.getD 31 .any) (lk st.heap 0) (lk st.heap 4) (lk st.heap 8) (lk st.heap 19) (lk st.heap 20) else .bad
def b_zjsn_8 : Code := loopBy Tryz.f10 8
theorem rnd_zjsn_8 (rF : OBz) (rG : Bool) (rH : Le) (rI : Int) (t7_l t8_l : Nat) (t9_ rJ t21_ rE : Int) (qJ : OBz) (qK : Bool) (qC : Ls) (qD qE qF qG : Int) (h_8 : Lb) (h_19 : Lr) (rK : Bool) (h20_l : Nat) (rL rM rN rO rP rQ : Int) (rR rS : Bool) (v : S.zjsn_8_V) : round2 cx_zjsn (hdI cx_zjsn (find []) [] none 0) 10 b_zjsn_8 [] 26 [1, 2, 3, 7, 8, 9, 10, 20, 21] (mk_zjsn_8 rF rG rH rI t7_l t8_l t9_ rJ t21_ rE qJ qK qC qD qE qF qG h_8 h_19 rK h20_l rL rM rN rO rP rQ rR rS v) = (S.zjsn_8_R t7_l t9_ rE v).go (roundOut (mk_zjsn_8 rF rG rH rI t7_l t8_l t9_ rJ t21_ rE qJ qK qC qD qE qF qG h_8 h_19 rK h20_l rL rM rN rO rP rQ rR rS) (ex_zjsn_8 rF rG rH rI t7_l t8_l t9_ rJ t21_ rE qJ qK qC qD qE qF qG h_8 h_19 rK h20_l rL rM rN rO rP rQ rR rS)) := by kernel_rfl
theorem bs_zjsn_8 : loopsOf b_zjsn_8 ++ loopsInl [] = [] := by kernel_rfl
theorem ci_zjsn_8 (rF : OBz) (rG : Bool) (rH : Le) (rI : Int) (t7_l t8_l : Nat) (t9_ rJ t21_ rE : Int) (qJ : OBz) (qK : Bool) (qC : Ls) (qD qE qF qG : Int) (h_8 : Lb) (h_19 : Lr) (rK : Bool) (h20_l : Nat) (rL rM rN rO rP rQ : Int) (rR rS : Bool) : ∀ v j v2, Lp (S.zjsn_8_r t7_l t9_ rE) v = some (j, v2) → Circles Tryz.prog cx_zjsn b_zjsn_8 (mk_zjsn_8 rF rG rH rI t7_l t8_l t9_ rJ t21_ rE qJ qK qC qD qE qF qG h_8 h_19 rK h20_l rL rM rN rO rP rQ rR rS v) (ex_zjsn_8 rF rG rH rI t7_l t8_l t9_ rJ t21_ rE qJ qK qC qD qE qF qG h_8 h_19 rK h20_l rL rM rN rO rP rQ rR rS j v2).1 (ex_zjsn_8 rF rG rH rI t7_l t8_l t9_ rJ t21_ rE qJ qK qC qD qE qF qG h_8 h_19 rK h20_l rL rM rN rO rP rQ rR rS j v2).2 :=
 loop_ok2 (L := find []) (n := 0) (hints := [(10, 15, { keep := [2, 7, 8, 52, 53], acc := [] }), (10, 8, { keep := [1, 2, 3, 7, 8, 9, 10, 20, 21, 30, 31], acc := [] }), (10, 4, { keep := [1, 2, 3, 7, 8, 20, 21], acc := [] })]) (cx_ok rfl) rdy_zjsn bs_zjsn_8 nilB (fun v => (rnd_zjsn_8 rF rG rH rI t7_l t8_l t9_ rJ t21_ rE qJ qK qC qD qE qF qG h_8 h_19 rK h20_l rL rM rN rO rP rQ rR rS v).trans (DT.go_run _ _)) (by intro j v; unfold ex_zjsn_8; split <;> rfl)
theorem mke_zjsn_8 (rF : OBz) (rG : Bool) (rH : Le) (rI : Int) (t7_l t8_l : Nat) (t9_ rJ t21_ rE : Int) (qJ : OBz) (qK : Bool) (qC : Ls) (qD qE qF qG : Int) (h_8 : Lb) (h_19 : Lr) (rK : Bool) (h20_l : Nat) (rL rM rN rO rP rQ : Int) (rR rS : Bool) (v : S.zjsn_8_V) : mk_zjsn_8 rF rG rH rI t7_l t8_l t9_ rJ t21_ rE qJ qK qC qD qE qF qG h_8 h_19 rK h20_l rL rM rN rO rP rQ rR rS v = ⟨envOf 70 [(1, V.v false [C.d (.sl rF rG .evt rH)]), (2, (cV rI)), (3, V.v false [C.ptr 0 0]), (7, V.v false [C.own 4 .int true 0 t7_l]), (8, V.v false [C.own 8 .bool true 0 t8_l]), (9, (cV t9_)), (10, V.v false [C.ptr 20 0]), (20, (cV rJ)), (21, (cV t21_)), (30, (cV rE)), (31, (cV v.t31_))], heapOf 26 [(0, some
 (Blk.box 24
  [C.d (.sl qJ qK .step qC), (cI qD), (cI qE), (cI qF),
   (cI qG)])), (4, some (Blk.arr 3 .int v.h_4)), (8, some (Blk.arr 4 .bool h_8)), (19, some (Blk.arr 73 .run h_19)), (20, some
 (Blk.box 75
  [C.own 19 .run rK 0 h20_l, (cI rL), (cI rM), (cI rN),
   (cI rO), (cI rP), (cI rQ), cB rR,
   cB rS]))], 0⟩ := by kernel_rfl
theorem lo1_zjsn_8 (e1 e2 e3 e7 e8 e9 e10 e20 e21 e30 e31 : V) (h0 h4 h8 h19 h20 : Option Blk) e st2 (h : (T1_zjsn_8 e1 e2 e3 e7 e8 e9 e10 e20 e21 e30 e31 h0 h4 h8 h19 h20).eval = some (e, st2)) : Circles Tryz.prog cx_zjsn b_zjsn_8 ⟨envOf 70 [(1, e1), (2, e2), (3, e3), (7, e7), (8, e8), (9, e9), (10, e10), (20, e20), (21, e21), (30, e30), (31, e31)], heapOf 26 [(0, h0), (4, h4), (8, h8), (19, h19), (20, h20)], 0⟩ e st2 := by
 unfold T1_zjsn_8 at h
 split at h
 ·have := loop_tree (mk := mk_zjsn_8 _ _ _ _ _ _ _ _ _ _ _ _ _ _ _ _ _ _ _ _ _ _ _ _ _ _ _ _ _) (ci_zjsn_8 _ _ _ _ _ _ _ _ _ _ _ _ _ _ _ _ _ _ _ _ _ _ _ _ _ _ _ _ _) _ _ e st2 h
  rw [mke_zjsn_8] at this
  exact this
 ·cases h
theorem lok_zjsn_8 : LoopOk Tryz.prog cx_zjsn b_zjsn_8 T_zjsn_8 := by
 intro st e st2 h
 unfold T_zjsn_8 at h
 cases hk : okSt 70 26 0 [0, 4, 8, 19, 20] st with
 | false => rw [hk] at h; cases h
 | true =>
  rw [hk] at h
  exact circles_keep (ks := [1, 2, 3, 7, 8, 9, 10, 20, 21, 30, 31]) hk (lo1_zjsn_8 _ _ _ _ _ _ _ _ _ _ _ _ _ _ _ _ e st2 h)
structure S.zjsn_4_V where
 t21_ : Int
 h_4 : Li
 h_8 : Lb
def S.zjsn_4_R (rH : Le) (t7_l t8_l : Nat) (rJ : Int) (qC : Ls) (qD qE qF qG : Int) (v : S.zjsn_4_V) : DT (Option Nat × S.zjsn_4_V) :=
let y0 : Int := (↑(S.zu6e_o qC qD qE qF qG rH v.t21_).x2 : Int)
let y1 : S.zjsn_8_V := { t31_ := 0, h_4 := v.h_4 : S.zjsn_8_V }
let y2 : Nat := 0 + v.t21_.toNat
(.br (xdec (v.t21_ < rJ))
(.br (S.zu6e_is qC qD qE qF qG rH v.t21_)
(.br (S.zjsn_8_j t7_l v.t21_ y0 y1 0)
(.br (xdec (0 ≤ v.t21_) && xdec (v.t21_ < (↑t8_l : Int)))
(.br (xdec (y2 < v.h_8.length))
(.leaf (none, ⟨xwrap .i64 (v.t21_ + 1), (S.zjsn_8_v t7_l v.t21_ y0 y1).h_4, v.h_8.set y2 (xdec (y0 > 0))⟩))
.fail)
.fail)
.fail)
.fail)
(.leaf (some 0, v)))
def S.zjsn_4_r (rH : Le) (t7_l t8_l : Nat) (rJ : Int) (qC : Ls) (qD qE qF qG : Int) (v : S.zjsn_4_V) : Option (Option Nat × S.zjsn_4_V) := (S.zjsn_4_R rH t7_l t8_l rJ qC qD qE qF qG v).run
def S.zjsn_4_j (rH : Le) (t7_l t8_l : Nat) (rJ : Int) (qC : Ls) (qD qE qF qG : Int) (v : S.zjsn_4_V) (j : Nat) : Bool := Lp_j (S.zjsn_4_r rH t7_l t8_l rJ qC qD qE qF qG) v j
def S.zjsn_4_v (rH : Le) (t7_l t8_l : Nat) (rJ : Int) (qC : Ls) (qD qE qF qG : Int) (v : S.zjsn_4_V) : S.zjsn_4_V := Lp_v (S.zjsn_4_r rH t7_l t8_l rJ qC qD qE qF qG) v
def mk_zjsn_4 (rF : OBz) (rG : Bool) (rH : Le) (rI : Int) (t7_l t8_l : Nat) (rJ : Int) (qJ : OBz) (qK : Bool) (qC : Ls) (qD qE qF qG : Int) (v : S.zjsn_4_V) : St := ⟨(V.any :: (V.v false [C.d (.sl rF rG .evt rH)] :: ((cV rI) :: (V.v false [C.ptr 0 0] :: (vs 3 (V.v false [C.own 4 .int true 0 t7_l] :: (V.v false [C.own 8 .bool true 0 t8_l] :: (vs 11 ((cV rJ) :: ((cV v.t21_) :: (vs 48 []))))))))))), (some (Blk.box 24 [C.d (.sl qJ qK .step qC), (cI qD), (cI qE), (cI qF), (cI qG)]) :: (ns 3 (some (Blk.arr 3 .int v.h_4) :: (ns 3 (some (Blk.arr 4 .bool v.h_8) :: (ns 4 [])))))), 0⟩
def ex_zjsn_4 (rF : OBz) (rG : Bool) (rH : Le) (rI : Int) (t7_l t8_l : Nat) (rJ : Int) (qJ : OBz) (qK : Bool) (qC : Ls) (qD qE qF qG : Int) (j : Nat) (v : S.zjsn_4_V) : Ex × St := match j with
 | 0 => (Ex.exit 0, ⟨(V.any :: (V.v false [C.d (.sl rF rG .evt rH)] :: ((cV rI) :: (vs 4 (V.v false [C.own 4 .int true 0 t7_l] :: (V.v false [C.own 8 .bool true 0 t8_l] :: (vs 61 []))))))), (some
  (Blk.box 24
   [C.d (.sl qJ qK .step qC), (cI qD), (cI qE), (cI qF),
    (cI qG)]) :: (ns 3 (some (Blk.arr 3 .int v.h_4) :: (ns 3 (some (Blk.arr 4 .bool v.h_8) :: (ns 5 [])))))), 0⟩)
 | _ => (.ret, ⟨[], [], 0⟩)
def T1_zjsn_4 : V → V → V → V → V → V → V → Option Blk → Option Blk → Option Blk → Tree
 | V.v false [C.d (.sl rF rG .evt rH)], V.v false [C.d (.sc (.int .i64 rI))], V.v false [C.ptr 0 0], V.v false [C.own 4 .int true 0 t7_l], V.v false [C.own 8 .bool true 0 t8_l], V.v false [C.d (.sc (.int .i64 rJ))], V.v false [C.d (.sc (.int .i64 t21_))], some (Blk.box 24 [C.d (.sl qJ qK .step qC), C.d (.sc (.int .i64 qD)), C.d (.sc (.int .i64 qE)), C.d (.sc (.int .i64 qF)), C.d (.sc (.int .i64 qG))]), some (Blk.arr 3 .int h_4), some (Blk.arr 4 .bool h_8) => exT (fun j => ex_zjsn_4 rF rG rH rI t7_l t8_l rJ qJ qK qC qD qE qF qG j (S.zjsn_4_v rH t7_l t8_l rJ qC qD qE qF qG ⟨t21_, h_4, h_8⟩)) (S.zjsn_4_j rH t7_l t8_l rJ qC qD qE qF qG ⟨t21_, h_4, h_8⟩) [0]
 | _, _, _, _, _, _, _, _, _, _ => .bad
def T_zjsn_4 (st : St) : Tree := bif okSt 70 13 0 [0, 4, 8] st then T1_zjsn_4 (st.env.getD 1 .any) (st.env.getD 2 .any) (st.env.getD 3 .any) (st.env.getD 7 .any) (st.env.getD 8 .any) (st.env.getD 20 .any) (st.env.getD 21 .any) (lk st.heap 0) (lk st.heap 4) (lk st.heap 8) else .bad
def b_zjsn_4 : Code := loopBy Tryz.f10 4
theorem rnd_zjsn_4 (rF : OBz) (rG : Bool) (rH : Le) (rI : Int) (t7_l t8_l : Nat) (rJ : Int) (qJ : OBz) (qK : Bool) (qC : Ls) (qD qE qF qG : Int) (v : S.zjsn_4_V) : round2 cx_zjsn (hdI cx_zjsn (find [(8, T_zjsn_8)]) [] none 0) 10 b_zjsn_4 [] 13 [1, 2, 7, 8] (mk_zjsn_4 rF rG rH rI t7_l t8_l rJ qJ qK qC qD qE qF qG v) = (S.zjsn_4_R rH t7_l t8_l rJ qC qD qE qF qG v).go (roundOut (mk_zjsn_4 rF rG rH rI t7_l t8_l rJ qJ qK qC qD qE qF qG) (ex_zjsn_4 rF rG rH rI t7_l t8_l rJ qJ qK qC qD qE qF qG)) := by kernel_rfl
theorem bs_zjsn_4 : loopsOf b_zjsn_4 ++ loopsInl [] = [b_zjsn_8] := by kernel_rfl
theorem ci_zjsn_4 (rF : OBz) (rG : Bool) (rH : Le) (rI : Int) (t7_l t8_l : Nat) (rJ : Int) (qJ : OBz) (qK : Bool) (qC : Ls) (qD qE qF qG : Int) : ∀ v j v2, Lp (S.zjsn_4_r rH t7_l t8_l rJ qC qD qE qF qG) v = some (j, v2) → Circles Tryz.prog cx_zjsn b_zjsn_4 (mk_zjsn_4 rF rG rH rI t7_l t8_l rJ qJ qK qC qD qE qF qG v) (ex_zjsn_4 rF rG rH rI t7_l t8_l rJ qJ qK qC qD qE qF qG j v2).1 (ex_zjsn_4 rF rG rH rI t7_l t8_l rJ qJ qK qC qD qE qF qG j v2).2 :=
 loop_ok2 (L := find [(8, T_zjsn_8)]) (n := 0) (hints := [(10, 15, { keep := [2, 7, 8, 52, 53], acc := [] }), (10, 8, { keep := [1, 2, 3, 7, 8, 9, 10, 20, 21, 30, 31], acc := [] }), (10, 4, { keep := [1, 2, 3, 7, 8, 20, 21], acc := [] })]) (cx_ok rfl) rdy_zjsn bs_zjsn_4 (consB (fun T h => by have e : T_zjsn_8 = T := Option.some.inj (show some T_zjsn_8 = some T from h); exact e ▸ lok_zjsn_8) nilB) (fun v => (rnd_zjsn_4 rF rG rH rI t7_l t8_l rJ qJ qK qC qD qE qF qG v).trans (DT.go_run _ _)) (by intro j v; unfold ex_zjsn_4; split <;> rfl)
theorem mke_zjsn_4 (rF : OBz) (rG : Bool) (rH : Le) (rI : Int) (t7_l t8_l : Nat) (rJ : Int) (qJ : OBz) (qK : Bool) (qC : Ls) (qD qE qF qG : Int) (v : S.zjsn_4_V) : mk_zjsn_4 rF rG rH rI t7_l t8_l rJ qJ qK qC qD qE qF qG v = ⟨envOf 70 [(1, V.v false [C.d (.sl rF rG .evt rH)]), (2, (cV rI)), (3, V.v false [C.ptr 0 0]), (7, V.v false [C.own 4 .int true 0 t7_l]), (8, V.v false [C.own 8 .bool true 0 t8_l]), (20, (cV rJ)), (21, (cV v.t21_))], heapOf 13 [(0, some
 (Blk.box 24
  [C.d (.sl qJ qK .step qC), (cI qD), (cI qE), (cI qF),
   (cI qG)])), (4, some (Blk.arr 3 .int v.h_4)), (8, some (Blk.arr 4 .bool v.h_8))], 0⟩ := by kernel_rfl
theorem lo1_zjsn_4 (e1 e2 e3 e7 e8 e20 e21 : V) (h0 h4 h8 : Option Blk) e st2 (h : (T1_zjsn_4 e1 e2 e3 e7 e8 e20 e21 h0 h4 h8).eval = some (e, st2)) : Circles Tryz.prog cx_zjsn b_zjsn_4 ⟨envOf 70 [(1, e1), (2, e2), (3, e3), (7, e7), (8, e8), (20, e20), (21, e21)], heapOf 13 [(0, h0), (4, h4), (8, h8)], 0⟩ e st2 := by
 unfold T1_zjsn_4 at h
 split at h
 ·have := loop_tree (mk := mk_zjsn_4 _ _ _ _ _ _ _ _ _ _ _ _ _ _) (ci_zjsn_4 _ _ _ _ _ _ _ _ _ _ _ _ _ _) _ _ e st2 h
  rw [mke_zjsn_4] at this
  exact this
 ·cases h
theorem lok_zjsn_4 : LoopOk Tryz.prog cx_zjsn b_zjsn_4 T_zjsn_4 := by
 intro st e st2 h
 unfold T_zjsn_4 at h
 cases hk : okSt 70 13 0 [0, 4, 8] st with
 | false => rw [hk] at h; cases h
 | true =>
  rw [hk] at h
  exact circles_keep (ks := [1, 2, 3, 7, 8, 20, 21]) hk (lo1_zjsn_4 _ _ _ _ _ _ _ _ _ _ e st2 h)
structure S.zjsn_15_V where
 t53_ : Int
def S.zjsn_15_R (rI : Int) (t7_l t8_l : Nat) (rT : Int) (h_4 : Li) (h_8 : Lb) (v : S.zjsn_15_V) : DT (Option Nat × S.zjsn_15_V) :=
let y0 : Bool := xdec (0 ≤ v.t53_)
let y1 : Nat := 0 + v.t53_.toNat
let y2 : Int := xwrap .i64 (v.t53_ + 1)
(.br (xdec (v.t53_ < rT))
(.br (y0 && xdec (v.t53_ < (↑t8_l : Int)))
(.br (xdec (y1 < h_8.length))
(.br (h_8.getD y1 (dflt .bool))
(.br (y0 && xdec (v.t53_ < (↑t7_l : Int)))
(.br (xdec (y1 < h_4.length))
(.br (xdec (h_4.getD y1 (dflt .int) > rI))
(.leaf (some 0, v))
(.leaf (none, ⟨y2⟩)))
.fail)
.fail)
(.leaf (none, ⟨y2⟩)))
.fail)
.fail)
(.leaf (some 1, v)))
def S.zjsn_15_r (rI : Int) (t7_l t8_l : Nat) (rT : Int) (h_4 : Li) (h_8 : Lb) (v : S.zjsn_15_V) : Option (Option Nat × S.zjsn_15_V) := (S.zjsn_15_R rI t7_l t8_l rT h_4 h_8 v).run
def S.zjsn_15_j (rI : Int) (t7_l t8_l : Nat) (rT : Int) (h_4 : Li) (h_8 : Lb) (v : S.zjsn_15_V) (j : Nat) : Bool := Lp_j (S.zjsn_15_r rI t7_l t8_l rT h_4 h_8) v j
def S.zjsn_15_v (rI : Int) (t7_l t8_l : Nat) (rT : Int) (h_4 : Li) (h_8 : Lb) (v : S.zjsn_15_V) : S.zjsn_15_V := Lp_v (S.zjsn_15_r rI t7_l t8_l rT h_4 h_8) v
def mk_zjsn_15 (rI : Int) (t7_l t8_l : Nat) (rT : Int) (qJ : OBz) (qK : Bool) (qC : Ls) (qD qE qF qG : Int) (h_4 : Li) (h_8 : Lb) (v : S.zjsn_15_V) : St := ⟨(V.any :: (V.any :: ((cV rI) :: (vs 4 (V.v false [C.own 4 .int true 0 t7_l] :: (V.v false [C.own 8 .bool true 0 t8_l] :: (vs 43 ((cV rT) :: ((cV v.t53_) :: (vs 16 [])))))))))), (some (Blk.box 24 [C.d (.sl qJ qK .step qC), (cI qD), (cI qE), (cI qF), (cI qG)]) :: (ns 3 (some (Blk.arr 3 .int h_4) :: (ns 3 (some (Blk.arr 4 .bool h_8) :: (ns 8 [])))))), 0⟩
def ex_zjsn_15 (rI : Int) (t7_l t8_l : Nat) (rT : Int) (qJ : OBz) (qK : Bool) (qC : Ls) (qD qE qF qG : Int) (h_4 : Li) (h_8 : Lb) (j : Nat) (v : S.zjsn_15_V) : Ex × St := match j with
 | 0 => (Ex.ret, ⟨(vs 6 ((cV v.t53_) :: (vs 63 []))), (some
  (Blk.box 24
   [C.d (.sl qJ qK .step qC), (cI qD), (cI qE), (cI qF),
    (cI qG)]) :: (ns 3 (some (Blk.arr 3 .int h_4) :: (ns 3 (some (Blk.arr 4 .bool h_8) :: (ns 25 [])))))), 0⟩)
 | 1 => (Ex.exit 4, ⟨(vs 70 []), (some
  (Blk.box 24
   [C.d (.sl qJ qK .step qC), (cI qD), (cI qE), (cI qF),
    (cI qG)]) :: (ns 3 (some (Blk.arr 3 .int h_4) :: (ns 3 (some (Blk.arr 4 .bool h_8) :: (ns 9 [])))))), 0⟩)
 | _ => (.ret, ⟨[], [], 0⟩)
def T1_zjsn_15 : V → V → V → V → V → Option Blk → Option Blk → Option Blk → Tree
 | V.v false [C.d (.sc (.int .i64 rI))], V.v false [C.own 4 .int true 0 t7_l], V.v false [C.own 8 .bool true 0 t8_l], V.v false [C.d (.sc (.int .i64 rT))], V.v false [C.d (.sc (.int .i64 t53_))], some (Blk.box 24 [C.d (.sl qJ qK .step qC), C.d (.sc (.int .i64 qD)), C.d (.sc (.int .i64 qE)), C.d (.sc (.int .i64 qF)), C.d (.sc (.int .i64 qG))]), some (Blk.arr 3 .int h_4), some (Blk.arr 4 .bool h_8) => exT (fun j => ex_zjsn_15 rI t7_l t8_l rT qJ qK qC qD qE qF qG h_4 h_8 j (S.zjsn_15_v rI t7_l t8_l rT h_4 h_8 ⟨t53_⟩)) (S.zjsn_15_j rI t7_l t8_l rT h_4 h_8 ⟨t53_⟩) [0, 1]
 | _, _, _, _, _, _, _, _ => .bad
def T_zjsn_15 (st : St) : Tree := bif okSt 70 17 0 [0, 4, 8] st then T1_zjsn_15 (st.env.getD 2 .any) (st.env.getD 7 .any) (st.env.getD 8 .any) (st.env.getD 52 .any) (st.env.getD 53 .any) (lk st.heap 0) (lk st.heap 4) (lk st.heap 8) else .bad
def b_zjsn_15 : Code := loopBy Tryz.f10 15
theorem rnd_zjsn_15 (rI : Int) (t7_l t8_l : Nat) (rT : Int) (qJ : OBz) (qK : Bool) (qC : Ls) (qD qE qF qG : Int) (h_4 : Li) (h_8 : Lb) (v : S.zjsn_15_V) : round2 cx_zjsn (hdI cx_zjsn (find [(8, T_zjsn_8), (4, T_zjsn_4)]) [] none 0) 10 b_zjsn_15 [] 17 [6] (mk_zjsn_15 rI t7_l t8_l rT qJ qK qC qD qE qF qG h_4 h_8 v) = (S.zjsn_15_R rI t7_l t8_l rT h_4 h_8 v).go (roundOut (mk_zjsn_15 rI t7_l t8_l rT qJ qK qC qD qE qF qG h_4 h_8) (ex_zjsn_15 rI t7_l t8_l rT qJ qK qC qD qE qF qG h_4 h_8)) := by kernel_rfl
theorem bs_zjsn_15 : loopsOf b_zjsn_15 ++ loopsInl [] = [] := by kernel_rfl
theorem ci_zjsn_15 (rI : Int) (t7_l t8_l : Nat) (rT : Int) (qJ : OBz) (qK : Bool) (qC : Ls) (qD qE qF qG : Int) (h_4 : Li) (h_8 : Lb) : ∀ v j v2, Lp (S.zjsn_15_r rI t7_l t8_l rT h_4 h_8) v = some (j, v2) → Circles Tryz.prog cx_zjsn b_zjsn_15 (mk_zjsn_15 rI t7_l t8_l rT qJ qK qC qD qE qF qG h_4 h_8 v) (ex_zjsn_15 rI t7_l t8_l rT qJ qK qC qD qE qF qG h_4 h_8 j v2).1 (ex_zjsn_15 rI t7_l t8_l rT qJ qK qC qD qE qF qG h_4 h_8 j v2).2 :=
 loop_ok2 (L := find [(8, T_zjsn_8), (4, T_zjsn_4)]) (n := 0) (hints := [(10, 15, { keep := [2, 7, 8, 52, 53], acc := [] }), (10, 8, { keep := [1, 2, 3, 7, 8, 9, 10, 20, 21, 30, 31], acc := [] }), (10, 4, { keep := [1, 2, 3, 7, 8, 20, 21], acc := [] })]) (cx_ok rfl) rdy_zjsn bs_zjsn_15 nilB (fun v => (rnd_zjsn_15 rI t7_l t8_l rT qJ qK qC qD qE qF qG h_4 h_8 v).trans (DT.go_run _ _)) (by intro j v; unfold ex_zjsn_15; split <;> rfl)
theorem mke_zjsn_15 (rI : Int) (t7_l t8_l : Nat) (rT : Int) (qJ : OBz) (qK : Bool) (qC : Ls) (qD qE qF qG : Int) (h_4 : Li) (h_8 : Lb) (v : S.zjsn_15_V) : mk_zjsn_15 rI t7_l t8_l rT qJ qK qC qD qE qF qG h_4 h_8 v = ⟨envOf 70 [(2, (cV rI)), (7, V.v false [C.own 4 .int true 0 t7_l]), (8, V.v false [C.own 8 .bool true 0 t8_l]), (52, (cV rT)), (53, (cV v.t53_))], heapOf 17 [(0, some
 (Blk.box 24
  [C.d (.sl qJ qK .step qC), (cI qD), (cI qE), (cI qF),
   (cI qG)])), (4, some (Blk.arr 3 .int h_4)), (8, some (Blk.arr 4 .bool h_8))], 0⟩ := by kernel_rfl
theorem lo1_zjsn_15 (e2 e7 e8 e52 e53 : V) (h0 h4 h8 : Option Blk) e st2 (h : (T1_zjsn_15 e2 e7 e8 e52 e53 h0 h4 h8).eval = some (e, st2)) : Circles Tryz.prog cx_zjsn b_zjsn_15 ⟨envOf 70 [(2, e2), (7, e7), (8, e8), (52, e52), (53, e53)], heapOf 17 [(0, h0), (4, h4), (8, h8)], 0⟩ e st2 := by
 unfold T1_zjsn_15 at h
 split at h
 ·have := loop_tree (mk := mk_zjsn_15 _ _ _ _ _ _ _ _ _ _ _ _ _) (ci_zjsn_15 _ _ _ _ _ _ _ _ _ _ _ _ _) _ _ e st2 h
  rw [mke_zjsn_15] at this
  exact this
 ·cases h
theorem lok_zjsn_15 : LoopOk Tryz.prog cx_zjsn b_zjsn_15 T_zjsn_15 := by
 intro st e st2 h
 unfold T_zjsn_15 at h
 cases hk : okSt 70 17 0 [0, 4, 8] st with
 | false => rw [hk] at h; cases h
 | true =>
  rw [hk] at h
  exact circles_keep (ks := [2, 7, 8, 52, 53]) hk (lo1_zjsn_15 _ _ _ _ _ _ _ _ e st2 h)
structure S.zjsn_T where
 x0 : Int
 deriving Inhabited
def S.zjsn_R (a0_0 : Ls) (a0_1 a0_2 a0_3 a0_4 : Int) (a1 : Le) (a2 : Int) : DT S.zjsn_T :=
let y0 : Int := (↑a1.length : Int)
let y1 : Bool := xdec (0 ≤ y0) && xdec (y0 ≤ 1048576) && xeqI y0 y0
let y2 := y0.toNat
let y3 : S.zjsn_4_V := { t21_ := 0, h_4 := List.replicate y2 (dflt .int), h_8 := List.replicate y2 (dflt .bool) : S.zjsn_4_V }
let y4 := S.zjsn_4_v a1 y2 y2 y0 a0_0 a0_1 a0_2 a0_3 a0_4 y3
let y5 := y4.h_4
let y6 := y4.h_8
let y7 : S.zjsn_15_V := { t53_ := 0 : S.zjsn_15_V }
(.br (y1)
(.br (y1)
(.br (S.zjsn_4_j a1 y2 y2 y0 a0_0 a0_1 a0_2 a0_3 a0_4 y3 0)
(.br (S.zjsn_15_j a2 y2 y2 y0 y5 y6 y7 0)
(.leaf ⟨(S.zjsn_15_v a2 y2 y2 y0 y5 y6 y7).t53_⟩)
(.br (S.zjsn_15_j a2 y2 y2 y0 y5 y6 y7 1)
(.leaf ⟨-1⟩)
.fail))
.fail)
.fail)
.fail)
def S.zjsn (a0_0 : Ls) (a0_1 a0_2 a0_3 a0_4 : Int) (a1 : Le) (a2 : Int) : Option S.zjsn_T := (S.zjsn_R a0_0 a0_1 a0_2 a0_3 a0_4 a1 a2).run
def S.zjsn_is (a0_0 : Ls) (a0_1 a0_2 a0_3 a0_4 : Int) (a1 : Le) (a2 : Int) : Bool := (S.zjsn a0_0 a0_1 a0_2 a0_3 a0_4 a1 a2).isSome
def S.zjsn_o (a0_0 : Ls) (a0_1 a0_2 a0_3 a0_4 : Int) (a1 : Le) (a2 : Int) : S.zjsn_T := (S.zjsn a0_0 a0_1 a0_2 a0_3 a0_4 a1 a2).getD default
def ret_zjsn (b : Bool) (r : S.zjsn_T) : Ret := ⟨b, none, [(false, [(cI r.x0)])]⟩
def g_zjsn : Con
 | [(true, [.sl a0_0n a0_0f .step a0_0, .sc (.int .i64 a0_1), .sc (.int .i64 a0_2), .sc (.int .i64 a0_3), .sc (.int .i64 a0_4)]), (false, [.sl a1n a1f .evt a1]), (false, [.sc (.int .i64 a2)])] => some (ret_zjsn (S.zjsn_is a0_0 a0_1 a0_2 a0_3 a0_4 a1 a2) (S.zjsn_o a0_0 a0_1 a0_2 a0_3 a0_4 a1 a2))
 | _ => none
theorem raw_zjsn (a0_0n : OBz) (a0_0f : Bool) (a0_0 : Ls) (a0_1 a0_2 a0_3 a0_4 : Int) (a1n : OBz) (a1f : Bool) (a1 : Le) (a2 : Int) : evR2 cx_zjsn (hdI cx_zjsn (find [(8, T_zjsn_8), (4, T_zjsn_4), (15, T_zjsn_15)]) [] none 0) none Tryz.f10 10 none [(true, [.sl a0_0n a0_0f .step a0_0, dI a0_1, dI a0_2, dI a0_3, dI a0_4]), (false, [.sl a1n a1f .evt a1]), (false, [dI a2])] some = (S.zjsn_R a0_0 a0_1 a0_2 a0_3 a0_4 a1 a2).go (ret_zjsn true) := by kernel_rfl
theorem bs_zjsn : loopsIn Tryz.f10 [] = [b_zjsn_4, b_zjsn_15] := by kernel_rfl
theorem zjsn_ok : Stands Tryz.prog tyTab 10 g_zjsn := by
 refine stands3 (L := find [(8, T_zjsn_8), (4, T_zjsn_4), (15, T_zjsn_15)]) (n := 0) (hints := [(10, 15, { keep := [2, 7, 8, 52, 53], acc := [] }), (10, 8, { keep := [1, 2, 3, 7, 8, 9, 10, 20, 21, 30, 31], acc := [] }), (10, 4, { keep := [1, 2, 3, 7, 8, 20, 21], acc := [] })]) (cx_ok rfl) rdy_zjsn ⟨by kernel_rfl, by kernel_rfl, by kernel_rfl⟩ bs_zjsn (consB (fun T h => by have e : T_zjsn_4 = T := Option.some.inj (show some T_zjsn_4 = some T from h); exact e ▸ lok_zjsn_4) (consB (fun T h => by have e : T_zjsn_15 = T := Option.some.inj (show some T_zjsn_15 = some T from h); exact e ▸ lok_zjsn_15) nilB)) (fun das r hG hr => ?_)
 unfold g_zjsn at hG
 split at hG
 ·rename_i a0_0n a0_0f a0_0 a0_1 a0_2 a0_3 a0_4 a1n a1f a1 a2
  injection hG with hG; subst hG
  exact ⟨none, true, win default ((raw_zjsn a0_0n a0_0f a0_0 a0_1 a0_2 a0_3 a0_4 a1n a1f a1 a2).trans (DT.go_run _ _)) hr⟩
 ·cases hG
abbrev cx_zpzf : Cx := mkCx2 tyTab [] [] [] []
theorem rdy_zpzf : Ready Tryz.prog tyTab [] [] [] := ⟨noneG2, noneI2, noneF2⟩
structure S.zpzf_T where
 x0 : OBz
 x1 : Bool
 x2 : Le
 x3 : OBz
 x4 : Bool
 x5 : Ls
 x6 : Int
 x7 : Int
 x8 : Int
 x9 : Int
 deriving Inhabited
def S.zpzf_R (a0_0n : OBz) (a0_0f : Bool) (a0_0 : Ls) (a0_1 a0_2 a0_3 a0_4 : Int) (a1n : OBz) (a1f : Bool) (a1 : Le) : DT S.zpzf_T :=
(.leaf ⟨a1n, a1f, a1, a0_0n, a0_0f, a0_0, a0_1, a0_2, a0_3, a0_4⟩)
def S.zpzf (a0_0n : OBz) (a0_0f : Bool) (a0_0 : Ls) (a0_1 a0_2 a0_3 a0_4 : Int) (a1n : OBz) (a1f : Bool) (a1 : Le) : Option S.zpzf_T := (S.zpzf_R a0_0n a0_0f a0_0 a0_1 a0_2 a0_3 a0_4 a1n a1f a1).run
def S.zpzf_is (a0_0n : OBz) (a0_0f : Bool) (a0_0 : Ls) (a0_1 a0_2 a0_3 a0_4 : Int) (a1n : OBz) (a1f : Bool) (a1 : Le) : Bool := (S.zpzf a0_0n a0_0f a0_0 a0_1 a0_2 a0_3 a0_4 a1n a1f a1).isSome
def S.zpzf_o (a0_0n : OBz) (a0_0f : Bool) (a0_0 : Ls) (a0_1 a0_2 a0_3 a0_4 : Int) (a1n : OBz) (a1f : Bool) (a1 : Le) : S.zpzf_T := (S.zpzf a0_0n a0_0f a0_0 a0_1 a0_2 a0_3 a0_4 a1n a1f a1).getD default
def ret_zpzf (b : Bool) (r : S.zpzf_T) : Ret := ⟨b, none, [(false,
    [C.d
        (D.fn 38 []
         [[D.sl r.x0 r.x1 .evt r.x2],
          [D.sl r.x3 r.x4 .step r.x5, D.sc (Sc.int IntKind.i64 r.x6), D.sc (Sc.int IntKind.i64 r.x7), D.sc (Sc.int IntKind.i64 r.x8), D.sc (Sc.int IntKind.i64 r.x9)]])])]⟩
def g_zpzf : Con
 | [(true, [.sl a0_0n a0_0f .step a0_0, .sc (.int .i64 a0_1), .sc (.int .i64 a0_2), .sc (.int .i64 a0_3), .sc (.int .i64 a0_4)]), (false, [.sl a1n a1f .evt a1])] => some (ret_zpzf (S.zpzf_is a0_0n a0_0f a0_0 a0_1 a0_2 a0_3 a0_4 a1n a1f a1) (S.zpzf_o a0_0n a0_0f a0_0 a0_1 a0_2 a0_3 a0_4 a1n a1f a1))
 | _ => none
theorem raw_zpzf (a0_0n : OBz) (a0_0f : Bool) (a0_0 : Ls) (a0_1 a0_2 a0_3 a0_4 : Int) (a1n : OBz) (a1f : Bool) (a1 : Le) : evR2 cx_zpzf (hdI cx_zpzf (find []) [] none 0) none Tryz.f21 21 none [(true, [.sl a0_0n a0_0f .step a0_0, dI a0_1, dI a0_2, dI a0_3, dI a0_4]), (false, [.sl a1n a1f .evt a1])] some = (S.zpzf_R a0_0n a0_0f a0_0 a0_1 a0_2 a0_3 a0_4 a1n a1f a1).go (ret_zpzf true) := by kernel_rfl
theorem bs_zpzf : loopsIn Tryz.f21 [] = [] := by kernel_rfl
theorem zpzf_ok : Stands Tryz.prog tyTab 21 g_zpzf := by
 refine stands3 (L := find []) (n := 0) (hints := []) (cx_ok rfl) rdy_zpzf ⟨by kernel_rfl, by kernel_rfl, by kernel_rfl⟩ bs_zpzf nilB (fun das r hG hr => ?_)
 unfold g_zpzf at hG
 split at hG
 ·rename_i a0_0n a0_0f a0_0 a0_1 a0_2 a0_3 a0_4 a1n a1f a1
  injection hG with hG; subst hG
  exact ⟨none, true, win default ((raw_zpzf a0_0n a0_0f a0_0 a0_1 a0_2 a0_3 a0_4 a1n a1f a1).trans (DT.go_run _ _)) hr⟩
 ·cases hG
end
end Go.Eng
