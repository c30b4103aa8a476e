/- Contracts, laid by program. -/
import Derived.Test.YtbjeikmkngcjlaaVZG5
import Derived.Test.YtbjeikmkngcjlaaVZE3
set_option maxHeartbeats 2000000
set_option maxRecDepth 10000
set_option linter.unusedVariables false
namespace Go.Eng
noncomputable section
open Go Go.Eng Go.Proofs Go.Eng.Tab
abbrev cx_z64k : Cx := mkCx2 tyTab [(49, g_zunj), (52, g_zvb5), (54, g_zwus)] [] [(13, 19, { keep := [0, 4, 5, 11], acc := [] }), (13, 12, { keep := [0, 4, 5, 6, 7, 8, 9, 10], acc := [] }), (13, 7, { keep := [0, 4, 5, 6], acc := [] })] []
theorem rdy_z64k : Ready Try.prog tyTab [(49, g_zunj), (52, g_zvb5), (54, g_zwus)] [] [] := ⟨consG2 zunj_ok (consG2 zvb5_ok (consG2 zwus_ok (noneG2))), noneI2, noneF2⟩
structure S.z64k_12_V where
 t9_ : Int
 t10_ : Int
 h39_ : Int
 h_39_1 : Int
 h_39_2 : Int
 h_39_3 : Int
 h_39_4 : Int
 h_39_5 : Int
 h_39_6 : Bool
def S.z64k_12_R (qA : List (Ty .int)) (qB : Int) (h_23 : List (Ty .step)) (h26_l : Nat) (qC : Int) (qD : Int) (qE : Int) (qF : Int) (v : S.z64k_12_V) : DT (Option Nat × S.z64k_12_V) :=
let y0 : Nat := 0 + h26_l
let y1 : Nat := 0 + 1
let y2 : Val := { kind := 0, n := qA.getD v.t10_.toNat (dflt .int), s := ByteArray.empty : Val }
let y3 : List (Ty .step) := sub h_23 0 y0
let y4 : ByteArray := { data := { toList := [97] : Array UInt8 } : ByteArray }
let y5 : List (Ty .val) := sub [y2] 0 y1
let y6 : S.zwus_T := S.zwus_o y3 qC qD qE qF v.h39_ v.h_39_1 v.h_39_2 v.h_39_3 v.h_39_4 v.h_39_5 v.h_39_6 y4 0 y5
(.br (xdec (v.t10_ < qB))
(.br (xeqI v.t9_ 0)
(.br (xdec (0 ≤ v.t10_) && xdec (v.t10_ < (↑qA.length : Int)))
(.br (xdec (y0 ≤ h_23.length) && true && (xdec (y1 ≤ ((List.replicate 1 (dflt .val)).set 0 y2).length) && true && true) &&
 S.zwus_is y3 qC qD qE qF v.h39_ v.h_39_1 v.h_39_2 v.h_39_3 v.h_39_4 v.h_39_5 v.h_39_6 y4 0 y5)
(.leaf (none, ⟨y6.x7, xwrap .i64 (v.t10_ + 1), y6.x0, y6.x1, y6.x2, y6.x3, y6.x4, y6.x5, y6.x6⟩))
.fail)
.fail)
(.leaf (some 0, v)))
(.leaf (some 0, v)))
def S.z64k_12_r (qA : List (Ty .int)) (qB : Int) (h_23 : List (Ty .step)) (h26_l : Nat) (qC : Int) (qD : Int) (qE : Int) (qF : Int) (v : S.z64k_12_V) : Option (Option Nat × S.z64k_12_V) := (S.z64k_12_R qA qB h_23 h26_l qC qD qE qF v).run
def S.z64k_12_j (qA : List (Ty .int)) (qB : Int) (h_23 : List (Ty .step)) (h26_l : Nat) (qC : Int) (qD : Int) (qE : Int) (qF : Int) (v : S.z64k_12_V) (j : Nat) : Bool := Lp_j (S.z64k_12_r qA qB h_23 h26_l qC qD qE qF) v j
def S.z64k_12_v (qA : List (Ty .int)) (qB : Int) (h_23 : List (Ty .step)) (h26_l : Nat) (qC : Int) (qD : Int) (qE : Int) (qF : Int) (v : S.z64k_12_V) : S.z64k_12_V := Lp_v (S.z64k_12_r qA qB h_23 h26_l qC qD qE qF) v
def mk_z64k_12 (qG : Option Bool) (qH : Bool) (qA : List (Ty .int)) (qB : Int) (qI : Int) (qJ : Int) (qK : Int) (qL : Int) (qM : Int) (qN : Int) (qO : Int) (qP : Bool) (qQ : Int) (qR : Int) (qS : Int) (qT : Int) (qU : Int) (qV : Int) (qW : Bool) (qX : Int) (qY : Int) (qZ : Int) (rA : Int) (rB : Int) (rC : Int) (rD : Bool) (rE : Int) (rF : Int) (rG : Int) (rH : Int) (rI : Int) (rJ : Int) (rK : Bool) (h_23 : List (Ty .step)) (h26_l : Nat) (qC : Int) (qD : Int) (qE : Int) (qF : Int) (h_33 : List (Ty .val)) (v : S.z64k_12_V) : St := ⟨(V.v false [C.d (.sl qG qH .int qA)] :: (vs 3 ((cV qB) :: (V.v false [C.ptr 16 0] :: ((cV qI) :: (V.v false [C.ptr 26 0] :: (V.v false [C.ptr 39 0] :: ((cV v.t9_) :: ((cV v.t10_) :: (vs 134 [])))))))))), (ns 16 (some (Blk.box 67 [(cI qJ), (cI qK), (cI qL), (cI qM), (cI qN), (cI qO), C.d (.sc (.bool qP)), (cI qQ), (cI qR), (cI qS), (cI qT), (cI qU), (cI qV), C.d (.sc (.bool qW)), (cI qX), (cI qY), (cI qZ), (cI rA), (cI rB), (cI rC), C.d (.sc (.bool rD)), (cI rE), (cI rF), (cI rG), (cI rH), (cI rI), (cI rJ), C.d (.sc (.bool rK))]) :: (ns 6 (some (Blk.arr 47 .step h_23) :: (none :: (none :: (some (Blk.box 45 [C.own 23 .step true 0 h26_l, (cI qC), (cI qD), (cI qE), (cI qF)]) :: (ns 6 (some (Blk.arr 52 .val h_33) :: (ns 5 (some (Blk.box 55 [(cI v.h39_), (cI v.h_39_1), (cI v.h_39_2), (cI v.h_39_3), (cI v.h_39_4), (cI v.h_39_5), C.d (.sc (.bool v.h_39_6))]) :: (ns 3 [])))))))))))), 0⟩
def ex_z64k_12 (qG : Option Bool) (qH : Bool) (qA : List (Ty .int)) (qB : Int) (qI : Int) (qJ : Int) (qK : Int) (qL : Int) (qM : Int) (qN : Int) (qO : Int) (qP : Bool) (qQ : Int) (qR : Int) (qS : Int) (qT : Int) (qU : Int) (qV : Int) (qW : Bool) (qX : Int) (qY : Int) (qZ : Int) (rA : Int) (rB : Int) (rC : Int) (rD : Bool) (rE : Int) (rF : Int) (rG : Int) (rH : Int) (rI : Int) (rJ : Int) (rK : Bool) (h_23 : List (Ty .step)) (h26_l : Nat) (qC : Int) (qD : Int) (qE : Int) (qF : Int) (h_33 : List (Ty .val)) (j : Nat) (v : S.z64k_12_V) : Ex × St := match j with
 | 0 => (Ex.exit 2, ⟨(V.v false [C.d (.sl qG qH .int qA)] :: (vs 3 ((cV qB) :: (V.v false [C.ptr 16 0] :: ((cV qI) :: (V.any :: (V.v false [C.ptr 39 0] :: ((cV v.t9_) :: (vs 135 []))))))))), (ns 16 (some
  (Blk.box 67
   [(cI qJ), (cI qK), (cI qL), (cI qM),
    (cI qN), (cI qO), C.d (.sc (.bool qP)), (cI qQ),
    (cI qR), (cI qS), (cI qT), (cI qU),
    (cI qV), C.d (.sc (.bool qW)), (cI qX), (cI qY),
    (cI qZ), (cI rA), (cI rB), (cI rC),
    C.d (.sc (.bool rD)), (cI rE), (cI rF), (cI rG),
    (cI rH), (cI rI), (cI rJ), C.d (.sc (.bool rK))]) :: (ns 6 (some (Blk.arr 47 .step h_23) :: (none :: (none :: (some
  (Blk.box 45
   [C.own 23 .step true 0 h26_l, (cI qC), (cI qD), (cI qE),
    (cI qF)]) :: (ns 6 (some (Blk.arr 52 .val h_33) :: (ns 5 (some
  (Blk.box 55
   [(cI v.h39_), (cI v.h_39_1), (cI v.h_39_2), (cI v.h_39_3),
    (cI v.h_39_4), (cI v.h_39_5), C.d (.sc (.bool v.h_39_6))]) :: (ns 10 [])))))))))))), 0⟩)
 | _ => (.ret, ⟨[], [], 0⟩)
def U_z64k_12_e0 (x : V) (K : (Option Bool) → Bool → (List (Ty .int)) → Tree) : Tree := match x with
 | V.v false [C.d (.sl qG qH .int qA)] => K qG qH qA
 | _ => .bad
def U_z64k_12_e4 (x : V) (K : Int → Tree) : Tree := match x with
 | V.v false [C.d (.sc (.int .i64 qB))] => K qB
 | _ => .bad
def U_z64k_12_e5 (x : V) (K : Tree) : Tree := match x with
 | V.v false [C.ptr 16 0] => K
 | _ => .bad
def U_z64k_12_e6 (x : V) (K : Int → Tree) : Tree := match x with
 | V.v false [C.d (.sc (.int .i64 qI))] => K qI
 | _ => .bad
def U_z64k_12_e7 (x : V) (K : Tree) : Tree := match x with
 | V.v false [C.ptr 26 0] => K
 | _ => .bad
def U_z64k_12_e8 (x : V) (K : Tree) : Tree := match x with
 | V.v false [C.ptr 39 0] => K
 | _ => .bad
def U_z64k_12_e9 (x : V) (K : Int → Tree) : Tree := match x with
 | V.v false [C.d (.sc (.int .i64 t9_))] => K t9_
 | _ => .bad
def U_z64k_12_e10 (x : V) (K : Int → Tree) : Tree := match x with
 | V.v false [C.d (.sc (.int .i64 t10_))] => K t10_
 | _ => .bad
def U_z64k_12_h16 (x : Option Blk) (K : Int → Int → Int → Int → Int → Int → Bool → Int → Int → Int → Int → Int → Int → Bool → Int → Int → Int → Int → Int → Int → Bool → Int → Int → Int → Int → Int → Int → Bool → Tree) : Tree := match x with
 | some (Blk.box 67 [C.d (.sc (.int .i64 qJ)), C.d (.sc (.int .i64 qK)), C.d (.sc (.int .i64 qL)), C.d (.sc (.int .i64 qM)), C.d (.sc (.int .i64 qN)), C.d (.sc (.int .i64 qO)), C.d (.sc (.bool qP)), C.d (.sc (.int .i64 qQ)), C.d (.sc (.int .i64 qR)), C.d (.sc (.int .i64 qS)), C.d (.sc (.int .i64 qT)), C.d (.sc (.int .i64 qU)), C.d (.sc (.int .i64 qV)), C.d (.sc (.bool qW)), C.d (.sc (.int .i64 qX)), C.d (.sc (.int .i64 qY)), C.d (.sc (.int .i64 qZ)), C.d (.sc (.int .i64 rA)), C.d (.sc (.int .i64 rB)), C.d (.sc (.int .i64 rC)), C.d (.sc (.bool rD)), C.d (.sc (.int .i64 rE)), C.d (.sc (.int .i64 rF)), C.d (.sc (.int .i64 rG)), C.d (.sc (.int .i64 rH)), C.d (.sc (.int .i64 rI)), C.d (.sc (.int .i64 rJ)), C.d (.sc (.bool rK))]) => K qJ qK qL qM qN qO qP qQ qR qS qT qU qV qW qX qY qZ rA rB rC rD rE rF rG rH rI rJ rK
 | _ => .bad
def U_z64k_12_h23 (x : Option Blk) (K : (List (Ty .step)) → Tree) : Tree := match x with
 | some (Blk.arr 47 .step h_23) => K h_23
 | _ => .bad
def U_z64k_12_h26 (x : Option Blk) (K : Nat → Int → Int → Int → Int → Tree) : Tree := match x with
 | some (Blk.box 45 [C.own 23 .step true 0 h26_l, C.d (.sc (.int .i64 qC)), C.d (.sc (.int .i64 qD)), C.d (.sc (.int .i64 qE)), C.d (.sc (.int .i64 qF))]) => K h26_l qC qD qE qF
 | _ => .bad
def U_z64k_12_h33 (x : Option Blk) (K : (List (Ty .val)) → Tree) : Tree := match x with
 | some (Blk.arr 52 .val h_33) => K h_33
 | _ => .bad
def U_z64k_12_h39 (x : Option Blk) (K : Int → Int → Int → Int → Int → Int → Bool → Tree) : Tree := match x with
 | some (Blk.box 55 [C.d (.sc (.int .i64 h39_)), C.d (.sc (.int .i64 h_39_1)), C.d (.sc (.int .i64 h_39_2)), C.d (.sc (.int .i64 h_39_3)), C.d (.sc (.int .i64 h_39_4)), C.d (.sc (.int .i64 h_39_5)), C.d (.sc (.bool h_39_6))]) => K h39_ h_39_1 h_39_2 h_39_3 h_39_4 h_39_5 h_39_6
 | _ => .bad
def T1_z64k_12 (e0 : V) (e4 : V) (e5 : V) (e6 : V) (e7 : V) (e8 : V) (e9 : V) (e10 : V) (h16 : Option Blk) (h23 : Option Blk) (h26 : Option Blk) (h33 : Option Blk) (h39 : Option Blk) : Tree := U_z64k_12_e0 e0 (fun qG qH qA => U_z64k_12_e4 e4 (fun qB => U_z64k_12_e5 e5 (U_z64k_12_e6 e6 (fun qI => U_z64k_12_e7 e7 (U_z64k_12_e8 e8 (U_z64k_12_e9 e9 (fun t9_ => U_z64k_12_e10 e10 (fun t10_ => U_z64k_12_h16 h16 (fun qJ qK qL qM qN qO qP qQ qR qS qT qU qV qW qX qY qZ rA rB rC rD rE rF rG rH rI rJ rK => U_z64k_12_h23 h23 (fun h_23 => U_z64k_12_h26 h26 (fun h26_l qC qD qE qF => U_z64k_12_h33 h33 (fun h_33 => U_z64k_12_h39 h39 (fun h39_ h_39_1 h_39_2 h_39_3 h_39_4 h_39_5 h_39_6 => exT (fun j => ex_z64k_12 qG qH qA qB qI qJ qK qL qM qN qO qP qQ qR qS qT qU qV qW qX qY qZ rA rB rC rD rE rF rG rH rI rJ rK h_23 h26_l qC qD qE qF h_33 j (S.z64k_12_v qA qB h_23 h26_l qC qD qE qF ⟨t9_, t10_, h39_, h_39_1, h_39_2, h_39_3, h_39_4, h_39_5, h_39_6⟩)) (S.z64k_12_j qA qB h_23 h26_l qC qD qE qF ⟨t9_, t10_, h39_, h_39_1, h_39_2, h_39_3, h_39_4, h_39_5, h_39_6⟩) [0])))))))))))))
def T_z64k_12 (st : St) : Tree := bif okSt 145 43 0 [16, 23, 26, 33, 39] st then T1_z64k_12 (st.env.getD 0 .any) (st.env.getD 4 .any) (st.env.getD 5 .any) (st.env.getD 6 .any) (st.env.getD 7 .any) (st.env.getD 8 .any) (st.env.getD 9 .any) (st.env.getD 10 .any) (lk st.heap 16) (lk st.heap 23) (lk st.heap 26) (lk st.heap 33) (lk st.heap 39) else .bad
def b_z64k_12 : Code := loopBy Try.f13 12
theorem rnd_z64k_12 (qG : Option Bool) (qH : Bool) (qA : List (Ty .int)) (qB : Int) (qI : Int) (qJ : Int) (qK : Int) (qL : Int) (qM : Int) (qN : Int) (qO : Int) (qP : Bool) (qQ : Int) (qR : Int) (qS : Int) (qT : Int) (qU : Int) (qV : Int) (qW : Bool) (qX : Int) (qY : Int) (qZ : Int) (rA : Int) (rB : Int) (rC : Int) (rD : Bool) (rE : Int) (rF : Int) (rG : Int) (rH : Int) (rI : Int) (rJ : Int) (rK : Bool) (h_23 : List (Ty .step)) (h26_l : Nat) (qC : Int) (qD : Int) (qE : Int) (qF : Int) (h_33 : List (Ty .val)) (v : S.z64k_12_V) : round2 cx_z64k (hdI cx_z64k (find []) [] none 0) 13 b_z64k_12 [] 43 [0, 4, 5, 6, 8, 9] (mk_z64k_12 qG qH qA qB qI qJ qK qL qM qN qO qP qQ qR qS qT qU qV qW qX qY qZ rA rB rC rD rE rF rG rH rI rJ rK h_23 h26_l qC qD qE qF h_33 v) = (S.z64k_12_R qA qB h_23 h26_l qC qD qE qF v).go (roundOut (mk_z64k_12 qG qH qA qB qI qJ qK qL qM qN qO qP qQ qR qS qT qU qV qW qX qY qZ rA rB rC rD rE rF rG rH rI rJ rK h_23 h26_l qC qD qE qF h_33) (ex_z64k_12 qG qH qA qB qI qJ qK qL qM qN qO qP qQ qR qS qT qU qV qW qX qY qZ rA rB rC rD rE rF rG rH rI rJ rK h_23 h26_l qC qD qE qF h_33)) := by kernel_rfl
theorem bs_z64k_12 : loopsOf b_z64k_12 ++ loopsInl [] = [] := by kernel_rfl
theorem ci_z64k_12 (qG : Option Bool) (qH : Bool) (qA : List (Ty .int)) (qB : Int) (qI : Int) (qJ : Int) (qK : Int) (qL : Int) (qM : Int) (qN : Int) (qO : Int) (qP : Bool) (qQ : Int) (qR : Int) (qS : Int) (qT : Int) (qU : Int) (qV : Int) (qW : Bool) (qX : Int) (qY : Int) (qZ : Int) (rA : Int) (rB : Int) (rC : Int) (rD : Bool) (rE : Int) (rF : Int) (rG : Int) (rH : Int) (rI : Int) (rJ : Int) (rK : Bool) (h_23 : List (Ty .step)) (h26_l : Nat) (qC : Int) (qD : Int) (qE : Int) (qF : Int) (h_33 : List (Ty .val)) : ∀ v j v2, Lp (S.z64k_12_r qA qB h_23 h26_l qC qD qE qF) v = some (j, v2) → Circles Try.prog cx_z64k b_z64k_12 (mk_z64k_12 qG qH qA qB qI qJ qK qL qM qN qO qP qQ qR qS qT qU qV qW qX qY qZ rA rB rC rD rE rF rG rH rI rJ rK h_23 h26_l qC qD qE qF h_33 v) (ex_z64k_12 qG qH qA qB qI qJ qK qL qM qN qO qP qQ qR qS qT qU qV qW qX qY qZ rA rB rC rD rE rF rG rH rI rJ rK h_23 h26_l qC qD qE qF h_33 j v2).1 (ex_z64k_12 qG qH qA qB qI qJ qK qL qM qN qO qP qQ qR qS qT qU qV qW qX qY qZ rA rB rC rD rE rF rG rH rI rJ rK h_23 h26_l qC qD qE qF h_33 j v2).2 :=
 loop_ok2 (L := find []) (n := 0) (hints := [(13, 19, { keep := [0, 4, 5, 11], acc := [] }), (13, 12, { keep := [0, 4, 5, 6, 7, 8, 9, 10], acc := [] }), (13, 7, { keep := [0, 4, 5, 6], acc := [] })]) (cx_ok rfl) rdy_z64k bs_z64k_12 nilB (fun v => (rnd_z64k_12 qG qH qA qB qI qJ qK qL qM qN qO qP qQ qR qS qT qU qV qW qX qY qZ rA rB rC rD rE rF rG rH rI rJ rK h_23 h26_l qC qD qE qF h_33 v).trans (DT.go_run _ _)) (by intro j v; unfold ex_z64k_12; split <;> rfl)
theorem mke_z64k_12 (qG : Option Bool) (qH : Bool) (qA : List (Ty .int)) (qB : Int) (qI : Int) (qJ : Int) (qK : Int) (qL : Int) (qM : Int) (qN : Int) (qO : Int) (qP : Bool) (qQ : Int) (qR : Int) (qS : Int) (qT : Int) (qU : Int) (qV : Int) (qW : Bool) (qX : Int) (qY : Int) (qZ : Int) (rA : Int) (rB : Int) (rC : Int) (rD : Bool) (rE : Int) (rF : Int) (rG : Int) (rH : Int) (rI : Int) (rJ : Int) (rK : Bool) (h_23 : List (Ty .step)) (h26_l : Nat) (qC : Int) (qD : Int) (qE : Int) (qF : Int) (h_33 : List (Ty .val)) (v : S.z64k_12_V) : mk_z64k_12 qG qH qA qB qI qJ qK qL qM qN qO qP qQ qR qS qT qU qV qW qX qY qZ rA rB rC rD rE rF rG rH rI rJ rK h_23 h26_l qC qD qE qF h_33 v = ⟨envOf 145 [(0, V.v false [C.d (.sl qG qH .int qA)]), (4, (cV qB)), (5, V.v false [C.ptr 16 0]), (6, (cV qI)), (7, V.v false [C.ptr 26 0]), (8, V.v false [C.ptr 39 0]), (9, (cV v.t9_)), (10, (cV v.t10_))], heapOf 43 [(16, some
 (Blk.box 67
  [(cI qJ), (cI qK), (cI qL), (cI qM),
   (cI qN), (cI qO), C.d (.sc (.bool qP)), (cI qQ),
   (cI qR), (cI qS), (cI qT), (cI qU),
   (cI qV), C.d (.sc (.bool qW)), (cI qX), (cI qY),
   (cI qZ), (cI rA), (cI rB), (cI rC),
   C.d (.sc (.bool rD)), (cI rE), (cI rF), (cI rG),
   (cI rH), (cI rI), (cI rJ), C.d (.sc (.bool rK))])), (23, some (Blk.arr 47 .step h_23)), (26, some
 (Blk.box 45
  [C.own 23 .step true 0 h26_l, (cI qC), (cI qD), (cI qE),
   (cI qF)])), (33, some (Blk.arr 52 .val h_33)), (39, some
 (Blk.box 55
  [(cI v.h39_), (cI v.h_39_1), (cI v.h_39_2), (cI v.h_39_3),
   (cI v.h_39_4), (cI v.h_39_5), C.d (.sc (.bool v.h_39_6))]))], 0⟩ := by kernel_rfl
theorem Ui_z64k_12_e0 {x : V} {K : (Option Bool) → Bool → (List (Ty .int)) → Tree} {z : Ex × St} (h : (U_z64k_12_e0 x K).eval = some z) : ∃ (qG : Option Bool) (qH : Bool) (qA : List (Ty .int)), x = V.v false [C.d (.sl qG qH .int qA)] ∧ (K qG qH qA).eval = some z := by
 unfold U_z64k_12_e0 at h
 split at h
 ·exact ⟨_, _, _, rfl, h⟩
 ·cases h
theorem Ui_z64k_12_e4 {x : V} {K : Int → Tree} {z : Ex × St} (h : (U_z64k_12_e4 x K).eval = some z) : ∃ (qB : Int), x = V.v false [C.d (.sc (.int .i64 qB))] ∧ (K qB).eval = some z := by
 unfold U_z64k_12_e4 at h
 split at h
 ·exact ⟨_, rfl, h⟩
 ·cases h
theorem Ui_z64k_12_e5 {x : V} {K : Tree} {z : Ex × St} (h : (U_z64k_12_e5 x K).eval = some z) : x = V.v false [C.ptr 16 0] ∧ (K).eval = some z := by
 unfold U_z64k_12_e5 at h
 split at h
 ·exact ⟨rfl, h⟩
 ·cases h
theorem Ui_z64k_12_e6 {x : V} {K : Int → Tree} {z : Ex × St} (h : (U_z64k_12_e6 x K).eval = some z) : ∃ (qI : Int), x = V.v false [C.d (.sc (.int .i64 qI))] ∧ (K qI).eval = some z := by
 unfold U_z64k_12_e6 at h
 split at h
 ·exact ⟨_, rfl, h⟩
 ·cases h
theorem Ui_z64k_12_e7 {x : V} {K : Tree} {z : Ex × St} (h : (U_z64k_12_e7 x K).eval = some z) : x = V.v false [C.ptr 26 0] ∧ (K).eval = some z := by
 unfold U_z64k_12_e7 at h
 split at h
 ·exact ⟨rfl, h⟩
 ·cases h
theorem Ui_z64k_12_e8 {x : V} {K : Tree} {z : Ex × St} (h : (U_z64k_12_e8 x K).eval = some z) : x = V.v false [C.ptr 39 0] ∧ (K).eval = some z := by
 unfold U_z64k_12_e8 at h
 split at h
 ·exact ⟨rfl, h⟩
 ·cases h
theorem Ui_z64k_12_e9 {x : V} {K : Int → Tree} {z : Ex × St} (h : (U_z64k_12_e9 x K).eval = some z) : ∃ (t9_ : Int), x = V.v false [C.d (.sc (.int .i64 t9_))] ∧ (K t9_).eval = some z := by
 unfold U_z64k_12_e9 at h
 split at h
 ·exact ⟨_, rfl, h⟩
 ·cases h
theorem Ui_z64k_12_e10 {x : V} {K : Int → Tree} {z : Ex × St} (h : (U_z64k_12_e10 x K).eval = some z) : ∃ (t10_ : Int), x = V.v false [C.d (.sc (.int .i64 t10_))] ∧ (K t10_).eval = some z := by
 unfold U_z64k_12_e10 at h
 split at h
 ·exact ⟨_, rfl, h⟩
 ·cases h
theorem Ui_z64k_12_h16 {x : Option Blk} {K : Int → Int → Int → Int → Int → Int → Bool → Int → Int → Int → Int → Int → Int → Bool → Int → Int → Int → Int → Int → Int → Bool → Int → Int → Int → Int → Int → Int → Bool → Tree} {z : Ex × St} (h : (U_z64k_12_h16 x K).eval = some z) : ∃ (qJ : Int) (qK : Int) (qL : Int) (qM : Int) (qN : Int) (qO : Int) (qP : Bool) (qQ : Int) (qR : Int) (qS : Int) (qT : Int) (qU : Int) (qV : Int) (qW : Bool) (qX : Int) (qY : Int) (qZ : Int) (rA : Int) (rB : Int) (rC : Int) (rD : Bool) (rE : Int) (rF : Int) (rG : Int) (rH : Int) (rI : Int) (rJ : Int) (rK : Bool), x = some (Blk.box 67 [C.d (.sc (.int .i64 qJ)), C.d (.sc (.int .i64 qK)), C.d (.sc (.int .i64 qL)), C.d (.sc (.int .i64 qM)), C.d (.sc (.int .i64 qN)), C.d (.sc (.int .i64 qO)), C.d (.sc (.bool qP)), C.d (.sc (.int .i64 qQ)), C.d (.sc (.int .i64 qR)), C.d (.sc (.int .i64 qS)), C.d (.sc (.int .i64 qT)), C.d (.sc (.int .i64 qU)), C.d (.sc (.int .i64 qV)), C.d (.sc (.bool qW)), C.d (.sc (.int .i64 qX)), C.d (.sc (.int .i64 qY)), C.d (.sc (.int .i64 qZ)), C.d (.sc (.int .i64 rA)), C.d (.sc (.int .i64 rB)), C.d (.sc (.int .i64 rC)), C.d (.sc (.bool rD)), C.d (.sc (.int .i64 rE)), C.d (.sc (.int .i64 rF)), C.d (.sc (.int .i64 rG)), C.d (.sc (.int .i64 rH)), C.d (.sc (.int .i64 rI)), C.d (.sc (.int .i64 rJ)), C.d (.sc (.bool rK))]) ∧ (K qJ qK qL qM qN qO qP qQ qR qS qT qU qV qW qX qY qZ rA rB rC rD rE rF rG rH rI rJ rK).eval = some z := by
 unfold U_z64k_12_h16 at h
 split at h
 ·exact ⟨_, _, _, _, _, _, _, _, _, _, _, _, _, _, _, _, _, _, _, _, _, _, _, _, _, _, _, _, rfl, h⟩
 ·cases h
theorem Ui_z64k_12_h23 {x : Option Blk} {K : (List (Ty .step)) → Tree} {z : Ex × St} (h : (U_z64k_12_h23 x K).eval = some z) : ∃ (h_23 : List (Ty .step)), x = some (Blk.arr 47 .step h_23) ∧ (K h_23).eval = some z := by
 unfold U_z64k_12_h23 at h
 split at h
 ·exact ⟨_, rfl, h⟩
 ·cases h
theorem Ui_z64k_12_h26 {x : Option Blk} {K : Nat → Int → Int → Int → Int → Tree} {z : Ex × St} (h : (U_z64k_12_h26 x K).eval = some z) : ∃ (h26_l : Nat) (qC : Int) (qD : Int) (qE : Int) (qF : Int), x = some (Blk.box 45 [C.own 23 .step true 0 h26_l, C.d (.sc (.int .i64 qC)), C.d (.sc (.int .i64 qD)), C.d (.sc (.int .i64 qE)), C.d (.sc (.int .i64 qF))]) ∧ (K h26_l qC qD qE qF).eval = some z := by
 unfold U_z64k_12_h26 at h
 split at h
 ·exact ⟨_, _, _, _, _, rfl, h⟩
 ·cases h
theorem Ui_z64k_12_h33 {x : Option Blk} {K : (List (Ty .val)) → Tree} {z : Ex × St} (h : (U_z64k_12_h33 x K).eval = some z) : ∃ (h_33 : List (Ty .val)), x = some (Blk.arr 52 .val h_33) ∧ (K h_33).eval = some z := by
 unfold U_z64k_12_h33 at h
 split at h
 ·exact ⟨_, rfl, h⟩
 ·cases h
theorem Ui_z64k_12_h39 {x : Option Blk} {K : Int → Int → Int → Int → Int → Int → Bool → Tree} {z : Ex × St} (h : (U_z64k_12_h39 x K).eval = some z) : ∃ (h39_ : Int) (h_39_1 : Int) (h_39_2 : Int) (h_39_3 : Int) (h_39_4 : Int) (h_39_5 : Int) (h_39_6 : Bool), x = some (Blk.box 55 [C.d (.sc (.int .i64 h39_)), C.d (.sc (.int .i64 h_39_1)), C.d (.sc (.int .i64 h_39_2)), C.d (.sc (.int .i64 h_39_3)), C.d (.sc (.int .i64 h_39_4)), C.d (.sc (.int .i64 h_39_5)), C.d (.sc (.bool h_39_6))]) ∧ (K h39_ h_39_1 h_39_2 h_39_3 h_39_4 h_39_5 h_39_6).eval = some z := by
 unfold U_z64k_12_h39 at h
 split at h
 ·exact ⟨_, _, _, _, _, _, _, rfl, h⟩
 ·cases h
theorem lo1_z64k_12 (e0 : V) (e4 : V) (e5 : V) (e6 : V) (e7 : V) (e8 : V) (e9 : V) (e10 : V) (h16 : Option Blk) (h23 : Option Blk) (h26 : Option Blk) (h33 : Option Blk) (h39 : Option Blk) e st2 (h : (T1_z64k_12 e0 e4 e5 e6 e7 e8 e9 e10 h16 h23 h26 h33 h39).eval = some (e, st2)) : Circles Try.prog cx_z64k b_z64k_12 ⟨envOf 145 [(0, e0), (4, e4), (5, e5), (6, e6), (7, e7), (8, e8), (9, e9), (10, e10)], heapOf 43 [(16, h16), (23, h23), (26, h26), (33, h33), (39, h39)], 0⟩ e st2 := by
 unfold T1_z64k_12 at h
 obtain ⟨qG, qH, qA, rfl, h⟩ := Ui_z64k_12_e0 h
 obtain ⟨qB, rfl, h⟩ := Ui_z64k_12_e4 h
 obtain ⟨rfl, h⟩ := Ui_z64k_12_e5 h
 obtain ⟨qI, rfl, h⟩ := Ui_z64k_12_e6 h
 obtain ⟨rfl, h⟩ := Ui_z64k_12_e7 h
 obtain ⟨rfl, h⟩ := Ui_z64k_12_e8 h
 obtain ⟨t9_, rfl, h⟩ := Ui_z64k_12_e9 h
 obtain ⟨t10_, rfl, h⟩ := Ui_z64k_12_e10 h
 obtain ⟨qJ, qK, qL, qM, qN, qO, qP, qQ, qR, qS, qT, qU, qV, qW, qX, qY, qZ, rA, rB, rC, rD, rE, rF, rG, rH, rI, rJ, rK, rfl, h⟩ := Ui_z64k_12_h16 h
 obtain ⟨h_23, rfl, h⟩ := Ui_z64k_12_h23 h
 obtain ⟨h26_l, qC, qD, qE, qF, rfl, h⟩ := Ui_z64k_12_h26 h
 obtain ⟨h_33, rfl, h⟩ := Ui_z64k_12_h33 h
 obtain ⟨h39_, h_39_1, h_39_2, h_39_3, h_39_4, h_39_5, h_39_6, rfl, h⟩ := Ui_z64k_12_h39 h
 have := loop_tree (mk := mk_z64k_12 qG qH qA qB qI qJ qK qL qM qN qO qP qQ qR qS qT qU qV qW qX qY qZ rA rB rC rD rE rF rG rH rI rJ rK h_23 h26_l qC qD qE qF h_33) (ci_z64k_12 qG qH qA qB qI qJ qK qL qM qN qO qP qQ qR qS qT qU qV qW qX qY qZ rA rB rC rD rE rF rG rH rI rJ rK h_23 h26_l qC qD qE qF h_33) _ _ e st2 h
 rw [mke_z64k_12] at this
 exact this
theorem lok_z64k_12 : LoopOk Try.prog cx_z64k b_z64k_12 T_z64k_12 := by
 intro st e st2 h
 unfold T_z64k_12 at h
 cases hk : okSt 145 43 0 [16, 23, 26, 33, 39] st with
 | false => rw [hk] at h; cases h
 | true =>
  rw [hk] at h
  exact circles_keep (ks := [0, 4, 5, 6, 7, 8, 9, 10]) hk (lo1_z64k_12 _ _ _ _ _ _ _ _ _ _ _ _ _ e st2 h)
structure S.z64k_19_V where
 t11_ : Int
def S.z64k_19_R (qA : List (Ty .int)) (qB : Int) (rC : Int) (rJ : Int) (v : S.z64k_19_V) : DT (Option Nat × S.z64k_19_V) :=
let y0 : Bool := xdec (0 ≤ v.t11_) && xdec (v.t11_ < (↑qA.length : Int))
let y1 : Ty .int := qA.getD v.t11_.toNat (dflt .int)
(.br (xdec (v.t11_ < qB))
(.br (y0)
(.br (xdec (rC > y1))
(.leaf (some 0, v))
(.br (y0)
(.br (xdec (rJ < y1))
(.leaf (some 0, v))
(.leaf (none, ⟨xwrap .i64 (v.t11_ + 1)⟩)))
.fail))
.fail)
(.leaf (some 1, v)))
def S.z64k_19_r (qA : List (Ty .int)) (qB : Int) (rC : Int) (rJ : Int) (v : S.z64k_19_V) : Option (Option Nat × S.z64k_19_V) := (S.z64k_19_R qA qB rC rJ v).run
def S.z64k_19_j (qA : List (Ty .int)) (qB : Int) (rC : Int) (rJ : Int) (v : S.z64k_19_V) (j : Nat) : Bool := Lp_j (S.z64k_19_r qA qB rC rJ) v j
def S.z64k_19_v (qA : List (Ty .int)) (qB : Int) (rC : Int) (rJ : Int) (v : S.z64k_19_V) : S.z64k_19_V := Lp_v (S.z64k_19_r qA qB rC rJ) v
def mk_z64k_19 (qG : Option Bool) (qH : Bool) (qA : List (Ty .int)) (qB : Int) (qJ : Int) (qK : Int) (qL : Int) (qM : Int) (qN : Int) (qO : Int) (qP : Bool) (qQ : Int) (qR : Int) (qS : Int) (qT : Int) (qU : Int) (qV : Int) (qW : Bool) (qX : Int) (qY : Int) (qZ : Int) (rA : Int) (rB : Int) (rC : Int) (rD : Bool) (rE : Int) (rF : Int) (rG : Int) (rH : Int) (rI : Int) (rJ : Int) (rK : Bool) (v : S.z64k_19_V) : St := ⟨(V.v false [C.d (.sl qG qH .int qA)] :: (vs 3 ((cV qB) :: (V.v false [C.ptr 16 0] :: (vs 5 ((cV v.t11_) :: (vs 133 []))))))), (ns 16 (some (Blk.box 67 [(cI qJ), (cI qK), (cI qL), (cI qM), (cI qN), (cI qO), C.d (.sc (.bool qP)), (cI qQ), (cI qR), (cI qS), (cI qT), (cI qU), (cI qV), C.d (.sc (.bool qW)), (cI qX), (cI qY), (cI qZ), (cI rA), (cI rB), (cI rC), C.d (.sc (.bool rD)), (cI rE), (cI rF), (cI rG), (cI rH), (cI rI), (cI rJ), C.d (.sc (.bool rK))]) :: (ns 4 []))), 0⟩
def ex_z64k_19 (qG : Option Bool) (qH : Bool) (qA : List (Ty .int)) (qB : Int) (qJ : Int) (qK : Int) (qL : Int) (qM : Int) (qN : Int) (qO : Int) (qP : Bool) (qQ : Int) (qR : Int) (qS : Int) (qT : Int) (qU : Int) (qV : Int) (qW : Bool) (qX : Int) (qY : Int) (qZ : Int) (rA : Int) (rB : Int) (rC : Int) (rD : Bool) (rE : Int) (rF : Int) (rG : Int) (rH : Int) (rI : Int) (rJ : Int) (rK : Bool) (j : Nat) (v : S.z64k_19_V) : Ex × St := match j with
 | 0 => (Ex.ret, ⟨(V.v false [C.d (.sl qG qH .int qA)] :: (V.any :: (V.v false [C.d (.sc (.bool false))] :: (V.any :: ((cV qB) :: (V.v false [C.ptr 16 0] :: (vs 139 []))))))), (ns 16 (some
  (Blk.box 67
   [(cI qJ), (cI qK), (cI qL), (cI qM),
    (cI qN), (cI qO), C.d (.sc (.bool qP)), (cI qQ),
    (cI qR), (cI qS), (cI qT), (cI qU),
    (cI qV), C.d (.sc (.bool qW)), (cI qX), (cI qY),
    (cI qZ), (cI rA), (cI rB), (cI rC),
    C.d (.sc (.bool rD)), (cI rE), (cI rF), (cI rG),
    (cI rH), (cI rI), (cI rJ), C.d (.sc (.bool rK))]) :: (ns 26 []))), 0⟩)
 | 1 => (Ex.exit 4, ⟨(V.v false [C.d (.sl qG qH .int qA)] :: (vs 3 ((cV qB) :: (V.v false [C.ptr 16 0] :: (vs 139 []))))), (ns 16 (some
  (Blk.box 67
   [(cI qJ), (cI qK), (cI qL), (cI qM),
    (cI qN), (cI qO), C.d (.sc (.bool qP)), (cI qQ),
    (cI qR), (cI qS), (cI qT), (cI qU),
    (cI qV), C.d (.sc (.bool qW)), (cI qX), (cI qY),
    (cI qZ), (cI rA), (cI rB), (cI rC),
    C.d (.sc (.bool rD)), (cI rE), (cI rF), (cI rG),
    (cI rH), (cI rI), (cI rJ), C.d (.sc (.bool rK))]) :: (ns 7 []))), 0⟩)
 | _ => (.ret, ⟨[], [], 0⟩)
def U_z64k_19_e0 (x : V) (K : (Option Bool) → Bool → (List (Ty .int)) → Tree) : Tree := match x with
 | V.v false [C.d (.sl qG qH .int qA)] => K qG qH qA
 | _ => .bad
def U_z64k_19_e4 (x : V) (K : Int → Tree) : Tree := match x with
 | V.v false [C.d (.sc (.int .i64 qB))] => K qB
 | _ => .bad
def U_z64k_19_e5 (x : V) (K : Tree) : Tree := match x with
 | V.v false [C.ptr 16 0] => K
 | _ => .bad
def U_z64k_19_e11 (x : V) (K : Int → Tree) : Tree := match x with
 | V.v false [C.d (.sc (.int .i64 t11_))] => K t11_
 | _ => .bad
def U_z64k_19_h16 (x : Option Blk) (K : Int → Int → Int → Int → Int → Int → Bool → Int → Int → Int → Int → Int → Int → Bool → Int → Int → Int → Int → Int → Int → Bool → Int → Int → Int → Int → Int → Int → Bool → Tree) : Tree := match x with
 | some (Blk.box 67 [C.d (.sc (.int .i64 qJ)), C.d (.sc (.int .i64 qK)), C.d (.sc (.int .i64 qL)), C.d (.sc (.int .i64 qM)), C.d (.sc (.int .i64 qN)), C.d (.sc (.int .i64 qO)), C.d (.sc (.bool qP)), C.d (.sc (.int .i64 qQ)), C.d (.sc (.int .i64 qR)), C.d (.sc (.int .i64 qS)), C.d (.sc (.int .i64 qT)), C.d (.sc (.int .i64 qU)), C.d (.sc (.int .i64 qV)), C.d (.sc (.bool qW)), C.d (.sc (.int .i64 qX)), C.d (.sc (.int .i64 qY)), C.d (.sc (.int .i64 qZ)), C.d (.sc (.int .i64 rA)), C.d (.sc (.int .i64 rB)), C.d (.sc (.int .i64 rC)), C.d (.sc (.bool rD)), C.d (.sc (.int .i64 rE)), C.d (.sc (.int .i64 rF)), C.d (.sc (.int .i64 rG)), C.d (.sc (.int .i64 rH)), C.d (.sc (.int .i64 rI)), C.d (.sc (.int .i64 rJ)), C.d (.sc (.bool rK))]) => K qJ qK qL qM qN qO qP qQ qR qS qT qU qV qW qX qY qZ rA rB rC rD rE rF rG rH rI rJ rK
 | _ => .bad
def T1_z64k_19 (e0 : V) (e4 : V) (e5 : V) (e11 : V) (h16 : Option Blk) : Tree := U_z64k_19_e0 e0 (fun qG qH qA => U_z64k_19_e4 e4 (fun qB => U_z64k_19_e5 e5 (U_z64k_19_e11 e11 (fun t11_ => U_z64k_19_h16 h16 (fun qJ qK qL qM qN qO qP qQ qR qS qT qU qV qW qX qY qZ rA rB rC rD rE rF rG rH rI rJ rK => exT (fun j => ex_z64k_19 qG qH qA qB qJ qK qL qM qN qO qP qQ qR qS qT qU qV qW qX qY qZ rA rB rC rD rE rF rG rH rI rJ rK j (S.z64k_19_v qA qB rC rJ ⟨t11_⟩)) (S.z64k_19_j qA qB rC rJ ⟨t11_⟩) [0, 1])))))
def T_z64k_19 (st : St) : Tree := bif okSt 145 21 0 [16] st then T1_z64k_19 (st.env.getD 0 .any) (st.env.getD 4 .any) (st.env.getD 5 .any) (st.env.getD 11 .any) (lk st.heap 16) else .bad
def b_z64k_19 : Code := loopBy Try.f13 19
theorem rnd_z64k_19 (qG : Option Bool) (qH : Bool) (qA : List (Ty .int)) (qB : Int) (qJ : Int) (qK : Int) (qL : Int) (qM : Int) (qN : Int) (qO : Int) (qP : Bool) (qQ : Int) (qR : Int) (qS : Int) (qT : Int) (qU : Int) (qV : Int) (qW : Bool) (qX : Int) (qY : Int) (qZ : Int) (rA : Int) (rB : Int) (rC : Int) (rD : Bool) (rE : Int) (rF : Int) (rG : Int) (rH : Int) (rI : Int) (rJ : Int) (rK : Bool) (v : S.z64k_19_V) : round2 cx_z64k (hdI cx_z64k (find [(12, T_z64k_12)]) [] none 0) 13 b_z64k_19 [] 21 [0, 2, 4, 5] (mk_z64k_19 qG qH qA qB qJ qK qL qM qN qO qP qQ qR qS qT qU qV qW qX qY qZ rA rB rC rD rE rF rG rH rI rJ rK v) = (S.z64k_19_R qA qB rC rJ v).go (roundOut (mk_z64k_19 qG qH qA qB qJ qK qL qM qN qO qP qQ qR qS qT qU qV qW qX qY qZ rA rB rC rD rE rF rG rH rI rJ rK) (ex_z64k_19 qG qH qA qB qJ qK qL qM qN qO qP qQ qR qS qT qU qV qW qX qY qZ rA rB rC rD rE rF rG rH rI rJ rK)) := by kernel_rfl
theorem bs_z64k_19 : loopsOf b_z64k_19 ++ loopsInl [] = [] := by kernel_rfl
theorem ci_z64k_19 (qG : Option Bool) (qH : Bool) (qA : List (Ty .int)) (qB : Int) (qJ : Int) (qK : Int) (qL : Int) (qM : Int) (qN : Int) (qO : Int) (qP : Bool) (qQ : Int) (qR : Int) (qS : Int) (qT : Int) (qU : Int) (qV : Int) (qW : Bool) (qX : Int) (qY : Int) (qZ : Int) (rA : Int) (rB : Int) (rC : Int) (rD : Bool) (rE : Int) (rF : Int) (rG : Int) (rH : Int) (rI : Int) (rJ : Int) (rK : Bool) : ∀ v j v2, Lp (S.z64k_19_r qA qB rC rJ) v = some (j, v2) → Circles Try.prog cx_z64k b_z64k_19 (mk_z64k_19 qG qH qA qB qJ qK qL qM qN qO qP qQ qR qS qT qU qV qW qX qY qZ rA rB rC rD rE rF rG rH rI rJ rK v) (ex_z64k_19 qG qH qA qB qJ qK qL qM qN qO qP qQ qR qS qT qU qV qW qX qY qZ rA rB rC rD rE rF rG rH rI rJ rK j v2).1 (ex_z64k_19 qG qH qA qB qJ qK qL qM qN qO qP qQ qR qS qT qU qV qW qX qY qZ rA rB rC rD rE rF rG rH rI rJ rK j v2).2 :=
 loop_ok2 (L := find [(12, T_z64k_12)]) (n := 0) (hints := [(13, 19, { keep := [0, 4, 5, 11], acc := [] }), (13, 12, { keep := [0, 4, 5, 6, 7, 8, 9, 10], acc := [] }), (13, 7, { keep := [0, 4, 5, 6], acc := [] })]) (cx_ok rfl) rdy_z64k bs_z64k_19 nilB (fun v => (rnd_z64k_19 qG qH qA qB qJ qK qL qM qN qO qP qQ qR qS qT qU qV qW qX qY qZ rA rB rC rD rE rF rG rH rI rJ rK v).trans (DT.go_run _ _)) (by intro j v; unfold ex_z64k_19; split <;> rfl)
theorem mke_z64k_19 (qG : Option Bool) (qH : Bool) (qA : List (Ty .int)) (qB : Int) (qJ : Int) (qK : Int) (qL : Int) (qM : Int) (qN : Int) (qO : Int) (qP : Bool) (qQ : Int) (qR : Int) (qS : Int) (qT : Int) (qU : Int) (qV : Int) (qW : Bool) (qX : Int) (qY : Int) (qZ : Int) (rA : Int) (rB : Int) (rC : Int) (rD : Bool) (rE : Int) (rF : Int) (rG : Int) (rH : Int) (rI : Int) (rJ : Int) (rK : Bool) (v : S.z64k_19_V) : mk_z64k_19 qG qH qA qB qJ qK qL qM qN qO qP qQ qR qS qT qU qV qW qX qY qZ rA rB rC rD rE rF rG rH rI rJ rK v = ⟨envOf 145 [(0, V.v false [C.d (.sl qG qH .int qA)]), (4, (cV qB)), (5, V.v false [C.ptr 16 0]), (11, (cV v.t11_))], heapOf 21 [(16, some
 (Blk.box 67
  [(cI qJ), (cI qK), (cI qL), (cI qM),
   (cI qN), (cI qO), C.d (.sc (.bool qP)), (cI qQ),
   (cI qR), (cI qS), (cI qT), (cI qU),
   (cI qV), C.d (.sc (.bool qW)), (cI qX), (cI qY),
   (cI qZ), (cI rA), (cI rB), (cI rC),
   C.d (.sc (.bool rD)), (cI rE), (cI rF), (cI rG),
   (cI rH), (cI rI), (cI rJ), C.d (.sc (.bool rK))]))], 0⟩ := by kernel_rfl
theorem Ui_z64k_19_e0 {x : V} {K : (Option Bool) → Bool → (List (Ty .int)) → Tree} {z : Ex × St} (h : (U_z64k_19_e0 x K).eval = some z) : ∃ (qG : Option Bool) (qH : Bool) (qA : List (Ty .int)), x = V.v false [C.d (.sl qG qH .int qA)] ∧ (K qG qH qA).eval = some z := by
 unfold U_z64k_19_e0 at h
 split at h
 ·exact ⟨_, _, _, rfl, h⟩
 ·cases h
theorem Ui_z64k_19_e4 {x : V} {K : Int → Tree} {z : Ex × St} (h : (U_z64k_19_e4 x K).eval = some z) : ∃ (qB : Int), x = V.v false [C.d (.sc (.int .i64 qB))] ∧ (K qB).eval = some z := by
 unfold U_z64k_19_e4 at h
 split at h
 ·exact ⟨_, rfl, h⟩
 ·cases h
theorem Ui_z64k_19_e5 {x : V} {K : Tree} {z : Ex × St} (h : (U_z64k_19_e5 x K).eval = some z) : x = V.v false [C.ptr 16 0] ∧ (K).eval = some z := by
 unfold U_z64k_19_e5 at h
 split at h
 ·exact ⟨rfl, h⟩
 ·cases h
theorem Ui_z64k_19_e11 {x : V} {K : Int → Tree} {z : Ex × St} (h : (U_z64k_19_e11 x K).eval = some z) : ∃ (t11_ : Int), x = V.v false [C.d (.sc (.int .i64 t11_))] ∧ (K t11_).eval = some z := by
 unfold U_z64k_19_e11 at h
 split at h
 ·exact ⟨_, rfl, h⟩
 ·cases h
theorem Ui_z64k_19_h16 {x : Option Blk} {K : Int → Int → Int → Int → Int → Int → Bool → Int → Int → Int → Int → Int → Int → Bool → Int → Int → Int → Int → Int → Int → Bool → Int → Int → Int → Int → Int → Int → Bool → Tree} {z : Ex × St} (h : (U_z64k_19_h16 x K).eval = some z) : ∃ (qJ : Int) (qK : Int) (qL : Int) (qM : Int) (qN : Int) (qO : Int) (qP : Bool) (qQ : Int) (qR : Int) (qS : Int) (qT : Int) (qU : Int) (qV : Int) (qW : Bool) (qX : Int) (qY : Int) (qZ : Int) (rA : Int) (rB : Int) (rC : Int) (rD : Bool) (rE : Int) (rF : Int) (rG : Int) (rH : Int) (rI : Int) (rJ : Int) (rK : Bool), x = some (Blk.box 67 [C.d (.sc (.int .i64 qJ)), C.d (.sc (.int .i64 qK)), C.d (.sc (.int .i64 qL)), C.d (.sc (.int .i64 qM)), C.d (.sc (.int .i64 qN)), C.d (.sc (.int .i64 qO)), C.d (.sc (.bool qP)), C.d (.sc (.int .i64 qQ)), C.d (.sc (.int .i64 qR)), C.d (.sc (.int .i64 qS)), C.d (.sc (.int .i64 qT)), C.d (.sc (.int .i64 qU)), C.d (.sc (.int .i64 qV)), C.d (.sc (.bool qW)), C.d (.sc (.int .i64 qX)), C.d (.sc (.int .i64 qY)), C.d (.sc (.int .i64 qZ)), C.d (.sc (.int .i64 rA)), C.d (.sc (.int .i64 rB)), C.d (.sc (.int .i64 rC)), C.d (.sc (.bool rD)), C.d (.sc (.int .i64 rE)), C.d (.sc (.int .i64 rF)), C.d (.sc (.int .i64 rG)), C.d (.sc (.int .i64 rH)), C.d (.sc (.int .i64 rI)), C.d (.sc (.int .i64 rJ)), C.d (.sc (.bool rK))]) ∧ (K qJ qK qL qM qN qO qP qQ qR qS qT qU qV qW qX qY qZ rA rB rC rD rE rF rG rH rI rJ rK).eval = some z := by
 unfold U_z64k_19_h16 at h
 split at h
 ·exact ⟨_, _, _, _, _, _, _, _, _, _, _, _, _, _, _, _, _, _, _, _, _, _, _, _, _, _, _, _, rfl, h⟩
 ·cases h
theorem lo1_z64k_19 (e0 : V) (e4 : V) (e5 : V) (e11 : V) (h16 : Option Blk) e st2 (h : (T1_z64k_19 e0 e4 e5 e11 h16).eval = some (e, st2)) : Circles Try.prog cx_z64k b_z64k_19 ⟨envOf 145 [(0, e0), (4, e4), (5, e5), (11, e11)], heapOf 21 [(16, h16)], 0⟩ e st2 := by
 unfold T1_z64k_19 at h
 obtain ⟨qG, qH, qA, rfl, h⟩ := Ui_z64k_19_e0 h
 obtain ⟨qB, rfl, h⟩ := Ui_z64k_19_e4 h
 obtain ⟨rfl, h⟩ := Ui_z64k_19_e5 h
 obtain ⟨t11_, rfl, h⟩ := Ui_z64k_19_e11 h
 obtain ⟨qJ, qK, qL, qM, qN, qO, qP, qQ, qR, qS, qT, qU, qV, qW, qX, qY, qZ, rA, rB, rC, rD, rE, rF, rG, rH, rI, rJ, rK, rfl, h⟩ := Ui_z64k_19_h16 h
 have := loop_tree (mk := mk_z64k_19 qG qH qA qB qJ qK qL qM qN qO qP qQ qR qS qT qU qV qW qX qY qZ rA rB rC rD rE rF rG rH rI rJ rK) (ci_z64k_19 qG qH qA qB qJ qK qL qM qN qO qP qQ qR qS qT qU qV qW qX qY qZ rA rB rC rD rE rF rG rH rI rJ rK) _ _ e st2 h
 rw [mke_z64k_19] at this
 exact this
theorem lok_z64k_19 : LoopOk Try.prog cx_z64k b_z64k_19 T_z64k_19 := by
 intro st e st2 h
 unfold T_z64k_19 at h
 cases hk : okSt 145 21 0 [16] st with
 | false => rw [hk] at h; cases h
 | true =>
  rw [hk] at h
  exact circles_keep (ks := [0, 4, 5, 11]) hk (lo1_z64k_19 _ _ _ _ _ e st2 h)
structure S.z64k_T where
 x0 : Bool
 deriving Inhabited
def S.z64k_R (a0 : List (Ty .int)) : DT S.z64k_T :=
let y0 : Int := (↑a0.length : Int)
let y1 : Bool := xdec (0 ≤ 0) && xdec (0 < y0)
let y2 : Nat := 0 + 1
let y3 : ByteArray := { data := { toList := [97] : Array UInt8 } : ByteArray }
let y4 : Step := { name := y3, ifs := [], min := y0, max := y0, guard := false, notName := ByteArray.empty, notIf := [] : Step }
let y5 : List (Ty .step) := (List.replicate 1 (dflt .step)).set 0 y4
let y6 : Ty .int := a0.getD (Int.toNat 0) (dflt .int)
let y7 : Val := { kind := 0, n := y6, s := ByteArray.empty : Val }
let y8 : Bool := xdec (y2 ≤ y5.length) && true && (xdec (y2 ≤ ((List.replicate 1 (dflt .val)).set 0 y7).length) && true && true)
let y9 : List (Ty .step) := sub [y4] 0 y2
let y10 : List (Ty .val) := sub [y7] 0 y2
let y11 : S.zvb5_T := S.zvb5_o y9 0 0 0 y3 0 y10 0
let y12 : S.z64k_12_V := { t9_ := y11.x7, t10_ := 1, h39_ := y11.x0, h_39_1 := y11.x1, h_39_2 := y11.x2, h_39_3 := y11.x3, h_39_4 := y11.x4, h_39_5 := y11.x5, h_39_6 := y11.x6 :
 S.z64k_12_V }
let y13 : S.z64k_12_V := S.z64k_12_v a0 y0 y5 1 0 0 0 0 y12
let y14 : S.zvb5_T := S.zvb5_o y9 1 0 0 y3 0 y10 0
let y15 : S.z64k_12_V := { t9_ := y14.x7, t10_ := 1, h39_ := y14.x0, h_39_1 := y14.x1, h_39_2 := y14.x2, h_39_3 := y14.x3, h_39_4 := y14.x4, h_39_5 := y14.x5, h_39_6 := y14.x6 :
 S.z64k_12_V }
let y16 : S.z64k_12_V := S.z64k_12_v a0 y0 y5 1 0 1 0 0 y15
let y17 : S.zvb5_T := S.zvb5_o y9 2 0 0 y3 0 y10 0
let y18 : S.z64k_12_V := { t9_ := y17.x7, t10_ := 1, h39_ := y17.x0, h_39_1 := y17.x1, h_39_2 := y17.x2, h_39_3 := y17.x3, h_39_4 := y17.x4, h_39_5 := y17.x5, h_39_6 := y17.x6 :
 S.z64k_12_V }
let y19 : S.z64k_12_V := S.z64k_12_v a0 y0 y5 1 0 2 0 0 y18
let y20 : S.zvb5_T := S.zvb5_o y9 3 0 0 y3 0 y10 0
let y21 : S.z64k_12_V := { t9_ := y20.x7, t10_ := 1, h39_ := y20.x0, h_39_1 := y20.x1, h_39_2 := y20.x2, h_39_3 := y20.x3, h_39_4 := y20.x4, h_39_5 := y20.x5, h_39_6 := y20.x6 :
 S.z64k_12_V }
let y22 : S.z64k_12_V := S.z64k_12_v a0 y0 y5 1 0 3 0 0 y21
let y23 : Int := y19.h_39_5
let y24 : Int := y22.h_39_5
let y25 : S.z64k_19_V := { t11_ := 0 : S.z64k_19_V }
let y26 : Bool := xnot y19.h_39_6
(.br (S.zunj_is)
(.br (xnot S.zunj_o.x0)
(.leaf ⟨S.zunj_o.x0⟩)
(.br (xdec (y0 < 1))
(.leaf ⟨S.zunj_o.x0⟩)
(.br (xdec (y0 > 4))
(.leaf ⟨S.zunj_o.x0⟩)
(.br (y1)
(.br (y8 && S.zvb5_is y9 0 0 0 y3 0 y10 0)
(.br (S.z64k_12_j a0 y0 y5 1 0 0 0 0 y12 0)
(.br (xneI y13.t9_ 2)
(.leaf ⟨false⟩)
(.br (xneI y13.h_39_4 y0)
(.leaf ⟨false⟩)
(.br (y1)
(.br (y8 && S.zvb5_is y9 1 0 0 y3 0 y10 0)
(.br (S.z64k_12_j a0 y0 y5 1 0 1 0 0 y15 0)
(.br (xneI y16.t9_ 2)
(.leaf ⟨false⟩)
(.br (xneI y16.h_39_4 y0)
(.leaf ⟨false⟩)
(.br (y1)
(.br (y8 && S.zvb5_is y9 2 0 0 y3 0 y10 0)
(.br (S.z64k_12_j a0 y0 y5 1 0 2 0 0 y18 0)
(.br (xneI y19.t9_ 2)
(.leaf ⟨false⟩)
(.br (xneI y19.h_39_4 y0)
(.leaf ⟨false⟩)
(.br (y1)
(.br (y8 && S.zvb5_is y9 3 0 0 y3 0 y10 0)
(.br (S.z64k_12_j a0 y0 y5 1 0 3 0 0 y21 0)
(.br (xneI y22.t9_ 2)
(.leaf ⟨false⟩)
(.br (xneI y22.h_39_4 y0)
(.leaf ⟨false⟩)
(.br (S.z64k_19_j a0 y0 y23 y24 y25 0)
(.leaf ⟨false⟩)
(.br (S.z64k_19_j a0 y0 y23 y24 y25 1)
(.br (xeqI y13.h_39_5 y0)
(.br (xdec (y0 > 1))
(.leaf ⟨y26⟩)
(.br (y1)
(.br (xeqI y16.h_39_5 y6)
(.br (y1)
(.br (xeqI y23 y6)
(.br (y1)
(.br (xeqI y24 y6)
(.leaf ⟨y26⟩)
(.leaf ⟨false⟩))
.fail)
(.leaf ⟨false⟩))
.fail)
(.leaf ⟨false⟩))
.fail))
(.leaf ⟨false⟩))
.fail))))
.fail)
.fail)
.fail)))
.fail)
.fail)
.fail)))
.fail)
.fail)
.fail)))
.fail)
.fail)
.fail))))
.fail)
def S.z64k (a0 : List (Ty .int)) : Option S.z64k_T := (S.z64k_R a0).run
def S.z64k_is (a0 : List (Ty .int)) : Bool := (S.z64k a0).isSome
def S.z64k_o (a0 : List (Ty .int)) : S.z64k_T := (S.z64k a0).getD default
def ret_z64k (b : Bool) (r : S.z64k_T) : Ret := ⟨b, none, [(false, [C.d (.sc (.bool r.x0))])]⟩
def g_z64k : Con
 | [(false, [.sl a0n a0f .int a0])] => some (ret_z64k (S.z64k_is a0) (S.z64k_o a0))
 | _ => none
def b_z64k_7 : Code := loopBy Try.f13 7
theorem raw_z64k (a0n : Option Bool) (a0f : Bool) (a0 : List (Ty .int)) : evR2 cx_z64k (hdU cx_z64k (find [(12, T_z64k_12), (19, T_z64k_19)]) 7 [] none 0 5) none Try.f13 13 none [(false, [.sl a0n a0f .int a0])] some = (S.z64k_R a0).go (ret_z64k true) := by kernel_rfl
theorem bs_z64k : loopsIn Try.f13 [] ++ loopsOf b_z64k_7 = [b_z64k_7, b_z64k_19, b_z64k_12] := by kernel_rfl
theorem z64k_ok : Stands Try.prog tyTab 13 g_z64k := by
 refine stands6 7 5 b_z64k_7 (L := find [(12, T_z64k_12), (19, T_z64k_19)]) (n := 0) (hints := [(13, 19, { keep := [0, 4, 5, 11], acc := [] }), (13, 12, { keep := [0, 4, 5, 6, 7, 8, 9, 10], acc := [] }), (13, 7, { keep := [0, 4, 5, 6], acc := [] })]) (cx_ok rfl) rdy_z64k ⟨by kernel_rfl, by kernel_rfl, by kernel_rfl⟩ bs_z64k (consU (.inr rfl) (consU (.inl (by kernel_rfl)) (consU (.inl (by kernel_rfl)) nilU))) (consB (fun T h => by have e : (none : Option (St → Tree)) = some T := h; cases e) (consB (fun T h => by have e : T_z64k_19 = T := Option.some.inj (show some T_z64k_19 = some T from h); exact e ▸ lok_z64k_19) (consB (fun T h => by have e : T_z64k_12 = T := Option.some.inj (show some T_z64k_12 = some T from h); exact e ▸ lok_z64k_12) nilB))) (fun das r hG hr => ?_)
 unfold g_z64k at hG
 split at hG
 ·rename_i a0n a0f a0
  injection hG with hG; subst hG
  exact ⟨none, true, win default ((raw_z64k a0n a0f a0).trans (DT.go_run _ _)) hr⟩
 ·cases hG
end
end Go.Eng
