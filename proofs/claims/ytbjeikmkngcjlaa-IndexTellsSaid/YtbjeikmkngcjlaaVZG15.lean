/- Contracts, laid by program. -/
import Derived.Test.YtbjeikmkngcjlaaVZG14
import Derived.Test.YtbjeikmkngcjlaaVZE3
set_option maxHeartbeats 2000000
set_option maxRecDepth 10000
set_option linter.unusedVariables false
namespace Go.Eng
noncomputable section
open Go Go.Eng Go.Proofs Go.Eng.Tab
abbrev cx_zdrt : Cx := mkCx3 tyTab [(83, g_znwv), (121, g_zdr2)] [] [(39, 5, { keep := [3, 4], acc := [] }), (120, 4, { keep := [0, 7, 8, 9, 14, 15, 16], acc := [(1001, some 0, .pred, 26)] }), (120, 1, { keep := [0, 7, 8, 9], acc := [(1001, some 0, .pred, 26)] })] [(82, Try.f82), (120, Try.f120)] [(5, rfAt 39 Try.f39)] []
theorem rdy_zdrt : Ready Try.prog tyTab [(83, g_znwv), (121, g_zdr2)] [] [(82, Try.f82), (120, Try.f120)] := ⟨consG2 znwv_ok (consG2 zdr2_ok (noneG2)), noneI2, consF2 ⟨by kernel_rfl, by kernel_rfl, by kernel_rfl⟩ (consF2 ⟨by kernel_rfl, by kernel_rfl, by kernel_rfl⟩ (noneF2))⟩
theorem prs_zdrt : PrsOk Try.prog tyTab [] := noneP
structure S.zdrt_4_V where
 t16_ : Int
 h1_f : Bool
 h1_l : Nat
 h_2 : List (ByteArray × List Int)
 h_15 : List (Ty .pred)
def S.zdrt_4_R (qA : List Step) (qB : Int) (v : S.zdrt_4_V) : DT (Option Nat × S.zdrt_4_V) :=
let y0 : Ty .step := qA.getD v.t16_.toNat (dflt .step)
let y1 : List Opn := y0.ifs
let y2 : ByteArray := y0.name
let y3 : List Int := lookL v.h_2 y2
let y4 : Nat := y3.length
let y5 : Bool := xdec (y4 = y4)
let y6 : Nat := 0 + v.h1_l
let y7 : Nat := v.h_15.length
let y8 : Bool := xdec (y6 ≤ y7) && true
let y9 : S.zmq7_T := S.zmq7_o y1
let y10 : Nat := 0 + y9.x1
let y11 : List (Ty .op) := y9.x0
let y12 : Bool := xdec (y10 ≤ y11.length) && true
let y13 : List (Ty .pred) := sub v.h_15 0 y6
let y14 : List (Ty .op) := sub y11 0 y10
let y15 : Nat := 0 + 1
let y16 : List (Ty .int) := List.replicate 1 (dflt .int)
let y17 : Int := (↑v.h1_l : Int)
let y18 : Bool := xdec (y15 ≤ (y16.set 0 y17).length)
let y19 : Nat := y4 + 1
let y20 : List (Ty .int) := [y17]
let y21 : List Int := y3 ++ y20
let y22 : List (Ty .pred) := List.replicate 1 (dflt .pred)
let y23 : Pred := { name := y2, ifs := y14 : Pred }
let y24 : Bool := xdec (v.h1_l ≤ y7)
let y25 : Nat := v.h1_l + 1
let y26 : Bool := y0.guard
let y27 : List Opn := y0.notIf
let y28 : Bool := S.zmq7_is y27
let y29 : List (ByteArray × List Int) := setL v.h_2 y2 (List.take y19 y21)
let y30 : ByteArray := y0.notName
let y31 : List Int := lookL y29 y30
let y32 : Nat := y31.length
let y33 : Bool := xdec (y32 = y32)
let y34 : Nat := 0 + y25
let y35 : List (Ty .pred) := List.take v.h1_l v.h_15
let y36 : List (Ty .pred) := y35 ++ [y23]
let y37 : Nat := y36.length
let y38 : S.zmq7_T := S.zmq7_o y27
let y39 : Nat := 0 + y38.x1
let y40 : List (Ty .op) := y38.x0
let y41 : Bool := xdec (y39 ≤ y40.length) && true
let y42 : Bool := y41 && true
let y43 : List (Ty .pred) := sub y36 0 y34
let y44 : List (Ty .op) := sub y40 0 y39
let y45 : Int := (↑y25 : Int)
let y46 : Nat := y32 + 1
let y47 : Bool := xdec (y30 = y30)
let y48 : List Int := y31 ++ [y45]
let y49 : Pred := { name := y30, ifs := y44 : Pred }
let y50 : Bool := xdec (y15 ≤ (y22.set 0 y49).length)
let y51 : Nat := y25 + 1
let y52 : Int := xwrap .i64 (v.t16_ + 1)
let y53 : List (Ty .pred) := [y49]
let y54 : List Int := lookL v.h_2 y30
let y55 : Nat := y54.length
let y56 : Bool := xdec (y55 = y55)
let y57 : Nat := y55 + 1
let y58 : List Int := y54 ++ y20
(.br (xdec (v.t16_ < qB))
(.br (xdec (0 ≤ v.t16_) && xdec (v.t16_ < (↑qA.length : Int)))
(.br (S.zmq7_is y1)
(.br (y5 && true && (y8 && (y12 && true) && true && true) && S.znwv_is y3 y13 y2 y14)
(.br (xnot (S.znwv_o y3 y13 y2 y14).x0)
(.br (y18 && y5 && xdec (y19 ≤ 1048576))
(.br (xdec (y2 = y2) && xdec (y19 ≤ y21.length))
(.br (y12)
(.br (xdec (y15 ≤ (y22.set 0 y23).length) && y24 && xdec (y25 ≤ 1048576))
(.br (y26)
(.br (y28)
(.br (y33 && true && (xdec (y34 ≤ y37) && true && y42 && true && true) && S.znwv_is y31 y43 y30 y44)
(.br (xnot (S.znwv_o y31 y43 y30 y44).x0)
(.br (xdec (y15 ≤ (y16.set 0 y45).length) && y33 && xdec (y46 ≤ 1048576))
(.br (y47 && xdec (y46 ≤ y48.length))
(.br (y41)
(.br (y50 && xdec (y25 ≤ y37) && xdec (y51 ≤ 1048576))
(.leaf (none, ⟨y52, false, y51, setL y29 y30 (List.take y46 y48), List.take y25 y36 ++ y53⟩))
.fail)
.fail)
.fail)
.fail)
(.leaf (none, ⟨y52, false, y25, y29, y36⟩)))
.fail)
.fail)
(.leaf (none, ⟨y52, false, y25, y29, y36⟩)))
.fail)
.fail)
.fail)
.fail)
(.br (y26)
(.br (y28)
(.br (y56 && true && (y8 && y42 && true && true) && S.znwv_is y54 y13 y30 y44)
(.br (xnot (S.znwv_o y54 y13 y30 y44).x0)
(.br (y18 && y56 && xdec (y57 ≤ 1048576))
(.br (y47 && xdec (y57 ≤ y58.length))
(.br (y41)
(.br (y50 && y24 && xdec (y25 ≤ 1048576))
(.leaf (none, ⟨y52, false, y25, setL v.h_2 y30 (List.take y57 y58), y35 ++ y53⟩))
.fail)
.fail)
.fail)
.fail)
(.leaf (none, ⟨y52, v.h1_f, v.h1_l, v.h_2, v.h_15⟩)))
.fail)
.fail)
(.leaf (none, ⟨y52, v.h1_f, v.h1_l, v.h_2, v.h_15⟩))))
.fail)
.fail)
.fail)
(.leaf (some 0, v)))
def S.zdrt_4_r (qA : List Step) (qB : Int) (v : S.zdrt_4_V) : Option (Option Nat × S.zdrt_4_V) := (S.zdrt_4_R qA qB v).run
def S.zdrt_4_j (qA : List Step) (qB : Int) (v : S.zdrt_4_V) (j : Nat) : Bool := Lp_j (S.zdrt_4_r qA qB) v j
def S.zdrt_4_v (qA : List Step) (qB : Int) (v : S.zdrt_4_V) : S.zdrt_4_V := Lp_v (S.zdrt_4_r qA qB) v
def mk_zdrt_4 (qC : Option Bool) (qD : Bool) (qE : List (Ty .query)) (qF : Int) (t9_ : Int) (qG : Option Bool) (qH : Bool) (qA : List Step) (qB : Int) (qI : Option Bool) (qJ : Bool) (qK : List (Ty .query)) (qL : Option Bool) (qM : Bool) (qN : List Step) (qO : Int) (qP : Int) (qQ : Int) (qR : Int) (v : S.zdrt_4_V) : St := ⟨(V.v false [C.yld 11] :: (vs 6 (V.v false [C.d (.sl qC qD .query qE)] :: ((cV qF) :: ((cV t9_) :: (vs 4 (V.v false [C.d (.sl qG qH .step qA)] :: ((cV qB) :: ((cV v.t16_) :: (vs 27 [])))))))))), (none :: (some (Blk.box 23 [C.own 15 .pred v.h1_f 0 v.h1_l]) :: (some (Blk.mp 3 v.h_2 [] none) :: (some (Blk.box 117 [C.mref 2]) :: (ns 3 (some (Blk.box 22 [C.d (.sl qI qJ .query qK)]) :: (ns 3 (some (Blk.lp 5 (vs 3 (V.v false [C.ptr 1 0] :: (V.v false [C.ptr 3 0] :: (vs 30 [])))) 0 none) :: (ns 3 (some (Blk.arr 26 .pred v.h_15) :: (ns 3 (some (Blk.box 45 [C.d (.sl qL qM .step qN), (cI qO), (cI qP), (cI qQ), (cI qR)]) :: (ns 5 []))))))))))))), 12⟩
def ex_zdrt_4 (qC : Option Bool) (qD : Bool) (qE : List (Ty .query)) (qF : Int) (t9_ : Int) (qG : Option Bool) (qH : Bool) (qA : List Step) (qB : Int) (qI : Option Bool) (qJ : Bool) (qK : List (Ty .query)) (qL : Option Bool) (qM : Bool) (qN : List Step) (qO : Int) (qP : Int) (qQ : Int) (qR : Int) (j : Nat) (v : S.zdrt_4_V) : Ex × St := match j with
 | 0 => (Ex.exit 2, ⟨(V.v false [C.yld 11] :: (vs 6 (V.v false [C.d (.sl qC qD .query qE)] :: ((cV qF) :: ((cV t9_) :: (vs 34 [])))))), (none :: (some (Blk.box 23 [C.own 15 .pred v.h1_f 0 v.h1_l]) :: (some (Blk.mp 3 v.h_2 [] none) :: (some (Blk.box 117 [C.mref 2]) :: (ns 3 (some (Blk.box 22 [C.d (.sl qI qJ .query qK)]) :: (ns 3 (some
  (Blk.lp 5
   (vs 3 (V.v false [C.ptr 1 0] :: (V.v false [C.ptr 3 0] :: (vs 30 []))))
   0 none) :: (ns 3 (some (Blk.arr 26 .pred v.h_15) :: (ns 3 (some
  (Blk.box 45
   [C.d (.sl qL qM .step qN), (cI qO), (cI qP), (cI qQ),
    (cI qR)]) :: (ns 6 []))))))))))))), 12⟩)
 | _ => (.ret, ⟨[], [], 0⟩)
def U_zdrt_4_e0 (x : V) (K : Tree) : Tree := match x with
 | V.v false [C.yld 11] => K
 | _ => .bad
def U_zdrt_4_e7 (x : V) (K : (Option Bool) → Bool → (List (Ty .query)) → Tree) : Tree := match x with
 | V.v false [C.d (.sl qC qD .query qE)] => K qC qD qE
 | _ => .bad
def U_zdrt_4_e8 (x : V) (K : Int → Tree) : Tree := match x with
 | V.v false [C.d (.sc (.int .i64 qF))] => K qF
 | _ => .bad
def U_zdrt_4_e9 (x : V) (K : Int → Tree) : Tree := match x with
 | V.v false [C.d (.sc (.int .i64 t9_))] => K t9_
 | _ => .bad
def U_zdrt_4_e14 (x : V) (K : (Option Bool) → Bool → (List Step) → Tree) : Tree := match x with
 | V.v false [C.d (.sl qG qH .step qA)] => K qG qH qA
 | _ => .bad
def U_zdrt_4_e15 (x : V) (K : Int → Tree) : Tree := match x with
 | V.v false [C.d (.sc (.int .i64 qB))] => K qB
 | _ => .bad
def U_zdrt_4_e16 (x : V) (K : Int → Tree) : Tree := match x with
 | V.v false [C.d (.sc (.int .i64 t16_))] => K t16_
 | _ => .bad
def U_zdrt_4_h1 (x : Option Blk) (K : Bool → Nat → Tree) : Tree := match x with
 | some (Blk.box 23 [C.own 15 .pred h1_f 0 h1_l]) => K h1_f h1_l
 | _ => .bad
def U_zdrt_4_h2 (x : Option Blk) (K : (List (ByteArray × List Int)) → Tree) : Tree := match x with
 | some (Blk.mp 3 h_2 [] none) => K h_2
 | _ => .bad
def U_zdrt_4_h3 (x : Option Blk) (K : Tree) : Tree := match x with
 | some (Blk.box 117 [C.mref 2]) => K
 | _ => .bad
def U_zdrt_4_h7 (x : Option Blk) (K : (Option Bool) → Bool → (List (Ty .query)) → Tree) : Tree := match x with
 | some (Blk.box 22 [C.d (.sl qI qJ .query qK)]) => K qI qJ qK
 | _ => .bad
def U_zdrt_4_h11 (x : Option Blk) (K : Tree) : Tree := match x with
 | some (Blk.lp 5 (V.any :: V.any :: V.any :: V.v false [C.ptr 1 0] :: V.v false [C.ptr 3 0] :: V.any :: V.any :: V.any :: V.any :: V.any :: V.any :: V.any :: V.any :: V.any :: V.any :: V.any :: V.any :: V.any :: V.any :: V.any :: V.any :: V.any :: V.any :: V.any :: V.any :: V.any :: V.any :: V.any :: V.any :: V.any :: V.any :: V.any :: V.any :: V.any :: V.any :: []) 0 none) => K
 | _ => .bad
def U_zdrt_4_h15 (x : Option Blk) (K : (List (Ty .pred)) → Tree) : Tree := match x with
 | some (Blk.arr 26 .pred h_15) => K h_15
 | _ => .bad
def U_zdrt_4_h19 (x : Option Blk) (K : (Option Bool) → Bool → (List Step) → Int → Int → Int → Int → Tree) : Tree := match x with
 | some (Blk.box 45 [C.d (.sl qL qM .step qN), C.d (.sc (.int .i64 qO)), C.d (.sc (.int .i64 qP)), C.d (.sc (.int .i64 qQ)), C.d (.sc (.int .i64 qR))]) => K qL qM qN qO qP qQ qR
 | _ => .bad
def T1_zdrt_4 (e0 : V) (e7 : V) (e8 : V) (e9 : V) (e14 : V) (e15 : V) (e16 : V) (h1 : Option Blk) (h2 : Option Blk) (h3 : Option Blk) (h7 : Option Blk) (h11 : Option Blk) (h15 : Option Blk) (h19 : Option Blk) : Tree := U_zdrt_4_e0 e0 (U_zdrt_4_e7 e7 (fun qC qD qE => U_zdrt_4_e8 e8 (fun qF => U_zdrt_4_e9 e9 (fun t9_ => U_zdrt_4_e14 e14 (fun qG qH qA => U_zdrt_4_e15 e15 (fun qB => U_zdrt_4_e16 e16 (fun t16_ => U_zdrt_4_h1 h1 (fun h1_f h1_l => U_zdrt_4_h2 h2 (fun h_2 => U_zdrt_4_h3 h3 (U_zdrt_4_h7 h7 (fun qI qJ qK => U_zdrt_4_h11 h11 (U_zdrt_4_h15 h15 (fun h_15 => U_zdrt_4_h19 h19 (fun qL qM qN qO qP qQ qR => exT (fun j => ex_zdrt_4 qC qD qE qF t9_ qG qH qA qB qI qJ qK qL qM qN qO qP qQ qR j (S.zdrt_4_v qA qB ⟨t16_, h1_f, h1_l, h_2, h_15⟩)) (S.zdrt_4_j qA qB ⟨t16_, h1_f, h1_l, h_2, h_15⟩) [0]))))))))))))))
def T_zdrt_4 (st : St) : Tree := bif okSt 44 25 12 [1, 2, 3, 7, 11, 15, 19] st then T1_zdrt_4 (st.env.getD 0 .any) (st.env.getD 7 .any) (st.env.getD 8 .any) (st.env.getD 9 .any) (st.env.getD 14 .any) (st.env.getD 15 .any) (st.env.getD 16 .any) (lk st.heap 1) (lk st.heap 2) (lk st.heap 3) (lk st.heap 7) (lk st.heap 11) (lk st.heap 15) (lk st.heap 19) else .bad
def b_zdrt_4 : Code := loopBy Try.f120 4
def b_zdrt_1 : Code := loopBy Try.f120 1
theorem rnd_zdrt_4 (qC : Option Bool) (qD : Bool) (qE : List (Ty .query)) (qF : Int) (t9_ : Int) (qG : Option Bool) (qH : Bool) (qA : List Step) (qB : Int) (qI : Option Bool) (qJ : Bool) (qK : List (Ty .query)) (qL : Option Bool) (qM : Bool) (qN : List Step) (qO : Int) (qP : Int) (qQ : Int) (qR : Int) (v : S.zdrt_4_V) : round2 cx_zdrt (hdI cx_zdrt (find []) [(82, Try.f82), (120, Try.f120)] none 3) 120 b_zdrt_4 [15] 25 [0, 7, 8, 9] (mk_zdrt_4 qC qD qE qF t9_ qG qH qA qB qI qJ qK qL qM qN qO qP qQ qR v) = (S.zdrt_4_R qA qB v).go (roundOut (mk_zdrt_4 qC qD qE qF t9_ qG qH qA qB qI qJ qK qL qM qN qO qP qQ qR) (ex_zdrt_4 qC qD qE qF t9_ qG qH qA qB qI qJ qK qL qM qN qO qP qQ qR)) := by kernel_rfl
theorem bs_zdrt_4 : loopsOf b_zdrt_4 ++ loopsInl [(82, Try.f82), (120, Try.f120)] ++ loopsRf [(5, rfAt 39 Try.f39)] = [b_zdrt_1] := by kernel_rfl
theorem ci_zdrt_4 (qC : Option Bool) (qD : Bool) (qE : List (Ty .query)) (qF : Int) (t9_ : Int) (qG : Option Bool) (qH : Bool) (qA : List Step) (qB : Int) (qI : Option Bool) (qJ : Bool) (qK : List (Ty .query)) (qL : Option Bool) (qM : Bool) (qN : List Step) (qO : Int) (qP : Int) (qQ : Int) (qR : Int) : ∀ v j v2, Lp (S.zdrt_4_r qA qB) v = some (j, v2) → Circles Try.prog cx_zdrt b_zdrt_4 (mk_zdrt_4 qC qD qE qF t9_ qG qH qA qB qI qJ qK qL qM qN qO qP qQ qR v) (ex_zdrt_4 qC qD qE qF t9_ qG qH qA qB qI qJ qK qL qM qN qO qP qQ qR j v2).1 (ex_zdrt_4 qC qD qE qF t9_ qG qH qA qB qI qJ qK qL qM qN qO qP qQ qR j v2).2 :=
 loop_ok3 (L := find []) (n := 3) (hints := [(39, 5, { keep := [3, 4], acc := [] }), (120, 4, { keep := [0, 7, 8, 9, 14, 15, 16], acc := [(1001, some 0, .pred, 26)] }), (120, 1, { keep := [0, 7, 8, 9], acc := [(1001, some 0, .pred, 26)] })]) (cx_ok rfl) rdy_zdrt prs_zdrt bs_zdrt_4 (consB (fun T h => by have e : (none : Option (St → Tree)) = some T := h; cases e) nilB) (fun v => (rnd_zdrt_4 qC qD qE qF t9_ qG qH qA qB qI qJ qK qL qM qN qO qP qQ qR v).trans (DT.go_run _ _)) (by intro j v; unfold ex_zdrt_4; split <;> rfl)
theorem mke_zdrt_4 (qC : Option Bool) (qD : Bool) (qE : List (Ty .query)) (qF : Int) (t9_ : Int) (qG : Option Bool) (qH : Bool) (qA : List Step) (qB : Int) (qI : Option Bool) (qJ : Bool) (qK : List (Ty .query)) (qL : Option Bool) (qM : Bool) (qN : List Step) (qO : Int) (qP : Int) (qQ : Int) (qR : Int) (v : S.zdrt_4_V) : mk_zdrt_4 qC qD qE qF t9_ qG qH qA qB qI qJ qK qL qM qN qO qP qQ qR v = ⟨envOf 44 [(0, V.v false [C.yld 11]), (7, V.v false [C.d (.sl qC qD .query qE)]), (8, (cV qF)), (9, (cV t9_)), (14, V.v false [C.d (.sl qG qH .step qA)]), (15, (cV qB)), (16, (cV v.t16_))], heapOf 25 [(1, some (Blk.box 23 [C.own 15 .pred v.h1_f 0 v.h1_l])), (2, some (Blk.mp 3 v.h_2 [] none)), (3, some (Blk.box 117 [C.mref 2])), (7, some (Blk.box 22 [C.d (.sl qI qJ .query qK)])), (11, some
 (Blk.lp 5
  [V.any, V.any, V.any, V.v false [C.ptr 1 0], V.v false [C.ptr 3 0], V.any, V.any, V.any, V.any, V.any, V.any, V.any, V.any, V.any, V.any, V.any, V.any, V.any, V.any, V.any,
   V.any, V.any, V.any, V.any, V.any, V.any, V.any, V.any, V.any, V.any, V.any, V.any, V.any, V.any, V.any]
  0 none)), (15, some (Blk.arr 26 .pred v.h_15)), (19, some
 (Blk.box 45
  [C.d (.sl qL qM .step qN), (cI qO), (cI qP), (cI qQ),
   (cI qR)]))], 12⟩ := by kernel_rfl
theorem Ui_zdrt_4_e0 {x : V} {K : Tree} {z : Ex × St} (h : (U_zdrt_4_e0 x K).eval = some z) : x = V.v false [C.yld 11] ∧ (K).eval = some z := by
 unfold U_zdrt_4_e0 at h
 split at h
 ·exact ⟨rfl, h⟩
 ·cases h
theorem Ui_zdrt_4_e7 {x : V} {K : (Option Bool) → Bool → (List (Ty .query)) → Tree} {z : Ex × St} (h : (U_zdrt_4_e7 x K).eval = some z) : ∃ (qC : Option Bool) (qD : Bool) (qE : List (Ty .query)), x = V.v false [C.d (.sl qC qD .query qE)] ∧ (K qC qD qE).eval = some z := by
 unfold U_zdrt_4_e7 at h
 split at h
 ·exact ⟨_, _, _, rfl, h⟩
 ·cases h
theorem Ui_zdrt_4_e8 {x : V} {K : Int → Tree} {z : Ex × St} (h : (U_zdrt_4_e8 x K).eval = some z) : ∃ (qF : Int), x = V.v false [C.d (.sc (.int .i64 qF))] ∧ (K qF).eval = some z := by
 unfold U_zdrt_4_e8 at h
 split at h
 ·exact ⟨_, rfl, h⟩
 ·cases h
theorem Ui_zdrt_4_e9 {x : V} {K : Int → Tree} {z : Ex × St} (h : (U_zdrt_4_e9 x K).eval = some z) : ∃ (t9_ : Int), x = V.v false [C.d (.sc (.int .i64 t9_))] ∧ (K t9_).eval = some z := by
 unfold U_zdrt_4_e9 at h
 split at h
 ·exact ⟨_, rfl, h⟩
 ·cases h
theorem Ui_zdrt_4_e14 {x : V} {K : (Option Bool) → Bool → (List Step) → Tree} {z : Ex × St} (h : (U_zdrt_4_e14 x K).eval = some z) : ∃ (qG : Option Bool) (qH : Bool) (qA : List Step), x = V.v false [C.d (.sl qG qH .step qA)] ∧ (K qG qH qA).eval = some z := by
 unfold U_zdrt_4_e14 at h
 split at h
 ·exact ⟨_, _, _, rfl, h⟩
 ·cases h
theorem Ui_zdrt_4_e15 {x : V} {K : Int → Tree} {z : Ex × St} (h : (U_zdrt_4_e15 x K).eval = some z) : ∃ (qB : Int), x = V.v false [C.d (.sc (.int .i64 qB))] ∧ (K qB).eval = some z := by
 unfold U_zdrt_4_e15 at h
 split at h
 ·exact ⟨_, rfl, h⟩
 ·cases h
theorem Ui_zdrt_4_e16 {x : V} {K : Int → Tree} {z : Ex × St} (h : (U_zdrt_4_e16 x K).eval = some z) : ∃ (t16_ : Int), x = V.v false [C.d (.sc (.int .i64 t16_))] ∧ (K t16_).eval = some z := by
 unfold U_zdrt_4_e16 at h
 split at h
 ·exact ⟨_, rfl, h⟩
 ·cases h
theorem Ui_zdrt_4_h1 {x : Option Blk} {K : Bool → Nat → Tree} {z : Ex × St} (h : (U_zdrt_4_h1 x K).eval = some z) : ∃ (h1_f : Bool) (h1_l : Nat), x = some (Blk.box 23 [C.own 15 .pred h1_f 0 h1_l]) ∧ (K h1_f h1_l).eval = some z := by
 unfold U_zdrt_4_h1 at h
 split at h
 ·exact ⟨_, _, rfl, h⟩
 ·cases h
theorem Ui_zdrt_4_h2 {x : Option Blk} {K : (List (ByteArray × List Int)) → Tree} {z : Ex × St} (h : (U_zdrt_4_h2 x K).eval = some z) : ∃ (h_2 : List (ByteArray × List Int)), x = some (Blk.mp 3 h_2 [] none) ∧ (K h_2).eval = some z := by
 unfold U_zdrt_4_h2 at h
 split at h
 ·exact ⟨_, rfl, h⟩
 ·cases h
theorem Ui_zdrt_4_h3 {x : Option Blk} {K : Tree} {z : Ex × St} (h : (U_zdrt_4_h3 x K).eval = some z) : x = some (Blk.box 117 [C.mref 2]) ∧ (K).eval = some z := by
 unfold U_zdrt_4_h3 at h
 split at h
 ·exact ⟨rfl, h⟩
 ·cases h
theorem Ui_zdrt_4_h7 {x : Option Blk} {K : (Option Bool) → Bool → (List (Ty .query)) → Tree} {z : Ex × St} (h : (U_zdrt_4_h7 x K).eval = some z) : ∃ (qI : Option Bool) (qJ : Bool) (qK : List (Ty .query)), x = some (Blk.box 22 [C.d (.sl qI qJ .query qK)]) ∧ (K qI qJ qK).eval = some z := by
 unfold U_zdrt_4_h7 at h
 split at h
 ·exact ⟨_, _, _, rfl, h⟩
 ·cases h
theorem Ui_zdrt_4_h11 {x : Option Blk} {K : Tree} {z : Ex × St} (h : (U_zdrt_4_h11 x K).eval = some z) : x = some (Blk.lp 5 (V.any :: V.any :: V.any :: V.v false [C.ptr 1 0] :: V.v false [C.ptr 3 0] :: V.any :: V.any :: V.any :: V.any :: V.any :: V.any :: V.any :: V.any :: V.any :: V.any :: V.any :: V.any :: V.any :: V.any :: V.any :: V.any :: V.any :: V.any :: V.any :: V.any :: V.any :: V.any :: V.any :: V.any :: V.any :: V.any :: V.any :: V.any :: V.any :: V.any :: []) 0 none) ∧ (K).eval = some z := by
 unfold U_zdrt_4_h11 at h
 split at h
 ·exact ⟨rfl, h⟩
 ·cases h
theorem Ui_zdrt_4_h15 {x : Option Blk} {K : (List (Ty .pred)) → Tree} {z : Ex × St} (h : (U_zdrt_4_h15 x K).eval = some z) : ∃ (h_15 : List (Ty .pred)), x = some (Blk.arr 26 .pred h_15) ∧ (K h_15).eval = some z := by
 unfold U_zdrt_4_h15 at h
 split at h
 ·exact ⟨_, rfl, h⟩
 ·cases h
theorem Ui_zdrt_4_h19 {x : Option Blk} {K : (Option Bool) → Bool → (List Step) → Int → Int → Int → Int → Tree} {z : Ex × St} (h : (U_zdrt_4_h19 x K).eval = some z) : ∃ (qL : Option Bool) (qM : Bool) (qN : List Step) (qO : Int) (qP : Int) (qQ : Int) (qR : Int), x = some (Blk.box 45 [C.d (.sl qL qM .step qN), C.d (.sc (.int .i64 qO)), C.d (.sc (.int .i64 qP)), C.d (.sc (.int .i64 qQ)), C.d (.sc (.int .i64 qR))]) ∧ (K qL qM qN qO qP qQ qR).eval = some z := by
 unfold U_zdrt_4_h19 at h
 split at h
 ·exact ⟨_, _, _, _, _, _, _, rfl, h⟩
 ·cases h
theorem lo1_zdrt_4 (e0 : V) (e7 : V) (e8 : V) (e9 : V) (e14 : V) (e15 : V) (e16 : V) (h1 : Option Blk) (h2 : Option Blk) (h3 : Option Blk) (h7 : Option Blk) (h11 : Option Blk) (h15 : Option Blk) (h19 : Option Blk) e st2 (h : (T1_zdrt_4 e0 e7 e8 e9 e14 e15 e16 h1 h2 h3 h7 h11 h15 h19).eval = some (e, st2)) : Circles Try.prog cx_zdrt b_zdrt_4 ⟨envOf 44 [(0, e0), (7, e7), (8, e8), (9, e9), (14, e14), (15, e15), (16, e16)], heapOf 25 [(1, h1), (2, h2), (3, h3), (7, h7), (11, h11), (15, h15), (19, h19)], 12⟩ e st2 := by
 unfold T1_zdrt_4 at h
 obtain ⟨rfl, h⟩ := Ui_zdrt_4_e0 h
 obtain ⟨qC, qD, qE, rfl, h⟩ := Ui_zdrt_4_e7 h
 obtain ⟨qF, rfl, h⟩ := Ui_zdrt_4_e8 h
 obtain ⟨t9_, rfl, h⟩ := Ui_zdrt_4_e9 h
 obtain ⟨qG, qH, qA, rfl, h⟩ := Ui_zdrt_4_e14 h
 obtain ⟨qB, rfl, h⟩ := Ui_zdrt_4_e15 h
 obtain ⟨t16_, rfl, h⟩ := Ui_zdrt_4_e16 h
 obtain ⟨h1_f, h1_l, rfl, h⟩ := Ui_zdrt_4_h1 h
 obtain ⟨h_2, rfl, h⟩ := Ui_zdrt_4_h2 h
 obtain ⟨rfl, h⟩ := Ui_zdrt_4_h3 h
 obtain ⟨qI, qJ, qK, rfl, h⟩ := Ui_zdrt_4_h7 h
 obtain ⟨rfl, h⟩ := Ui_zdrt_4_h11 h
 obtain ⟨h_15, rfl, h⟩ := Ui_zdrt_4_h15 h
 obtain ⟨qL, qM, qN, qO, qP, qQ, qR, rfl, h⟩ := Ui_zdrt_4_h19 h
 have := loop_tree (mk := mk_zdrt_4 qC qD qE qF t9_ qG qH qA qB qI qJ qK qL qM qN qO qP qQ qR) (ci_zdrt_4 qC qD qE qF t9_ qG qH qA qB qI qJ qK qL qM qN qO qP qQ qR) _ _ e st2 h
 rw [mke_zdrt_4] at this
 exact this
theorem lok_zdrt_4 : LoopOk Try.prog cx_zdrt b_zdrt_4 T_zdrt_4 := by
 intro st e st2 h
 unfold T_zdrt_4 at h
 cases hk : okSt 44 25 12 [1, 2, 3, 7, 11, 15, 19] st with
 | false => rw [hk] at h; cases h
 | true =>
  rw [hk] at h
  exact circles_keep (ks := [0, 7, 8, 9, 14, 15, 16]) hk (lo1_zdrt_4 _ _ _ _ _ _ _ _ _ _ _ _ _ _ e st2 h)
structure S.zdrt_1_V where
 t9_ : Int
 h1_f : Bool
 h1_l : Nat
 h_2 : List (ByteArray × List Int)
 h_15 : List (Ty .pred)
def S.zdrt_1_R (qE : List (Ty .query)) (qF : Int) (v : S.zdrt_1_V) : DT (Option Nat × S.zdrt_1_V) :=
let y0 : List Step := (qE.getD v.t9_.toNat (dflt .query)).steps
let y1 : Int := (↑y0.length : Int)
let y2 : S.zdrt_4_V := { t16_ := 0, h1_f := v.h1_f, h1_l := v.h1_l, h_2 := v.h_2, h_15 := v.h_15 : S.zdrt_4_V }
let y3 : S.zdrt_4_V := S.zdrt_4_v y0 y1 y2
(.br (xdec (v.t9_ < qF))
(.br (xdec (0 ≤ v.t9_) && xdec (v.t9_ < (↑qE.length : Int)))
(.br (S.zdrt_4_j y0 y1 y2 0)
(.leaf (none, ⟨xwrap .i64 (v.t9_ + 1), y3.h1_f, y3.h1_l, y3.h_2, y3.h_15⟩))
.fail)
.fail)
(.leaf (some 0, v)))
def S.zdrt_1_r (qE : List (Ty .query)) (qF : Int) (v : S.zdrt_1_V) : Option (Option Nat × S.zdrt_1_V) := (S.zdrt_1_R qE qF v).run
def S.zdrt_1_j (qE : List (Ty .query)) (qF : Int) (v : S.zdrt_1_V) (j : Nat) : Bool := Lp_j (S.zdrt_1_r qE qF) v j
def S.zdrt_1_v (qE : List (Ty .query)) (qF : Int) (v : S.zdrt_1_V) : S.zdrt_1_V := Lp_v (S.zdrt_1_r qE qF) v
def mk_zdrt_1 (qC : Option Bool) (qD : Bool) (qE : List (Ty .query)) (qF : Int) (qI : Option Bool) (qJ : Bool) (qK : List (Ty .query)) (v : S.zdrt_1_V) : St := ⟨(V.v false [C.yld 11] :: (vs 6 (V.v false [C.d (.sl qC qD .query qE)] :: ((cV qF) :: ((cV v.t9_) :: (vs 34 [])))))), (none :: (some (Blk.box 23 [C.own 15 .pred v.h1_f 0 v.h1_l]) :: (some (Blk.mp 3 v.h_2 [] none) :: (some (Blk.box 117 [C.mref 2]) :: (ns 3 (some (Blk.box 22 [C.d (.sl qI qJ .query qK)]) :: (ns 3 (some (Blk.lp 5 (vs 3 (V.v false [C.ptr 1 0] :: (V.v false [C.ptr 3 0] :: (vs 30 [])))) 0 none) :: (ns 3 (some (Blk.arr 26 .pred v.h_15) :: [])))))))))), 12⟩
def ex_zdrt_1 (qC : Option Bool) (qD : Bool) (qE : List (Ty .query)) (qF : Int) (qI : Option Bool) (qJ : Bool) (qK : List (Ty .query)) (j : Nat) (v : S.zdrt_1_V) : Ex × St := match j with
 | 0 => (Ex.exit 0, ⟨(vs 44 []), (none :: (some (Blk.box 23 [C.own 15 .pred v.h1_f 0 v.h1_l]) :: (some (Blk.mp 3 v.h_2 [] none) :: (some (Blk.box 117 [C.mref 2]) :: (ns 3 (some (Blk.box 22 [C.d (.sl qI qJ .query qK)]) :: (ns 3 (some
  (Blk.lp 5
   (vs 3 (V.v false [C.ptr 1 0] :: (V.v false [C.ptr 3 0] :: (vs 30 []))))
   0 none) :: (ns 3 (some (Blk.arr 26 .pred v.h_15) :: (none :: []))))))))))), 12⟩)
 | _ => (.ret, ⟨[], [], 0⟩)
def U_zdrt_1_e0 (x : V) (K : Tree) : Tree := match x with
 | V.v false [C.yld 11] => K
 | _ => .bad
def U_zdrt_1_e7 (x : V) (K : (Option Bool) → Bool → (List (Ty .query)) → Tree) : Tree := match x with
 | V.v false [C.d (.sl qC qD .query qE)] => K qC qD qE
 | _ => .bad
def U_zdrt_1_e8 (x : V) (K : Int → Tree) : Tree := match x with
 | V.v false [C.d (.sc (.int .i64 qF))] => K qF
 | _ => .bad
def U_zdrt_1_e9 (x : V) (K : Int → Tree) : Tree := match x with
 | V.v false [C.d (.sc (.int .i64 t9_))] => K t9_
 | _ => .bad
def U_zdrt_1_h1 (x : Option Blk) (K : Bool → Nat → Tree) : Tree := match x with
 | some (Blk.box 23 [C.own 15 .pred h1_f 0 h1_l]) => K h1_f h1_l
 | _ => .bad
def U_zdrt_1_h2 (x : Option Blk) (K : (List (ByteArray × List Int)) → Tree) : Tree := match x with
 | some (Blk.mp 3 h_2 [] none) => K h_2
 | _ => .bad
def U_zdrt_1_h3 (x : Option Blk) (K : Tree) : Tree := match x with
 | some (Blk.box 117 [C.mref 2]) => K
 | _ => .bad
def U_zdrt_1_h7 (x : Option Blk) (K : (Option Bool) → Bool → (List (Ty .query)) → Tree) : Tree := match x with
 | some (Blk.box 22 [C.d (.sl qI qJ .query qK)]) => K qI qJ qK
 | _ => .bad
def U_zdrt_1_h11 (x : Option Blk) (K : Tree) : Tree := match x with
 | some (Blk.lp 5 (V.any :: V.any :: V.any :: V.v false [C.ptr 1 0] :: V.v false [C.ptr 3 0] :: V.any :: V.any :: V.any :: V.any :: V.any :: V.any :: V.any :: V.any :: V.any :: V.any :: V.any :: V.any :: V.any :: V.any :: V.any :: V.any :: V.any :: V.any :: V.any :: V.any :: V.any :: V.any :: V.any :: V.any :: V.any :: V.any :: V.any :: V.any :: V.any :: V.any :: []) 0 none) => K
 | _ => .bad
def U_zdrt_1_h15 (x : Option Blk) (K : (List (Ty .pred)) → Tree) : Tree := match x with
 | some (Blk.arr 26 .pred h_15) => K h_15
 | _ => .bad
def T1_zdrt_1 (e0 : V) (e7 : V) (e8 : V) (e9 : V) (h1 : Option Blk) (h2 : Option Blk) (h3 : Option Blk) (h7 : Option Blk) (h11 : Option Blk) (h15 : Option Blk) : Tree := U_zdrt_1_e0 e0 (U_zdrt_1_e7 e7 (fun qC qD qE => U_zdrt_1_e8 e8 (fun qF => U_zdrt_1_e9 e9 (fun t9_ => U_zdrt_1_h1 h1 (fun h1_f h1_l => U_zdrt_1_h2 h2 (fun h_2 => U_zdrt_1_h3 h3 (U_zdrt_1_h7 h7 (fun qI qJ qK => U_zdrt_1_h11 h11 (U_zdrt_1_h15 h15 (fun h_15 => exT (fun j => ex_zdrt_1 qC qD qE qF qI qJ qK j (S.zdrt_1_v qE qF ⟨t9_, h1_f, h1_l, h_2, h_15⟩)) (S.zdrt_1_j qE qF ⟨t9_, h1_f, h1_l, h_2, h_15⟩) [0]))))))))))
def T_zdrt_1 (st : St) : Tree := bif okSt 44 16 12 [1, 2, 3, 7, 11, 15] st then T1_zdrt_1 (st.env.getD 0 .any) (st.env.getD 7 .any) (st.env.getD 8 .any) (st.env.getD 9 .any) (lk st.heap 1) (lk st.heap 2) (lk st.heap 3) (lk st.heap 7) (lk st.heap 11) (lk st.heap 15) else .bad
theorem rnd_zdrt_1 (qC : Option Bool) (qD : Bool) (qE : List (Ty .query)) (qF : Int) (qI : Option Bool) (qJ : Bool) (qK : List (Ty .query)) (v : S.zdrt_1_V) : round2 cx_zdrt (hdI cx_zdrt (find [(4, T_zdrt_4)]) [(82, Try.f82), (120, Try.f120)] none 3) 120 b_zdrt_1 [15] 16 [] (mk_zdrt_1 qC qD qE qF qI qJ qK v) = (S.zdrt_1_R qE qF v).go (roundOut (mk_zdrt_1 qC qD qE qF qI qJ qK) (ex_zdrt_1 qC qD qE qF qI qJ qK)) := by kernel_rfl
theorem bs_zdrt_1 : loopsOf b_zdrt_1 ++ loopsInl [(82, Try.f82), (120, Try.f120)] ++ loopsRf [(5, rfAt 39 Try.f39)] = [b_zdrt_4, b_zdrt_1] := by kernel_rfl
theorem ci_zdrt_1 (qC : Option Bool) (qD : Bool) (qE : List (Ty .query)) (qF : Int) (qI : Option Bool) (qJ : Bool) (qK : List (Ty .query)) : ∀ v j v2, Lp (S.zdrt_1_r qE qF) v = some (j, v2) → Circles Try.prog cx_zdrt b_zdrt_1 (mk_zdrt_1 qC qD qE qF qI qJ qK v) (ex_zdrt_1 qC qD qE qF qI qJ qK j v2).1 (ex_zdrt_1 qC qD qE qF qI qJ qK j v2).2 :=
 loop_ok3 (L := find [(4, T_zdrt_4)]) (n := 3) (hints := [(39, 5, { keep := [3, 4], acc := [] }), (120, 4, { keep := [0, 7, 8, 9, 14, 15, 16], acc := [(1001, some 0, .pred, 26)] }), (120, 1, { keep := [0, 7, 8, 9], acc := [(1001, some 0, .pred, 26)] })]) (cx_ok rfl) rdy_zdrt prs_zdrt bs_zdrt_1 (consB (fun T h => by have e : T_zdrt_4 = T := Option.some.inj (show some T_zdrt_4 = some T from h); exact e ▸ lok_zdrt_4) (consB (fun T h => by have e : (none : Option (St → Tree)) = some T := h; cases e) nilB)) (fun v => (rnd_zdrt_1 qC qD qE qF qI qJ qK v).trans (DT.go_run _ _)) (by intro j v; unfold ex_zdrt_1; split <;> rfl)
theorem mke_zdrt_1 (qC : Option Bool) (qD : Bool) (qE : List (Ty .query)) (qF : Int) (qI : Option Bool) (qJ : Bool) (qK : List (Ty .query)) (v : S.zdrt_1_V) : mk_zdrt_1 qC qD qE qF qI qJ qK v = ⟨envOf 44 [(0, V.v false [C.yld 11]), (7, V.v false [C.d (.sl qC qD .query qE)]), (8, (cV qF)), (9, (cV v.t9_))], heapOf 16 [(1, some (Blk.box 23 [C.own 15 .pred v.h1_f 0 v.h1_l])), (2, some (Blk.mp 3 v.h_2 [] none)), (3, some (Blk.box 117 [C.mref 2])), (7, some (Blk.box 22 [C.d (.sl qI qJ .query qK)])), (11, some
 (Blk.lp 5
  [V.any, V.any, V.any, V.v false [C.ptr 1 0], V.v false [C.ptr 3 0], V.any, V.any, V.any, V.any, V.any, V.any, V.any, V.any, V.any, V.any, V.any, V.any, V.any, V.any, V.any,
   V.any, V.any, V.any, V.any, V.any, V.any, V.any, V.any, V.any, V.any, V.any, V.any, V.any, V.any, V.any]
  0 none)), (15, some (Blk.arr 26 .pred v.h_15))], 12⟩ := by kernel_rfl
theorem Ui_zdrt_1_e0 {x : V} {K : Tree} {z : Ex × St} (h : (U_zdrt_1_e0 x K).eval = some z) : x = V.v false [C.yld 11] ∧ (K).eval = some z := by
 unfold U_zdrt_1_e0 at h
 split at h
 ·exact ⟨rfl, h⟩
 ·cases h
theorem Ui_zdrt_1_e7 {x : V} {K : (Option Bool) → Bool → (List (Ty .query)) → Tree} {z : Ex × St} (h : (U_zdrt_1_e7 x K).eval = some z) : ∃ (qC : Option Bool) (qD : Bool) (qE : List (Ty .query)), x = V.v false [C.d (.sl qC qD .query qE)] ∧ (K qC qD qE).eval = some z := by
 unfold U_zdrt_1_e7 at h
 split at h
 ·exact ⟨_, _, _, rfl, h⟩
 ·cases h
theorem Ui_zdrt_1_e8 {x : V} {K : Int → Tree} {z : Ex × St} (h : (U_zdrt_1_e8 x K).eval = some z) : ∃ (qF : Int), x = V.v false [C.d (.sc (.int .i64 qF))] ∧ (K qF).eval = some z := by
 unfold U_zdrt_1_e8 at h
 split at h
 ·exact ⟨_, rfl, h⟩
 ·cases h
theorem Ui_zdrt_1_e9 {x : V} {K : Int → Tree} {z : Ex × St} (h : (U_zdrt_1_e9 x K).eval = some z) : ∃ (t9_ : Int), x = V.v false [C.d (.sc (.int .i64 t9_))] ∧ (K t9_).eval = some z := by
 unfold U_zdrt_1_e9 at h
 split at h
 ·exact ⟨_, rfl, h⟩
 ·cases h
theorem Ui_zdrt_1_h1 {x : Option Blk} {K : Bool → Nat → Tree} {z : Ex × St} (h : (U_zdrt_1_h1 x K).eval = some z) : ∃ (h1_f : Bool) (h1_l : Nat), x = some (Blk.box 23 [C.own 15 .pred h1_f 0 h1_l]) ∧ (K h1_f h1_l).eval = some z := by
 unfold U_zdrt_1_h1 at h
 split at h
 ·exact ⟨_, _, rfl, h⟩
 ·cases h
theorem Ui_zdrt_1_h2 {x : Option Blk} {K : (List (ByteArray × List Int)) → Tree} {z : Ex × St} (h : (U_zdrt_1_h2 x K).eval = some z) : ∃ (h_2 : List (ByteArray × List Int)), x = some (Blk.mp 3 h_2 [] none) ∧ (K h_2).eval = some z := by
 unfold U_zdrt_1_h2 at h
 split at h
 ·exact ⟨_, rfl, h⟩
 ·cases h
theorem Ui_zdrt_1_h3 {x : Option Blk} {K : Tree} {z : Ex × St} (h : (U_zdrt_1_h3 x K).eval = some z) : x = some (Blk.box 117 [C.mref 2]) ∧ (K).eval = some z := by
 unfold U_zdrt_1_h3 at h
 split at h
 ·exact ⟨rfl, h⟩
 ·cases h
theorem Ui_zdrt_1_h7 {x : Option Blk} {K : (Option Bool) → Bool → (List (Ty .query)) → Tree} {z : Ex × St} (h : (U_zdrt_1_h7 x K).eval = some z) : ∃ (qI : Option Bool) (qJ : Bool) (qK : List (Ty .query)), x = some (Blk.box 22 [C.d (.sl qI qJ .query qK)]) ∧ (K qI qJ qK).eval = some z := by
 unfold U_zdrt_1_h7 at h
 split at h
 ·exact ⟨_, _, _, rfl, h⟩
 ·cases h
theorem Ui_zdrt_1_h11 {x : Option Blk} {K : Tree} {z : Ex × St} (h : (U_zdrt_1_h11 x K).eval = some z) : x = some (Blk.lp 5 (V.any :: V.any :: V.any :: V.v false [C.ptr 1 0] :: V.v false [C.ptr 3 0] :: V.any :: V.any :: V.any :: V.any :: V.any :: V.any :: V.any :: V.any :: V.any :: V.any :: V.any :: V.any :: V.any :: V.any :: V.any :: V.any :: V.any :: V.any :: V.any :: V.any :: V.any :: V.any :: V.any :: V.any :: V.any :: V.any :: V.any :: V.any :: V.any :: V.any :: []) 0 none) ∧ (K).eval = some z := by
 unfold U_zdrt_1_h11 at h
 split at h
 ·exact ⟨rfl, h⟩
 ·cases h
theorem Ui_zdrt_1_h15 {x : Option Blk} {K : (List (Ty .pred)) → Tree} {z : Ex × St} (h : (U_zdrt_1_h15 x K).eval = some z) : ∃ (h_15 : List (Ty .pred)), x = some (Blk.arr 26 .pred h_15) ∧ (K h_15).eval = some z := by
 unfold U_zdrt_1_h15 at h
 split at h
 ·exact ⟨_, rfl, h⟩
 ·cases h
theorem lo1_zdrt_1 (e0 : V) (e7 : V) (e8 : V) (e9 : V) (h1 : Option Blk) (h2 : Option Blk) (h3 : Option Blk) (h7 : Option Blk) (h11 : Option Blk) (h15 : Option Blk) e st2 (h : (T1_zdrt_1 e0 e7 e8 e9 h1 h2 h3 h7 h11 h15).eval = some (e, st2)) : Circles Try.prog cx_zdrt b_zdrt_1 ⟨envOf 44 [(0, e0), (7, e7), (8, e8), (9, e9)], heapOf 16 [(1, h1), (2, h2), (3, h3), (7, h7), (11, h11), (15, h15)], 12⟩ e st2 := by
 unfold T1_zdrt_1 at h
 obtain ⟨rfl, h⟩ := Ui_zdrt_1_e0 h
 obtain ⟨qC, qD, qE, rfl, h⟩ := Ui_zdrt_1_e7 h
 obtain ⟨qF, rfl, h⟩ := Ui_zdrt_1_e8 h
 obtain ⟨t9_, rfl, h⟩ := Ui_zdrt_1_e9 h
 obtain ⟨h1_f, h1_l, rfl, h⟩ := Ui_zdrt_1_h1 h
 obtain ⟨h_2, rfl, h⟩ := Ui_zdrt_1_h2 h
 obtain ⟨rfl, h⟩ := Ui_zdrt_1_h3 h
 obtain ⟨qI, qJ, qK, rfl, h⟩ := Ui_zdrt_1_h7 h
 obtain ⟨rfl, h⟩ := Ui_zdrt_1_h11 h
 obtain ⟨h_15, rfl, h⟩ := Ui_zdrt_1_h15 h
 have := loop_tree (mk := mk_zdrt_1 qC qD qE qF qI qJ qK) (ci_zdrt_1 qC qD qE qF qI qJ qK) _ _ e st2 h
 rw [mke_zdrt_1] at this
 exact this
theorem lok_zdrt_1 : LoopOk Try.prog cx_zdrt b_zdrt_1 T_zdrt_1 := by
 intro st e st2 h
 unfold T_zdrt_1 at h
 cases hk : okSt 44 16 12 [1, 2, 3, 7, 11, 15] st with
 | false => rw [hk] at h; cases h
 | true =>
  rw [hk] at h
  exact circles_keep (ks := [0, 7, 8, 9]) hk (lo1_zdrt_1 _ _ _ _ _ _ _ _ _ _ e st2 h)
structure S.zdrt_T where
 x0 : List (Ty .pred)
 x1 : Bool
 x2 : Nat
 deriving Inhabited
def S.zdrt_R (a0 : List (Ty .query)) : DT S.zdrt_T :=
let y0 : Int := (↑a0.length : Int)
let y1 : S.zdrt_1_V := { t9_ := 0, h1_f := true, h1_l := 0, h_2 := [], h_15 := [] : S.zdrt_1_V }
let y2 : S.zdrt_1_V := S.zdrt_1_v a0 y0 y1
(.br (S.zdrt_1_j a0 y0 y1 0)
(.leaf ⟨y2.h_15, y2.h1_f, y2.h1_l⟩)
.fail)
def S.zdrt (a0 : List (Ty .query)) : Option S.zdrt_T := (S.zdrt_R a0).run
def S.zdrt_is (a0 : List (Ty .query)) : Bool := (S.zdrt a0).isSome
def S.zdrt_o (a0 : List (Ty .query)) : S.zdrt_T := (S.zdrt a0).getD default
def ret_zdrt (b : Bool) (r : S.zdrt_T) : Ret := ⟨b, some (26, (⟨.pred, r.x0⟩ : (t : ET) × List (Ty t))), [(false, [C.own 0 .pred r.x1 0 r.x2])]⟩
def g_zdrt : Con
 | [(false, [.sl a0n a0f .query a0])] => some (ret_zdrt (S.zdrt_is a0) (S.zdrt_o a0))
 | _ => none
theorem raw_zdrt (a0n : Option Bool) (a0f : Bool) (a0 : List (Ty .query)) : evR4 cx_zdrt (hdT cx_zdrt (find [(4, T_zdrt_4), (1, T_zdrt_1)]) [(82, Try.f82), (120, Try.f120)] none 3) none Try.f39 39 (some 26) [(false, [.sl a0n a0f .query a0])] some = (S.zdrt_R a0).go (ret_zdrt true) := by kernel_rfl
theorem bs_zdrt : loopsIn Try.f39 [(82, Try.f82), (120, Try.f120)] ++ loopsRf [(5, rfAt 39 Try.f39)] = [b_zdrt_1] := by kernel_rfl
theorem zdrt_ok : Stands Try.prog tyTab 39 g_zdrt := by
 refine stands4 (L := find [(4, T_zdrt_4), (1, T_zdrt_1)]) (n := 3) (hints := [(39, 5, { keep := [3, 4], acc := [] }), (120, 4, { keep := [0, 7, 8, 9, 14, 15, 16], acc := [(1001, some 0, .pred, 26)] }), (120, 1, { keep := [0, 7, 8, 9], acc := [(1001, some 0, .pred, 26)] })]) (cx_ok rfl) rdy_zdrt prs_zdrt ⟨by kernel_rfl, by kernel_rfl, by kernel_rfl⟩ (rfsOk_one (by kernel_rfl) (by kernel_rfl)) bs_zdrt (consB (fun T h => by have e : T_zdrt_1 = T := Option.some.inj (show some T_zdrt_1 = some T from h); exact e ▸ lok_zdrt_1) nilB) (fun das r hG hr => ?_)
 unfold g_zdrt at hG
 split at hG
 ·rename_i a0n a0f a0
  injection hG with hG; subst hG
  exact ⟨(some 26), true, win default ((raw_zdrt a0n a0f a0).trans (DT.go_run _ _)) hr⟩
 ·cases hG
end
end Go.Eng
