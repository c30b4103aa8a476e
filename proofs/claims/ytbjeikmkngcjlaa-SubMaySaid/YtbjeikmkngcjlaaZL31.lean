/- Contracts, laid by program. -/
import Derived.Test.YtbjeikmkngcjlaaZG9
import Derived.Test.YtbjeikmkngcjlaaZE3
set_option maxHeartbeats 2000000
set_option maxRecDepth 10000
set_option linter.unusedVariables false
set_option linter.unusedSimpArgs false
namespace Go.Eng
noncomputable section
open Go Go.Eng Go.Proofs Go.Eng.Tab
abbrev cx_law15_SubMay : Cx := mkCx3 tyTab [(36, g_law06_Few), (51, g_ref09_May), (63, g_law15_awake), (64, g_law15_Few), (65, g_sub_May), (66, g_sub_Feed), (68, g_sub_Give), (69, g_sub_Go), (70, g_sub_Hold), (79, g_sub_Ack)] [] [(31, 8, { keep := [2, 3, 4, 5, 13], acc := [] })] [] [] []
theorem rdy_law15_SubMay : Ready Try.prog tyTab [(36, g_law06_Few), (51, g_ref09_May), (63, g_law15_awake), (64, g_law15_Few), (65, g_sub_May), (66, g_sub_Feed), (68, g_sub_Give), (69, g_sub_Go), (70, g_sub_Hold), (79, g_sub_Ack)] [] [] := ⟨consG2 law06_Few_ok (consG2 ref09_May_ok (consG2 law15_awake_ok (consG2 law15_Few_ok (consG2 sub_May_ok (consG2 sub_Feed_ok (consG2 sub_Give_ok (consG2 sub_Go_ok (consG2 sub_Hold_ok (consG2 sub_Ack_ok (noneG2)))))))))), noneI2, noneF2⟩
theorem prs_law15_SubMay : PrsOk Try.prog tyTab [] := noneP
structure S.law15_SubMay_8_V where
  t_13_0 : Int
def S.law15_SubMay_8_R (qA : List (Ty .run)) (v : S.law15_SubMay_8_V) : DT (Option Nat × S.law15_SubMay_8_V) :=
let y0 : Bool := xdec (v.t_13_0 < (↑qA.length : Int))
(.br (y0)
(.br (xdec (0 ≤ v.t_13_0) && y0)
(.br (xdec ((qA.getD v.t_13_0.toNat (dflt ET.run)).many > 1099511627776))
(.leaf (some 0, v))
(.leaf (none, ⟨xwrap IntKind.i64 (v.t_13_0 + 1)⟩)))
.fail)
(.leaf (some 1, v)))
def S.law15_SubMay_8_r (qA : List (Ty .run)) (v : S.law15_SubMay_8_V) : Option (Option Nat × S.law15_SubMay_8_V) := (S.law15_SubMay_8_R qA v).run
def S.law15_SubMay_8_j (qA : List (Ty .run)) (v : S.law15_SubMay_8_V) (j : Nat) : Bool := Lp_j (S.law15_SubMay_8_r qA) v j
def S.law15_SubMay_8_v (qA : List (Ty .run)) (v : S.law15_SubMay_8_V) : S.law15_SubMay_8_V := Lp_v (S.law15_SubMay_8_r qA) v
def mk_law15_SubMay_8 (qB : Int) (qC : Int) (qD : Int) (qE : Int) (qF : Option Bool) (qG : Bool) (qH : List (Ty .step)) (qI : Int) (qJ : Int) (qK : Int) (qL : Int) (qM : Option Bool) (qN : Bool) (qA : List (Ty .run)) (qO : Int) (qP : Int) (qQ : Int) (qR : Option Bool) (qS : Bool) (qT : List (Ty .mat)) (qU : Bool) (qV : Int) (qW : Bool) (qX : ByteArray) (qY : Int) (qZ : Option Bool) (rA : Bool) (rB : List (Ty .val)) (v : S.law15_SubMay_8_V) : St := ⟨[V.any, V.any, V.v false [C.d (.sc (.int .i64 qB))], V.v false [C.d (.sc (.int .i64 qC))], V.v false [C.ptr 0 0], V.v false [C.ptr 1 0], V.any, V.any,
  V.any, V.any, V.any, V.any, V.any, V.v false [C.d (.sc (.int .i64 v.t_13_0))], V.any, V.any, V.any, V.any, V.any, V.any, V.any, V.any, V.any, V.any, V.any, V.any,
  V.any, V.any, V.any, V.any, V.any, V.any, V.any, V.any, V.any, V.any, V.any, V.any, V.any, V.any, V.any, V.any, V.any, V.any, V.any, V.any, V.any, V.any, V.any, V.any, V.any,
  V.any, V.any, V.any, V.any, V.any, V.any, V.any, V.any, V.any, V.any, V.any, V.any, V.any, V.any, V.any, V.any, V.any, V.any, V.any, V.any, V.any, V.any, V.any, V.any, V.any,
  V.any, V.any, V.any, V.any, V.any, V.any, V.any, V.any, V.any, V.any, V.any, V.any, V.any, V.any, V.any, V.any, V.any, V.any, V.any, V.any, V.any, V.any, V.any, V.any, V.any,
  V.any, V.any, V.any, V.any, V.any, V.any, V.any, V.any, V.any, V.any, V.any, V.any, V.any, V.any, V.any, V.any, V.any, V.any, V.any, V.any, V.any, V.any, V.any, V.any, V.any,
  V.any, V.any, V.any, V.any, V.any, V.any, V.any, V.any, V.any, V.any, V.any, V.any, V.any, V.any, V.any, V.any, V.any, V.any, V.any, V.any, V.any, V.any, V.any, V.any, V.any,
  V.any, V.any, V.any, V.any, V.any, V.any, V.any, V.any, V.any, V.any, V.any, V.any, V.any, V.any, V.any, V.any, V.any, V.any, V.any, V.any, V.any, V.any, V.any, V.any, V.any,
  V.any, V.any, V.any, V.any, V.any, V.any, V.any, V.any, V.any, V.any, V.any, V.any, V.any, V.any], [some
    (Blk.box 89
      [C.d (.sc (.int .i64 qD)), C.d (.sc (.int .i64 qE)), C.d (.sl qF qG ET.step qH), C.d (.sc (.int .i64 qI)),
        C.d (.sc (.int .i64 qJ)), C.d (.sc (.int .i64 qK)), C.d (.sc (.int .i64 qL)), C.d (.sl qM qN ET.run qA),
        C.d (.sc (.int .i64 qO)), C.d (.sc (.int .i64 qP)), C.d (.sc (.int .i64 qQ)), C.d (.sl qR qS ET.mat qT),
        C.d (.sc (.bool qU)), C.d (.sc (.int .i64 qV)), C.d (.sc (.bool qW))]),
  some (Blk.box 29 [C.d (.sc (.str qX)), C.d (.sc (.int .i64 qY)), C.d (.sl qZ rA ET.val rB)]), none, none, none, none, none, none, none, none, none,
  none, none, none, none, none, none, none, none, none, none, none, none, none, none, none, none, none, none, none, none, none, none, none, none, none], 0⟩
def ex_law15_SubMay_8 (qB : Int) (qC : Int) (qD : Int) (qE : Int) (qF : Option Bool) (qG : Bool) (qH : List (Ty .step)) (qI : Int) (qJ : Int) (qK : Int) (qL : Int) (qM : Option Bool) (qN : Bool) (qA : List (Ty .run)) (qO : Int) (qP : Int) (qQ : Int) (qR : Option Bool) (qS : Bool) (qT : List (Ty .mat)) (qU : Bool) (qV : Int) (qW : Bool) (qX : ByteArray) (qY : Int) (qZ : Option Bool) (rA : Bool) (rB : List (Ty .val)) (j : Nat) (v : S.law15_SubMay_8_V) : Ex × St := match j with
  | 0 => (Ex.ret, ⟨[V.any, V.any, V.v false [C.d (.sc (.int .i64 qB))], V.v false [C.d (.sc (.int .i64 qC))], V.v false [C.ptr 0 0], V.v false [C.ptr 1 0], V.any, V.any,
  V.v false [C.d (.sc (.bool true))], V.any, V.any, V.any, V.any, V.any, V.any, V.any, V.any, V.any, V.any, V.any, V.any, V.any, V.any, V.any, V.any, V.any, V.any, V.any, V.any,
  V.any, V.any, V.any, V.any, V.any, V.any, V.any, V.any, V.any, V.any, V.any, V.any, V.any, V.any, V.any, V.any, V.any, V.any, V.any, V.any, V.any, V.any, V.any, V.any, V.any,
  V.any, V.any, V.any, V.any, V.any, V.any, V.any, V.any, V.any, V.any, V.any, V.any, V.any, V.any, V.any, V.any, V.any, V.any, V.any, V.any, V.any, V.any, V.any, V.any, V.any,
  V.any, V.any, V.any, V.any, V.any, V.any, V.any, V.any, V.any, V.any, V.any, V.any, V.any, V.any, V.any, V.any, V.any, V.any, V.any, V.any, V.any, V.any, V.any, V.any, V.any,
  V.any, V.any, V.any, V.any, V.any, V.any, V.any, V.any, V.any, V.any, V.any, V.any, V.any, V.any, V.any, V.any, V.any, V.any, V.any, V.any, V.any, V.any, V.any, V.any, V.any,
  V.any, V.any, V.any, V.any, V.any, V.any, V.any, V.any, V.any, V.any, V.any, V.any, V.any, V.any, V.any, V.any, V.any, V.any, V.any, V.any, V.any, V.any, V.any, V.any, V.any,
  V.any, V.any, V.any, V.any, V.any, V.any, V.any, V.any, V.any, V.any, V.any, V.any, V.any, V.any, V.any, V.any, V.any, V.any, V.any, V.any, V.any, V.any, V.any, V.any, V.any,
  V.any, V.any, V.any, V.any, V.any, V.any, V.any, V.any, V.any, V.any, V.any], [some
    (Blk.box 89
      [C.d (.sc (.int .i64 qD)), C.d (.sc (.int .i64 qE)), C.d (.sl qF qG ET.step qH), C.d (.sc (.int .i64 qI)),
        C.d (.sc (.int .i64 qJ)), C.d (.sc (.int .i64 qK)), C.d (.sc (.int .i64 qL)), C.d (.sl qM qN ET.run qA),
        C.d (.sc (.int .i64 qO)), C.d (.sc (.int .i64 qP)), C.d (.sc (.int .i64 qQ)), C.d (.sl qR qS ET.mat qT),
        C.d (.sc (.bool qU)), C.d (.sc (.int .i64 qV)), C.d (.sc (.bool qW))]),
  some (Blk.box 29 [C.d (.sc (.str qX)), C.d (.sc (.int .i64 qY)), C.d (.sl qZ rA ET.val rB)]), none, none, none, none, none, none, none, none, none,
  none, none, none, none, none, none, none, none, none, none, none, none, none, none, none, none, none, none, none, none, none, none, none, none, none, none, none, none, none,
  none, none, none, none, none, none, none, none, none, none, none], 0⟩)
  | 1 => (Ex.exit 0, ⟨[V.any, V.any, V.v false [C.d (.sc (.int .i64 qB))], V.v false [C.d (.sc (.int .i64 qC))], V.v false [C.ptr 0 0], V.v false [C.ptr 1 0], V.any, V.any,
  V.any, V.any, V.any, V.any, V.any, V.any, V.any, V.any, V.any, V.any, V.any, V.any, V.any, V.any, V.any, V.any, V.any, V.any, V.any, V.any, V.any, V.any, V.any, V.any, V.any,
  V.any, V.any, V.any, V.any, V.any, V.any, V.any, V.any, V.any, V.any, V.any, V.any, V.any, V.any, V.any, V.any, V.any, V.any, V.any, V.any, V.any, V.any, V.any, V.any, V.any,
  V.any, V.any, V.any, V.any, V.any, V.any, V.any, V.any, V.any, V.any, V.any, V.any, V.any, V.any, V.any, V.any, V.any, V.any, V.any, V.any, V.any, V.any, V.any, V.any, V.any,
  V.any, V.any, V.any, V.any, V.any, V.any, V.any, V.any, V.any, V.any, V.any, V.any, V.any, V.any, V.any, V.any, V.any, V.any, V.any, V.any, V.any, V.any, V.any, V.any, V.any,
  V.any, V.any, V.any, V.any, V.any, V.any, V.any, V.any, V.any, V.any, V.any, V.any, V.any, V.any, V.any, V.any, V.any, V.any, V.any, V.any, V.any, V.any, V.any, V.any, V.any,
  V.any, V.any, V.any, V.any, V.any, V.any, V.any, V.any, V.any, V.any, V.any, V.any, V.any, V.any, V.any, V.any, V.any, V.any, V.any, V.any, V.any, V.any, V.any, V.any, V.any,
  V.any, V.any, V.any, V.any, V.any, V.any, V.any, V.any, V.any, V.any, V.any, V.any, V.any, V.any, V.any, V.any, V.any, V.any, V.any, V.any, V.any, V.any, V.any, V.any, V.any,
  V.any, V.any, V.any, V.any, V.any, V.any, V.any], [some
    (Blk.box 89
      [C.d (.sc (.int .i64 qD)), C.d (.sc (.int .i64 qE)), C.d (.sl qF qG ET.step qH), C.d (.sc (.int .i64 qI)),
        C.d (.sc (.int .i64 qJ)), C.d (.sc (.int .i64 qK)), C.d (.sc (.int .i64 qL)), C.d (.sl qM qN ET.run qA),
        C.d (.sc (.int .i64 qO)), C.d (.sc (.int .i64 qP)), C.d (.sc (.int .i64 qQ)), C.d (.sl qR qS ET.mat qT),
        C.d (.sc (.bool qU)), C.d (.sc (.int .i64 qV)), C.d (.sc (.bool qW))]),
  some (Blk.box 29 [C.d (.sc (.str qX)), C.d (.sc (.int .i64 qY)), C.d (.sl qZ rA ET.val rB)]), none, none, none, none, none, none, none, none, none,
  none, none, none, none, none, none, none, none, none, none, none, none, none, none, none, none, none, none, none, none, none, none, none, none, none, none, none, none, none,
  none, none], 0⟩)
  | _ => (.ret, ⟨[], [], 0⟩)
def U_law15_SubMay_8_e2 (x : V) (K : Int → Tree) : Tree := match x with
  | V.v false [C.d (.sc (.int .i64 qB))] => K qB
  | _ => .bad
def U_law15_SubMay_8_e3 (x : V) (K : Int → Tree) : Tree := match x with
  | V.v false [C.d (.sc (.int .i64 qC))] => K qC
  | _ => .bad
def U_law15_SubMay_8_e4 (x : V) (K : Tree) : Tree := match x with
  | V.v false [C.ptr 0 0] => K
  | _ => .bad
def U_law15_SubMay_8_e5 (x : V) (K : Tree) : Tree := match x with
  | V.v false [C.ptr 1 0] => K
  | _ => .bad
def U_law15_SubMay_8_e13 (x : V) (K : Int → Tree) : Tree := match x with
  | V.v false [C.d (.sc (.int .i64 t_13_0))] => K t_13_0
  | _ => .bad
def U_law15_SubMay_8_h0 (x : Option Blk) (K : Int → Int → (Option Bool) → Bool → (List (Ty .step)) → Int → Int → Int → Int → (Option Bool) → Bool → (List (Ty .run)) → Int → Int → Int → (Option Bool) → Bool → (List (Ty .mat)) → Bool → Int → Bool → Tree) : Tree := match x with
  | some (Blk.box 89 [C.d (.sc (.int .i64 qD)), C.d (.sc (.int .i64 qE)), C.d (.sl qF qG ET.step qH), C.d (.sc (.int .i64 qI)), C.d (.sc (.int .i64 qJ)), C.d (.sc (.int .i64 qK)), C.d (.sc (.int .i64 qL)), C.d (.sl qM qN ET.run qA), C.d (.sc (.int .i64 qO)), C.d (.sc (.int .i64 qP)), C.d (.sc (.int .i64 qQ)), C.d (.sl qR qS ET.mat qT), C.d (.sc (.bool qU)), C.d (.sc (.int .i64 qV)), C.d (.sc (.bool qW))]) => K qD qE qF qG qH qI qJ qK qL qM qN qA qO qP qQ qR qS qT qU qV qW
  | _ => .bad
def U_law15_SubMay_8_h1 (x : Option Blk) (K : ByteArray → Int → (Option Bool) → Bool → (List (Ty .val)) → Tree) : Tree := match x with
  | some (Blk.box 29 [C.d (.sc (.str qX)), C.d (.sc (.int .i64 qY)), C.d (.sl qZ rA ET.val rB)]) => K qX qY qZ rA rB
  | _ => .bad
def T1_law15_SubMay_8 (e2 : V) (e3 : V) (e4 : V) (e5 : V) (e13 : V) (h0 : Option Blk) (h1 : Option Blk) : Tree := U_law15_SubMay_8_e2 e2 (fun qB => U_law15_SubMay_8_e3 e3 (fun qC => U_law15_SubMay_8_e4 e4 (U_law15_SubMay_8_e5 e5 (U_law15_SubMay_8_e13 e13 (fun t_13_0 => U_law15_SubMay_8_h0 h0 (fun qD qE qF qG qH qI qJ qK qL qM qN qA qO qP qQ qR qS qT qU qV qW => U_law15_SubMay_8_h1 h1 (fun qX qY qZ rA rB => exT (fun j => ex_law15_SubMay_8 qB qC qD qE qF qG qH qI qJ qK qL qM qN qA qO qP qQ qR qS qT qU qV qW qX qY qZ rA rB j (S.law15_SubMay_8_v qA ⟨t_13_0⟩)) (S.law15_SubMay_8_j qA ⟨t_13_0⟩) [0, 1])))))))
def T_law15_SubMay_8 (st : St) : Tree := bif okSt 190 36 0 [0, 1] st then T1_law15_SubMay_8 (st.env.getD 2 .any) (st.env.getD 3 .any) (st.env.getD 4 .any) (st.env.getD 5 .any) (st.env.getD 13 .any) (lk st.heap 0) (lk st.heap 1) else .bad
def b_law15_SubMay_8 : Code := loopBy Try.f31 8
theorem rnd_law15_SubMay_8 (qB : Int) (qC : Int) (qD : Int) (qE : Int) (qF : Option Bool) (qG : Bool) (qH : List (Ty .step)) (qI : Int) (qJ : Int) (qK : Int) (qL : Int) (qM : Option Bool) (qN : Bool) (qA : List (Ty .run)) (qO : Int) (qP : Int) (qQ : Int) (qR : Option Bool) (qS : Bool) (qT : List (Ty .mat)) (qU : Bool) (qV : Int) (qW : Bool) (qX : ByteArray) (qY : Int) (qZ : Option Bool) (rA : Bool) (rB : List (Ty .val)) (v : S.law15_SubMay_8_V) : round2 cx_law15_SubMay (hdI cx_law15_SubMay (find []) [] none 0) 31 b_law15_SubMay_8 [] 36 [2, 3, 4, 5, 8] (mk_law15_SubMay_8 qB qC qD qE qF qG qH qI qJ qK qL qM qN qA qO qP qQ qR qS qT qU qV qW qX qY qZ rA rB v) = (S.law15_SubMay_8_R qA v).go (roundOut (mk_law15_SubMay_8 qB qC qD qE qF qG qH qI qJ qK qL qM qN qA qO qP qQ qR qS qT qU qV qW qX qY qZ rA rB) (ex_law15_SubMay_8 qB qC qD qE qF qG qH qI qJ qK qL qM qN qA qO qP qQ qR qS qT qU qV qW qX qY qZ rA rB)) := by kernel_rfl
theorem bs_law15_SubMay_8 : loopsOf b_law15_SubMay_8 ++ loopsInl [] ++ loopsRf [] = [] := by kernel_rfl
theorem ci_law15_SubMay_8 (qB : Int) (qC : Int) (qD : Int) (qE : Int) (qF : Option Bool) (qG : Bool) (qH : List (Ty .step)) (qI : Int) (qJ : Int) (qK : Int) (qL : Int) (qM : Option Bool) (qN : Bool) (qA : List (Ty .run)) (qO : Int) (qP : Int) (qQ : Int) (qR : Option Bool) (qS : Bool) (qT : List (Ty .mat)) (qU : Bool) (qV : Int) (qW : Bool) (qX : ByteArray) (qY : Int) (qZ : Option Bool) (rA : Bool) (rB : List (Ty .val)) : ∀ v j v2, Lp (S.law15_SubMay_8_r qA) v = some (j, v2) → Circles Try.prog cx_law15_SubMay b_law15_SubMay_8 (mk_law15_SubMay_8 qB qC qD qE qF qG qH qI qJ qK qL qM qN qA qO qP qQ qR qS qT qU qV qW qX qY qZ rA rB v) (ex_law15_SubMay_8 qB qC qD qE qF qG qH qI qJ qK qL qM qN qA qO qP qQ qR qS qT qU qV qW qX qY qZ rA rB j v2).1 (ex_law15_SubMay_8 qB qC qD qE qF qG qH qI qJ qK qL qM qN qA qO qP qQ qR qS qT qU qV qW qX qY qZ rA rB j v2).2 :=
  loop_ok3 (L := find []) (n := 0) (hints := [(31, 8, { keep := [2, 3, 4, 5, 13], acc := [] })]) (cx_ok rfl) rdy_law15_SubMay prs_law15_SubMay bs_law15_SubMay_8 nilB (fun v => (rnd_law15_SubMay_8 qB qC qD qE qF qG qH qI qJ qK qL qM qN qA qO qP qQ qR qS qT qU qV qW qX qY qZ rA rB v).trans (DT.go_run _ _)) (by intro j v; unfold ex_law15_SubMay_8; split <;> rfl)
theorem mke_law15_SubMay_8 (qB : Int) (qC : Int) (qD : Int) (qE : Int) (qF : Option Bool) (qG : Bool) (qH : List (Ty .step)) (qI : Int) (qJ : Int) (qK : Int) (qL : Int) (qM : Option Bool) (qN : Bool) (qA : List (Ty .run)) (qO : Int) (qP : Int) (qQ : Int) (qR : Option Bool) (qS : Bool) (qT : List (Ty .mat)) (qU : Bool) (qV : Int) (qW : Bool) (qX : ByteArray) (qY : Int) (qZ : Option Bool) (rA : Bool) (rB : List (Ty .val)) (v : S.law15_SubMay_8_V) : mk_law15_SubMay_8 qB qC qD qE qF qG qH qI qJ qK qL qM qN qA qO qP qQ qR qS qT qU qV qW qX qY qZ rA rB v = ⟨envOf 190 [(2, V.v false [C.d (.sc (.int .i64 qB))]), (3, V.v false [C.d (.sc (.int .i64 qC))]), (4, V.v false [C.ptr 0 0]), (5, V.v false [C.ptr 1 0]), (13, V.v false [C.d (.sc (.int .i64 v.t_13_0))])], heapOf 36 [(0, some
  (Blk.box 89
    [C.d (.sc (.int .i64 qD)), C.d (.sc (.int .i64 qE)), C.d (.sl qF qG ET.step qH), C.d (.sc (.int .i64 qI)),
      C.d (.sc (.int .i64 qJ)), C.d (.sc (.int .i64 qK)), C.d (.sc (.int .i64 qL)), C.d (.sl qM qN ET.run qA),
      C.d (.sc (.int .i64 qO)), C.d (.sc (.int .i64 qP)), C.d (.sc (.int .i64 qQ)), C.d (.sl qR qS ET.mat qT),
      C.d (.sc (.bool qU)), C.d (.sc (.int .i64 qV)), C.d (.sc (.bool qW))])), (1, some (Blk.box 29 [C.d (.sc (.str qX)), C.d (.sc (.int .i64 qY)), C.d (.sl qZ rA ET.val rB)]))], 0⟩ := by kernel_rfl
theorem Ui_law15_SubMay_8_e2 {x : V} {K : Int → Tree} {z : Ex × St} (h : (U_law15_SubMay_8_e2 x K).eval = some z) : ∃ (qB : Int), x = V.v false [C.d (.sc (.int .i64 qB))] ∧ (K qB).eval = some z := by
  unfold U_law15_SubMay_8_e2 at h
  split at h
  · exact ⟨_, rfl, h⟩
  · cases h
theorem Ui_law15_SubMay_8_e3 {x : V} {K : Int → Tree} {z : Ex × St} (h : (U_law15_SubMay_8_e3 x K).eval = some z) : ∃ (qC : Int), x = V.v false [C.d (.sc (.int .i64 qC))] ∧ (K qC).eval = some z := by
  unfold U_law15_SubMay_8_e3 at h
  split at h
  · exact ⟨_, rfl, h⟩
  · cases h
theorem Ui_law15_SubMay_8_e4 {x : V} {K : Tree} {z : Ex × St} (h : (U_law15_SubMay_8_e4 x K).eval = some z) : x = V.v false [C.ptr 0 0] ∧ (K).eval = some z := by
  unfold U_law15_SubMay_8_e4 at h
  split at h
  · exact ⟨rfl, h⟩
  · cases h
theorem Ui_law15_SubMay_8_e5 {x : V} {K : Tree} {z : Ex × St} (h : (U_law15_SubMay_8_e5 x K).eval = some z) : x = V.v false [C.ptr 1 0] ∧ (K).eval = some z := by
  unfold U_law15_SubMay_8_e5 at h
  split at h
  · exact ⟨rfl, h⟩
  · cases h
theorem Ui_law15_SubMay_8_e13 {x : V} {K : Int → Tree} {z : Ex × St} (h : (U_law15_SubMay_8_e13 x K).eval = some z) : ∃ (t_13_0 : Int), x = V.v false [C.d (.sc (.int .i64 t_13_0))] ∧ (K t_13_0).eval = some z := by
  unfold U_law15_SubMay_8_e13 at h
  split at h
  · exact ⟨_, rfl, h⟩
  · cases h
theorem Ui_law15_SubMay_8_h0 {x : Option Blk} {K : Int → Int → (Option Bool) → Bool → (List (Ty .step)) → Int → Int → Int → Int → (Option Bool) → Bool → (List (Ty .run)) → Int → Int → Int → (Option Bool) → Bool → (List (Ty .mat)) → Bool → Int → Bool → Tree} {z : Ex × St} (h : (U_law15_SubMay_8_h0 x K).eval = some z) : ∃ (qD : Int) (qE : Int) (qF : Option Bool) (qG : Bool) (qH : List (Ty .step)) (qI : Int) (qJ : Int) (qK : Int) (qL : Int) (qM : Option Bool) (qN : Bool) (qA : List (Ty .run)) (qO : Int) (qP : Int) (qQ : Int) (qR : Option Bool) (qS : Bool) (qT : List (Ty .mat)) (qU : Bool) (qV : Int) (qW : Bool), x = some (Blk.box 89 [C.d (.sc (.int .i64 qD)), C.d (.sc (.int .i64 qE)), C.d (.sl qF qG ET.step qH), C.d (.sc (.int .i64 qI)), C.d (.sc (.int .i64 qJ)), C.d (.sc (.int .i64 qK)), C.d (.sc (.int .i64 qL)), C.d (.sl qM qN ET.run qA), C.d (.sc (.int .i64 qO)), C.d (.sc (.int .i64 qP)), C.d (.sc (.int .i64 qQ)), C.d (.sl qR qS ET.mat qT), C.d (.sc (.bool qU)), C.d (.sc (.int .i64 qV)), C.d (.sc (.bool qW))]) ∧ (K qD qE qF qG qH qI qJ qK qL qM qN qA qO qP qQ qR qS qT qU qV qW).eval = some z := by
  unfold U_law15_SubMay_8_h0 at h
  split at h
  · exact ⟨_, _, _, _, _, _, _, _, _, _, _, _, _, _, _, _, _, _, _, _, _, rfl, h⟩
  · cases h
theorem Ui_law15_SubMay_8_h1 {x : Option Blk} {K : ByteArray → Int → (Option Bool) → Bool → (List (Ty .val)) → Tree} {z : Ex × St} (h : (U_law15_SubMay_8_h1 x K).eval = some z) : ∃ (qX : ByteArray) (qY : Int) (qZ : Option Bool) (rA : Bool) (rB : List (Ty .val)), x = some (Blk.box 29 [C.d (.sc (.str qX)), C.d (.sc (.int .i64 qY)), C.d (.sl qZ rA ET.val rB)]) ∧ (K qX qY qZ rA rB).eval = some z := by
  unfold U_law15_SubMay_8_h1 at h
  split at h
  · exact ⟨_, _, _, _, _, rfl, h⟩
  · cases h
theorem lo1_law15_SubMay_8 (e2 : V) (e3 : V) (e4 : V) (e5 : V) (e13 : V) (h0 : Option Blk) (h1 : Option Blk) e st2 (h : (T1_law15_SubMay_8 e2 e3 e4 e5 e13 h0 h1).eval = some (e, st2)) : Circles Try.prog cx_law15_SubMay b_law15_SubMay_8 ⟨envOf 190 [(2, e2), (3, e3), (4, e4), (5, e5), (13, e13)], heapOf 36 [(0, h0), (1, h1)], 0⟩ e st2 := by
  unfold T1_law15_SubMay_8 at h
  obtain ⟨qB, rfl, h⟩ := Ui_law15_SubMay_8_e2 h
  obtain ⟨qC, rfl, h⟩ := Ui_law15_SubMay_8_e3 h
  obtain ⟨rfl, h⟩ := Ui_law15_SubMay_8_e4 h
  obtain ⟨rfl, h⟩ := Ui_law15_SubMay_8_e5 h
  obtain ⟨t_13_0, rfl, h⟩ := Ui_law15_SubMay_8_e13 h
  obtain ⟨qD, qE, qF, qG, qH, qI, qJ, qK, qL, qM, qN, qA, qO, qP, qQ, qR, qS, qT, qU, qV, qW, rfl, h⟩ := Ui_law15_SubMay_8_h0 h
  obtain ⟨qX, qY, qZ, rA, rB, rfl, h⟩ := Ui_law15_SubMay_8_h1 h
  have := loop_tree (mk := mk_law15_SubMay_8 qB qC qD qE qF qG qH qI qJ qK qL qM qN qA qO qP qQ qR qS qT qU qV qW qX qY qZ rA rB) (ci_law15_SubMay_8 qB qC qD qE qF qG qH qI qJ qK qL qM qN qA qO qP qQ qR qS qT qU qV qW qX qY qZ rA rB) _ _ e st2 h
  rw [mke_law15_SubMay_8] at this
  exact this
theorem lok_law15_SubMay_8 : LoopOk Try.prog cx_law15_SubMay b_law15_SubMay_8 T_law15_SubMay_8 := by
  intro st e st2 h
  unfold T_law15_SubMay_8 at h
  cases hk : okSt 190 36 0 [0, 1] st with
  | false => rw [hk] at h; cases h
  | true =>
    rw [hk] at h
    exact circles_keep (ks := [2, 3, 4, 5, 13]) hk (lo1_law15_SubMay_8 _ _ _ _ _ _ _ e st2 h)
structure S.law15_SubMay_c18_T where
  x0 : Bool
  deriving Inhabited
def S.law15_SubMay_c18_R (qC : Int) (rC : Int) (rD : Int) (qP : Int) (qQ : Int) (rE : Int) (rF : Int) (rG : Int) (rH : Int) (rI : Int) : DT S.law15_SubMay_c18_T :=
let y0 : Bool := xdec (qC ≥ qP)
let y1 : Bool := xeqI rC 0
let y2 : Bool := y1 == xdec (qC ≤ qQ)
let y3 : Bool := y1 == false
(.br (xeqI rE qP)
(.br (xeqI rF qQ)
(.br (xeqI rG qP)
(.br (xdec (rH ≥ qQ))
(.br (xneI rC 0)
(.br (y0)
(.br (y2)
(.leaf ⟨xeqI rC rD⟩)
(.leaf ⟨false⟩))
(.br (y3)
(.leaf ⟨xeqI rC rD⟩)
(.leaf ⟨false⟩)))
(.br (xeqI rI qQ)
(.br (y0)
(.br (y2)
(.leaf ⟨xeqI rC rD⟩)
(.leaf ⟨false⟩))
(.br (y3)
(.leaf ⟨xeqI rC rD⟩)
(.leaf ⟨false⟩)))
(.leaf ⟨false⟩)))
(.leaf ⟨false⟩))
(.leaf ⟨false⟩))
(.leaf ⟨false⟩))
(.leaf ⟨false⟩))
def S.law15_SubMay_c18 (qC : Int) (rC : Int) (rD : Int) (qP : Int) (qQ : Int) (rE : Int) (rF : Int) (rG : Int) (rH : Int) (rI : Int) : Option S.law15_SubMay_c18_T := (S.law15_SubMay_c18_R qC rC rD qP qQ rE rF rG rH rI).run
def S.law15_SubMay_c18_is (qC : Int) (rC : Int) (rD : Int) (qP : Int) (qQ : Int) (rE : Int) (rF : Int) (rG : Int) (rH : Int) (rI : Int) : Bool := (S.law15_SubMay_c18 qC rC rD qP qQ rE rF rG rH rI).isSome
def S.law15_SubMay_c18_o (qC : Int) (rC : Int) (rD : Int) (qP : Int) (qQ : Int) (rE : Int) (rF : Int) (rG : Int) (rH : Int) (rI : Int) : S.law15_SubMay_c18_T := (S.law15_SubMay_c18 qC rC rD qP qQ rE rF rG rH rI).getD default
def mk_law15_SubMay_c18 (qC : Int) (rC : Int) (rD : Int) (qD : Int) (qE : Int) (qF : Option Bool) (qG : Bool) (qH : List (Ty .step)) (qI : Int) (qJ : Int) (qK : Int) (qL : Int) (qM : Option Bool) (qN : Bool) (qA : List (Ty .run)) (qO : Int) (qP : Int) (qQ : Int) (qR : Option Bool) (qS : Bool) (qT : List (Ty .mat)) (qU : Bool) (qV : Int) (qW : Bool) (qX : ByteArray) (qY : Int) (qZ : Option Bool) (rA : Bool) (rB : List (Ty .val)) (rJ : Int) (rK : Int) (rL : List (Ty .step)) (rM : Int) (rN : Int) (rO : Int) (rP : Int) (rQ : List (Ty .run)) (rR : Int) (rE : Int) (rF : Int) (rS : List (Ty .mat)) (rT : Bool) (rU : Int) (rV : Bool) (rW : Int) (rX : Int) (rY : List (Ty .step)) (rZ : Int) (wA : Int) (wB : Int) (wC : Int) (wD : List (Ty .run)) (wE : Int) (rG : Int) (rH : Int) (wF : List (Ty .mat)) (wG : Bool) (wH : Int) (wI : Bool) (wJ : Int) (wK : Int) (wL : Int) (wM : Int) (wN : Int) (wO : Int) (wP : Bool) (wQ : Int) (wR : Int) (wS : List (Ty .step)) (wT : Int) (wU : Int) (wV : Int) (wW : Int) (wX : List (Ty .run)) (wY : Int) (wZ : Int) (rI : Int) (zA : List (Ty .mat)) (zB : Bool) (zC : Int) (zD : Bool) (zE : Int) (zF : Int) (zG : List (Ty .step)) (zH : Int) (zI : Int) (zJ : Int) (zK : Int) (zL : List (Ty .run)) (zM : Int) (zN : Int) (zO : Int) (zP : List (Ty .mat)) (zQ : Bool) (zR : Int) (zS : Bool) : St := ⟨[V.any, V.any, V.any, V.v false [C.d (.sc (.int .i64 qC))], V.v false [C.ptr 0 0], V.any, V.any, V.any, V.any, V.any, V.any, V.any, V.any, V.any,
  V.v false [C.ptr 46 0], V.v false [C.ptr 54 0], V.any, V.any, V.v false [C.ptr 65 0], V.v false [C.d (.sc (.int .i64 rC))], V.any,
  V.v false [C.d (.sc (.int .i64 rD))], V.any, V.any, V.any, V.any, V.any, V.any, V.any, V.any, V.any, V.any, V.any, V.any, V.any, V.any, V.any, V.any, V.any, V.any,
  V.any, V.any, V.any, V.any, V.any, V.any, V.any, V.any, V.any, V.any, V.any, V.any, V.any, V.any, V.any, V.any, V.any, V.any, V.any, V.any, V.any, V.any, V.any, V.any, V.any,
  V.any, V.any, V.any, V.any, V.any, V.any, V.any, V.any, V.any, V.any, V.any, V.any, V.any, V.any, V.any, V.any, V.any, V.any, V.any, V.any, V.any, V.any, V.any, V.any, V.any,
  V.any, V.any, V.any, V.any, V.any, V.any, V.any, V.any, V.any, V.any, V.any, V.any, V.any, V.any, V.any, V.any, V.any, V.any, V.any, V.any, V.any, V.any, V.any, V.any, V.any,
  V.any, V.any, V.any, V.any, V.any, V.any, V.any, V.any, V.any, V.any, V.any, V.any, V.any, V.any, V.any, V.any, V.any, V.any, V.any, V.any, V.any, V.any, V.any, V.any, V.any,
  V.any, V.any, V.any, V.any, V.any, V.any, V.any, V.any, V.any, V.any, V.any, V.any, V.any, V.any, V.any, V.any, V.any, V.any, V.any, V.any, V.any, V.any, V.any, V.any, V.any,
  V.any, V.any, V.any, V.any, V.any, V.any, V.any, V.any, V.any, V.any, V.any, V.any, V.any, V.any, V.any, V.any, V.any, V.any, V.any, V.any, V.any, V.any, V.any, V.any, V.any], [some
    (Blk.box 89
      [C.d (.sc (.int .i64 qD)), C.d (.sc (.int .i64 qE)), C.d (.sl qF qG ET.step qH), C.d (.sc (.int .i64 qI)),
        C.d (.sc (.int .i64 qJ)), C.d (.sc (.int .i64 qK)), C.d (.sc (.int .i64 qL)), C.d (.sl qM qN ET.run qA),
        C.d (.sc (.int .i64 qO)), C.d (.sc (.int .i64 qP)), C.d (.sc (.int .i64 qQ)), C.d (.sl qR qS ET.mat qT),
        C.d (.sc (.bool qU)), C.d (.sc (.int .i64 qV)), C.d (.sc (.bool qW))]),
  some (Blk.box 29 [C.d (.sc (.str qX)), C.d (.sc (.int .i64 qY)), C.d (.sl qZ rA ET.val rB)]), none, none, none, none, none, none, none, none, none,
  none, none, none, none, none, none, none, none, none, none, none, none, none, none, none, none, none, none, none, none, none, none, none, none, none, none, none, none, none,
  none, none, none, none, none, none,
  some
    (Blk.box 89
      [C.d (.sc (.int .i64 rJ)), C.d (.sc (.int .i64 rK)), C.d (.sl none false ET.step rL), C.d (.sc (.int .i64 rM)),
        C.d (.sc (.int .i64 rN)), C.d (.sc (.int .i64 rO)), C.d (.sc (.int .i64 rP)), C.d (.sl none false ET.run rQ),
        C.d (.sc (.int .i64 rR)), C.d (.sc (.int .i64 rE)), C.d (.sc (.int .i64 rF)), C.d (.sl none false ET.mat rS),
        C.d (.sc (.bool rT)), C.d (.sc (.int .i64 rU)), C.d (.sc (.bool rV))]),
  none, none, none, none, none, none, none,
  some
    (Blk.box 89
      [C.d (.sc (.int .i64 rW)), C.d (.sc (.int .i64 rX)), C.d (.sl none false ET.step rY), C.d (.sc (.int .i64 rZ)),
        C.d (.sc (.int .i64 wA)), C.d (.sc (.int .i64 wB)), C.d (.sc (.int .i64 wC)), C.d (.sl none false ET.run wD),
        C.d (.sc (.int .i64 wE)), C.d (.sc (.int .i64 rG)), C.d (.sc (.int .i64 rH)), C.d (.sl none false ET.mat wF),
        C.d (.sc (.bool wG)), C.d (.sc (.int .i64 wH)), C.d (.sc (.bool wI))]),
  some
    (Blk.box 95
      [C.d (.sc (.int .i64 wJ)), C.d (.sc (.int .i64 wK)), C.d (.sc (.int .i64 wL)), C.d (.sc (.int .i64 wM)),
        C.d (.sc (.int .i64 wN)), C.d (.sc (.int .i64 wO)), C.d (.sc (.bool wP))]),
  none, none, none, none, none, none, none, none, none,
  some
    (Blk.box 89
      [C.d (.sc (.int .i64 wQ)), C.d (.sc (.int .i64 wR)), C.d (.sl none false ET.step wS), C.d (.sc (.int .i64 wT)),
        C.d (.sc (.int .i64 wU)), C.d (.sc (.int .i64 wV)), C.d (.sc (.int .i64 wW)), C.d (.sl none false ET.run wX),
        C.d (.sc (.int .i64 wY)), C.d (.sc (.int .i64 wZ)), C.d (.sc (.int .i64 rI)), C.d (.sl none false ET.mat zA),
        C.d (.sc (.bool zB)), C.d (.sc (.int .i64 zC)), C.d (.sc (.bool zD))]),
  none, none, none, none, none, none, none, none,
  some
    (Blk.box 89
      [C.d (.sc (.int .i64 zE)), C.d (.sc (.int .i64 zF)), C.d (.sl none false ET.step zG), C.d (.sc (.int .i64 zH)),
        C.d (.sc (.int .i64 zI)), C.d (.sc (.int .i64 zJ)), C.d (.sc (.int .i64 zK)), C.d (.sl none false ET.run zL),
        C.d (.sc (.int .i64 zM)), C.d (.sc (.int .i64 zN)), C.d (.sc (.int .i64 zO)), C.d (.sl none false ET.mat zP),
        C.d (.sc (.bool zQ)), C.d (.sc (.int .i64 zR)), C.d (.sc (.bool zS))]),
  none, none, none, none, none, none, none, none, none, none, none, none, none, none, none, none, none, none, none, none, none, none, none, none, none, none, none, none, none,
  none, none, none, none, none], 0⟩
def out_law15_SubMay_c18 (r : S.law15_SubMay_c18_T) : St := ⟨[V.any, V.any, V.any, V.any, V.any, V.any, V.any, V.any, V.v false [C.d (.sc (.bool r.x0))], V.any, V.any, V.any, V.any, V.any, V.any, V.any, V.any, V.any, V.any, V.any, V.any,
  V.any, V.any, V.any, V.any, V.any, V.any, V.any, V.any, V.any, V.any, V.any, V.any, V.any, V.any, V.any, V.any, V.any, V.any, V.any, V.any, V.any, V.any, V.any, V.any, V.any,
  V.any, V.any, V.any, V.any, V.any, V.any, V.any, V.any, V.any, V.any, V.any, V.any, V.any, V.any, V.any, V.any, V.any, V.any, V.any, V.any, V.any, V.any, V.any, V.any, V.any,
  V.any, V.any, V.any, V.any, V.any, V.any, V.any, V.any, V.any, V.any, V.any, V.any, V.any, V.any, V.any, V.any, V.any, V.any, V.any, V.any, V.any, V.any, V.any, V.any, V.any,
  V.any, V.any, V.any, V.any, V.any, V.any, V.any, V.any, V.any, V.any, V.any, V.any, V.any, V.any, V.any, V.any, V.any, V.any, V.any, V.any, V.any, V.any, V.any, V.any, V.any,
  V.any, V.any, V.any, V.any, V.any, V.any, V.any, V.any, V.any, V.any, V.any, V.any, V.any, V.any, V.any, V.any, V.any, V.any, V.any, V.any, V.any, V.any, V.any, V.any, V.any,
  V.any, V.any, V.any, V.any, V.any, V.any, V.any, V.any, V.any, V.any, V.any, V.any, V.any, V.any, V.any, V.any, V.any, V.any, V.any, V.any, V.any, V.any, V.any, V.any, V.any,
  V.any, V.any, V.any, V.any, V.any, V.any, V.any, V.any, V.any, V.any, V.any, V.any, V.any, V.any, V.any, V.any, V.any, V.any, V.any], [], 0⟩
def U_law15_SubMay_c18_e3 (x : V) (K : Int → Tree) : Tree := match x with
  | V.v false [C.d (.sc (.int .i64 qC))] => K qC
  | _ => .bad
def U_law15_SubMay_c18_e4 (x : V) (K : Tree) : Tree := match x with
  | V.v false [C.ptr 0 0] => K
  | _ => .bad
def U_law15_SubMay_c18_e14 (x : V) (K : Tree) : Tree := match x with
  | V.v false [C.ptr 46 0] => K
  | _ => .bad
def U_law15_SubMay_c18_e15 (x : V) (K : Tree) : Tree := match x with
  | V.v false [C.ptr 54 0] => K
  | _ => .bad
def U_law15_SubMay_c18_e18 (x : V) (K : Tree) : Tree := match x with
  | V.v false [C.ptr 65 0] => K
  | _ => .bad
def U_law15_SubMay_c18_e19 (x : V) (K : Int → Tree) : Tree := match x with
  | V.v false [C.d (.sc (.int .i64 rC))] => K rC
  | _ => .bad
def U_law15_SubMay_c18_e21 (x : V) (K : Int → Tree) : Tree := match x with
  | V.v false [C.d (.sc (.int .i64 rD))] => K rD
  | _ => .bad
def U_law15_SubMay_c18_h0 (x : Option Blk) (K : Int → Int → (Option Bool) → Bool → (List (Ty .step)) → Int → Int → Int → Int → (Option Bool) → Bool → (List (Ty .run)) → Int → Int → Int → (Option Bool) → Bool → (List (Ty .mat)) → Bool → Int → Bool → Tree) : Tree := match x with
  | some (Blk.box 89 [C.d (.sc (.int .i64 qD)), C.d (.sc (.int .i64 qE)), C.d (.sl qF qG ET.step qH), C.d (.sc (.int .i64 qI)), C.d (.sc (.int .i64 qJ)), C.d (.sc (.int .i64 qK)), C.d (.sc (.int .i64 qL)), C.d (.sl qM qN ET.run qA), C.d (.sc (.int .i64 qO)), C.d (.sc (.int .i64 qP)), C.d (.sc (.int .i64 qQ)), C.d (.sl qR qS ET.mat qT), C.d (.sc (.bool qU)), C.d (.sc (.int .i64 qV)), C.d (.sc (.bool qW))]) => K qD qE qF qG qH qI qJ qK qL qM qN qA qO qP qQ qR qS qT qU qV qW
  | _ => .bad
def U_law15_SubMay_c18_h1 (x : Option Blk) (K : ByteArray → Int → (Option Bool) → Bool → (List (Ty .val)) → Tree) : Tree := match x with
  | some (Blk.box 29 [C.d (.sc (.str qX)), C.d (.sc (.int .i64 qY)), C.d (.sl qZ rA ET.val rB)]) => K qX qY qZ rA rB
  | _ => .bad
def U_law15_SubMay_c18_h46 (x : Option Blk) (K : Int → Int → (List (Ty .step)) → Int → Int → Int → Int → (List (Ty .run)) → Int → Int → Int → (List (Ty .mat)) → Bool → Int → Bool → Tree) : Tree := match x with
  | some (Blk.box 89 [C.d (.sc (.int .i64 rJ)), C.d (.sc (.int .i64 rK)), C.d (.sl none false ET.step rL), C.d (.sc (.int .i64 rM)), C.d (.sc (.int .i64 rN)), C.d (.sc (.int .i64 rO)), C.d (.sc (.int .i64 rP)), C.d (.sl none false ET.run rQ), C.d (.sc (.int .i64 rR)), C.d (.sc (.int .i64 rE)), C.d (.sc (.int .i64 rF)), C.d (.sl none false ET.mat rS), C.d (.sc (.bool rT)), C.d (.sc (.int .i64 rU)), C.d (.sc (.bool rV))]) => K rJ rK rL rM rN rO rP rQ rR rE rF rS rT rU rV
  | _ => .bad
def U_law15_SubMay_c18_h54 (x : Option Blk) (K : Int → Int → (List (Ty .step)) → Int → Int → Int → Int → (List (Ty .run)) → Int → Int → Int → (List (Ty .mat)) → Bool → Int → Bool → Tree) : Tree := match x with
  | some (Blk.box 89 [C.d (.sc (.int .i64 rW)), C.d (.sc (.int .i64 rX)), C.d (.sl none false ET.step rY), C.d (.sc (.int .i64 rZ)), C.d (.sc (.int .i64 wA)), C.d (.sc (.int .i64 wB)), C.d (.sc (.int .i64 wC)), C.d (.sl none false ET.run wD), C.d (.sc (.int .i64 wE)), C.d (.sc (.int .i64 rG)), C.d (.sc (.int .i64 rH)), C.d (.sl none false ET.mat wF), C.d (.sc (.bool wG)), C.d (.sc (.int .i64 wH)), C.d (.sc (.bool wI))]) => K rW rX rY rZ wA wB wC wD wE rG rH wF wG wH wI
  | _ => .bad
def U_law15_SubMay_c18_h55 (x : Option Blk) (K : Int → Int → Int → Int → Int → Int → Bool → Tree) : Tree := match x with
  | some (Blk.box 95 [C.d (.sc (.int .i64 wJ)), C.d (.sc (.int .i64 wK)), C.d (.sc (.int .i64 wL)), C.d (.sc (.int .i64 wM)), C.d (.sc (.int .i64 wN)), C.d (.sc (.int .i64 wO)), C.d (.sc (.bool wP))]) => K wJ wK wL wM wN wO wP
  | _ => .bad
def U_law15_SubMay_c18_h65 (x : Option Blk) (K : Int → Int → (List (Ty .step)) → Int → Int → Int → Int → (List (Ty .run)) → Int → Int → Int → (List (Ty .mat)) → Bool → Int → Bool → Tree) : Tree := match x with
  | some (Blk.box 89 [C.d (.sc (.int .i64 wQ)), C.d (.sc (.int .i64 wR)), C.d (.sl none false ET.step wS), C.d (.sc (.int .i64 wT)), C.d (.sc (.int .i64 wU)), C.d (.sc (.int .i64 wV)), C.d (.sc (.int .i64 wW)), C.d (.sl none false ET.run wX), C.d (.sc (.int .i64 wY)), C.d (.sc (.int .i64 wZ)), C.d (.sc (.int .i64 rI)), C.d (.sl none false ET.mat zA), C.d (.sc (.bool zB)), C.d (.sc (.int .i64 zC)), C.d (.sc (.bool zD))]) => K wQ wR wS wT wU wV wW wX wY wZ rI zA zB zC zD
  | _ => .bad
def U_law15_SubMay_c18_h74 (x : Option Blk) (K : Int → Int → (List (Ty .step)) → Int → Int → Int → Int → (List (Ty .run)) → Int → Int → Int → (List (Ty .mat)) → Bool → Int → Bool → Tree) : Tree := match x with
  | some (Blk.box 89 [C.d (.sc (.int .i64 zE)), C.d (.sc (.int .i64 zF)), C.d (.sl none false ET.step zG), C.d (.sc (.int .i64 zH)), C.d (.sc (.int .i64 zI)), C.d (.sc (.int .i64 zJ)), C.d (.sc (.int .i64 zK)), C.d (.sl none false ET.run zL), C.d (.sc (.int .i64 zM)), C.d (.sc (.int .i64 zN)), C.d (.sc (.int .i64 zO)), C.d (.sl none false ET.mat zP), C.d (.sc (.bool zQ)), C.d (.sc (.int .i64 zR)), C.d (.sc (.bool zS))]) => K zE zF zG zH zI zJ zK zL zM zN zO zP zQ zR zS
  | _ => .bad
def T1_law15_SubMay_c18 (e3 : V) (e4 : V) (e14 : V) (e15 : V) (e18 : V) (e19 : V) (e21 : V) (h0 : Option Blk) (h1 : Option Blk) (h46 : Option Blk) (h54 : Option Blk) (h55 : Option Blk) (h65 : Option Blk) (h74 : Option Blk) : Tree := U_law15_SubMay_c18_e3 e3 (fun qC => U_law15_SubMay_c18_e4 e4 (U_law15_SubMay_c18_e14 e14 (U_law15_SubMay_c18_e15 e15 (U_law15_SubMay_c18_e18 e18 (U_law15_SubMay_c18_e19 e19 (fun rC => U_law15_SubMay_c18_e21 e21 (fun rD => U_law15_SubMay_c18_h0 h0 (fun qD qE qF qG qH qI qJ qK qL qM qN qA qO qP qQ qR qS qT qU qV qW => U_law15_SubMay_c18_h1 h1 (fun qX qY qZ rA rB => U_law15_SubMay_c18_h46 h46 (fun rJ rK rL rM rN rO rP rQ rR rE rF rS rT rU rV => U_law15_SubMay_c18_h54 h54 (fun rW rX rY rZ wA wB wC wD wE rG rH wF wG wH wI => U_law15_SubMay_c18_h55 h55 (fun wJ wK wL wM wN wO wP => U_law15_SubMay_c18_h65 h65 (fun wQ wR wS wT wU wV wW wX wY wZ rI zA zB zC zD => U_law15_SubMay_c18_h74 h74 (fun zE zF zG zH zI zJ zK zL zM zN zO zP zQ zR zS => .br (S.law15_SubMay_c18_is qC rC rD qP qQ rE rF rG rH rI) (.leaf Ex.ret (out_law15_SubMay_c18 (S.law15_SubMay_c18_o qC rC rD qP qQ rE rF rG rH rI))) .bad))))))))))))))
def T_law15_SubMay_c18 (st : St) : Tree := bif okSt 190 109 0 [0, 1, 46, 54, 55, 65, 74] st then T1_law15_SubMay_c18 (st.env.getD 3 .any) (st.env.getD 4 .any) (st.env.getD 14 .any) (st.env.getD 15 .any) (st.env.getD 18 .any) (st.env.getD 19 .any) (st.env.getD 21 .any) (lk st.heap 0) (lk st.heap 1) (lk st.heap 46) (lk st.heap 54) (lk st.heap 55) (lk st.heap 65) (lk st.heap 74) else .bad
def b_law15_SubMay_c18 : Code := tailOf 18 (bodyOf Try.f31)
theorem rnd_law15_SubMay_c18 (qC : Int) (rC : Int) (rD : Int) (qD : Int) (qE : Int) (qF : Option Bool) (qG : Bool) (qH : List (Ty .step)) (qI : Int) (qJ : Int) (qK : Int) (qL : Int) (qM : Option Bool) (qN : Bool) (qA : List (Ty .run)) (qO : Int) (qP : Int) (qQ : Int) (qR : Option Bool) (qS : Bool) (qT : List (Ty .mat)) (qU : Bool) (qV : Int) (qW : Bool) (qX : ByteArray) (qY : Int) (qZ : Option Bool) (rA : Bool) (rB : List (Ty .val)) (rJ : Int) (rK : Int) (rL : List (Ty .step)) (rM : Int) (rN : Int) (rO : Int) (rP : Int) (rQ : List (Ty .run)) (rR : Int) (rE : Int) (rF : Int) (rS : List (Ty .mat)) (rT : Bool) (rU : Int) (rV : Bool) (rW : Int) (rX : Int) (rY : List (Ty .step)) (rZ : Int) (wA : Int) (wB : Int) (wC : Int) (wD : List (Ty .run)) (wE : Int) (rG : Int) (rH : Int) (wF : List (Ty .mat)) (wG : Bool) (wH : Int) (wI : Bool) (wJ : Int) (wK : Int) (wL : Int) (wM : Int) (wN : Int) (wO : Int) (wP : Bool) (wQ : Int) (wR : Int) (wS : List (Ty .step)) (wT : Int) (wU : Int) (wV : Int) (wW : Int) (wX : List (Ty .run)) (wY : Int) (wZ : Int) (rI : Int) (zA : List (Ty .mat)) (zB : Bool) (zC : Int) (zD : Bool) (zE : Int) (zF : Int) (zG : List (Ty .step)) (zH : Int) (zI : Int) (zJ : Int) (zK : Int) (zL : List (Ty .run)) (zM : Int) (zN : Int) (zO : Int) (zP : List (Ty .mat)) (zQ : Bool) (zR : Int) (zS : Bool) : tail2 cx_law15_SubMay (hdI cx_law15_SubMay (find [(8, T_law15_SubMay_8)]) [] none 0) (find [(8, T_law15_SubMay_8)]) 31 ⟨999999, [], 0⟩ b_law15_SubMay_c18 [8] (mk_law15_SubMay_c18 qC rC rD qD qE qF qG qH qI qJ qK qL qM qN qA qO qP qQ qR qS qT qU qV qW qX qY qZ rA rB rJ rK rL rM rN rO rP rQ rR rE rF rS rT rU rV rW rX rY rZ wA wB wC wD wE rG rH wF wG wH wI wJ wK wL wM wN wO wP wQ wR wS wT wU wV wW wX wY wZ rI zA zB zC zD zE zF zG zH zI zJ zK zL zM zN zO zP zQ zR zS) = (S.law15_SubMay_c18_R qC rC rD qP qQ rE rF rG rH rI).go (fun r => (Ex.ret, out_law15_SubMay_c18 r)) := by kernel_rfl
theorem bs_law15_SubMay_c18 : loopsOf b_law15_SubMay_c18 ++ loopsInl [] = [] := by kernel_rfl
theorem ci_law15_SubMay_c18 (qC : Int) (rC : Int) (rD : Int) (qD : Int) (qE : Int) (qF : Option Bool) (qG : Bool) (qH : List (Ty .step)) (qI : Int) (qJ : Int) (qK : Int) (qL : Int) (qM : Option Bool) (qN : Bool) (qA : List (Ty .run)) (qO : Int) (qP : Int) (qQ : Int) (qR : Option Bool) (qS : Bool) (qT : List (Ty .mat)) (qU : Bool) (qV : Int) (qW : Bool) (qX : ByteArray) (qY : Int) (qZ : Option Bool) (rA : Bool) (rB : List (Ty .val)) (rJ : Int) (rK : Int) (rL : List (Ty .step)) (rM : Int) (rN : Int) (rO : Int) (rP : Int) (rQ : List (Ty .run)) (rR : Int) (rE : Int) (rF : Int) (rS : List (Ty .mat)) (rT : Bool) (rU : Int) (rV : Bool) (rW : Int) (rX : Int) (rY : List (Ty .step)) (rZ : Int) (wA : Int) (wB : Int) (wC : Int) (wD : List (Ty .run)) (wE : Int) (rG : Int) (rH : Int) (wF : List (Ty .mat)) (wG : Bool) (wH : Int) (wI : Bool) (wJ : Int) (wK : Int) (wL : Int) (wM : Int) (wN : Int) (wO : Int) (wP : Bool) (wQ : Int) (wR : Int) (wS : List (Ty .step)) (wT : Int) (wU : Int) (wV : Int) (wW : Int) (wX : List (Ty .run)) (wY : Int) (wZ : Int) (rI : Int) (zA : List (Ty .mat)) (zB : Bool) (zC : Int) (zD : Bool) (zE : Int) (zF : Int) (zG : List (Ty .step)) (zH : Int) (zI : Int) (zJ : Int) (zK : Int) (zL : List (Ty .run)) (zM : Int) (zN : Int) (zO : Int) (zP : List (Ty .mat)) (zQ : Bool) (zR : Int) (zS : Bool) : ∀ x, S.law15_SubMay_c18 qC rC rD qP qQ rE rF rG rH rI = some x → Lands Try.prog cx_law15_SubMay false b_law15_SubMay_c18 (mk_law15_SubMay_c18 qC rC rD qD qE qF qG qH qI qJ qK qL qM qN qA qO qP qQ qR qS qT qU qV qW qX qY qZ rA rB rJ rK rL rM rN rO rP rQ rR rE rF rS rT rU rV rW rX rY rZ wA wB wC wD wE rG rH wF wG wH wI wJ wK wL wM wN wO wP wQ wR wS wT wU wV wW wX wY wZ rI zA zB zC zD zE zF zG zH zI zJ zK zL zM zN zO zP zQ zR zS) Ex.ret (out_law15_SubMay_c18 x) :=
  cut_ok (q := ⟨999999, [], 0⟩) (L := find [(8, T_law15_SubMay_8)]) (n := 0) (hints := [(31, 8, { keep := [2, 3, 4, 5, 13], acc := [] })]) (cx_ok rfl) rdy_law15_SubMay prs_law15_SubMay bs_law15_SubMay_c18 nilB (fun T h => by have e : (none : Option (St → Tree)) = some T := h; cases e) (rnd_law15_SubMay_c18 qC rC rD qD qE qF qG qH qI qJ qK qL qM qN qA qO qP qQ qR qS qT qU qV qW qX qY qZ rA rB rJ rK rL rM rN rO rP rQ rR rE rF rS rT rU rV rW rX rY rZ wA wB wC wD wE rG rH wF wG wH wI wJ wK wL wM wN wO wP wQ wR wS wT wU wV wW wX wY wZ rI zA zB zC zD zE zF zG zH zI zJ zK zL zM zN zO zP zQ zR zS)
theorem mke_law15_SubMay_c18 (qC : Int) (rC : Int) (rD : Int) (qD : Int) (qE : Int) (qF : Option Bool) (qG : Bool) (qH : List (Ty .step)) (qI : Int) (qJ : Int) (qK : Int) (qL : Int) (qM : Option Bool) (qN : Bool) (qA : List (Ty .run)) (qO : Int) (qP : Int) (qQ : Int) (qR : Option Bool) (qS : Bool) (qT : List (Ty .mat)) (qU : Bool) (qV : Int) (qW : Bool) (qX : ByteArray) (qY : Int) (qZ : Option Bool) (rA : Bool) (rB : List (Ty .val)) (rJ : Int) (rK : Int) (rL : List (Ty .step)) (rM : Int) (rN : Int) (rO : Int) (rP : Int) (rQ : List (Ty .run)) (rR : Int) (rE : Int) (rF : Int) (rS : List (Ty .mat)) (rT : Bool) (rU : Int) (rV : Bool) (rW : Int) (rX : Int) (rY : List (Ty .step)) (rZ : Int) (wA : Int) (wB : Int) (wC : Int) (wD : List (Ty .run)) (wE : Int) (rG : Int) (rH : Int) (wF : List (Ty .mat)) (wG : Bool) (wH : Int) (wI : Bool) (wJ : Int) (wK : Int) (wL : Int) (wM : Int) (wN : Int) (wO : Int) (wP : Bool) (wQ : Int) (wR : Int) (wS : List (Ty .step)) (wT : Int) (wU : Int) (wV : Int) (wW : Int) (wX : List (Ty .run)) (wY : Int) (wZ : Int) (rI : Int) (zA : List (Ty .mat)) (zB : Bool) (zC : Int) (zD : Bool) (zE : Int) (zF : Int) (zG : List (Ty .step)) (zH : Int) (zI : Int) (zJ : Int) (zK : Int) (zL : List (Ty .run)) (zM : Int) (zN : Int) (zO : Int) (zP : List (Ty .mat)) (zQ : Bool) (zR : Int) (zS : Bool) : mk_law15_SubMay_c18 qC rC rD qD qE qF qG qH qI qJ qK qL qM qN qA qO qP qQ qR qS qT qU qV qW qX qY qZ rA rB rJ rK rL rM rN rO rP rQ rR rE rF rS rT rU rV rW rX rY rZ wA wB wC wD wE rG rH wF wG wH wI wJ wK wL wM wN wO wP wQ wR wS wT wU wV wW wX wY wZ rI zA zB zC zD zE zF zG zH zI zJ zK zL zM zN zO zP zQ zR zS = ⟨envOf 190 [(3, V.v false [C.d (.sc (.int .i64 qC))]), (4, V.v false [C.ptr 0 0]), (14, V.v false [C.ptr 46 0]), (15, V.v false [C.ptr 54 0]), (18, V.v false [C.ptr 65 0]), (19, V.v false [C.d (.sc (.int .i64 rC))]), (21, V.v false [C.d (.sc (.int .i64 rD))])], heapOf 109 [(0, some
  (Blk.box 89
    [C.d (.sc (.int .i64 qD)), C.d (.sc (.int .i64 qE)), C.d (.sl qF qG ET.step qH), C.d (.sc (.int .i64 qI)),
      C.d (.sc (.int .i64 qJ)), C.d (.sc (.int .i64 qK)), C.d (.sc (.int .i64 qL)), C.d (.sl qM qN ET.run qA),
      C.d (.sc (.int .i64 qO)), C.d (.sc (.int .i64 qP)), C.d (.sc (.int .i64 qQ)), C.d (.sl qR qS ET.mat qT),
      C.d (.sc (.bool qU)), C.d (.sc (.int .i64 qV)), C.d (.sc (.bool qW))])), (1, some (Blk.box 29 [C.d (.sc (.str qX)), C.d (.sc (.int .i64 qY)), C.d (.sl qZ rA ET.val rB)])), (46, some
  (Blk.box 89
    [C.d (.sc (.int .i64 rJ)), C.d (.sc (.int .i64 rK)), C.d (.sl none false ET.step rL), C.d (.sc (.int .i64 rM)),
      C.d (.sc (.int .i64 rN)), C.d (.sc (.int .i64 rO)), C.d (.sc (.int .i64 rP)), C.d (.sl none false ET.run rQ),
      C.d (.sc (.int .i64 rR)), C.d (.sc (.int .i64 rE)), C.d (.sc (.int .i64 rF)), C.d (.sl none false ET.mat rS),
      C.d (.sc (.bool rT)), C.d (.sc (.int .i64 rU)), C.d (.sc (.bool rV))])), (54, some
  (Blk.box 89
    [C.d (.sc (.int .i64 rW)), C.d (.sc (.int .i64 rX)), C.d (.sl none false ET.step rY), C.d (.sc (.int .i64 rZ)),
      C.d (.sc (.int .i64 wA)), C.d (.sc (.int .i64 wB)), C.d (.sc (.int .i64 wC)), C.d (.sl none false ET.run wD),
      C.d (.sc (.int .i64 wE)), C.d (.sc (.int .i64 rG)), C.d (.sc (.int .i64 rH)), C.d (.sl none false ET.mat wF),
      C.d (.sc (.bool wG)), C.d (.sc (.int .i64 wH)), C.d (.sc (.bool wI))])), (55, some
  (Blk.box 95
    [C.d (.sc (.int .i64 wJ)), C.d (.sc (.int .i64 wK)), C.d (.sc (.int .i64 wL)), C.d (.sc (.int .i64 wM)),
      C.d (.sc (.int .i64 wN)), C.d (.sc (.int .i64 wO)), C.d (.sc (.bool wP))])), (65, some
  (Blk.box 89
    [C.d (.sc (.int .i64 wQ)), C.d (.sc (.int .i64 wR)), C.d (.sl none false ET.step wS), C.d (.sc (.int .i64 wT)),
      C.d (.sc (.int .i64 wU)), C.d (.sc (.int .i64 wV)), C.d (.sc (.int .i64 wW)), C.d (.sl none false ET.run wX),
      C.d (.sc (.int .i64 wY)), C.d (.sc (.int .i64 wZ)), C.d (.sc (.int .i64 rI)), C.d (.sl none false ET.mat zA),
      C.d (.sc (.bool zB)), C.d (.sc (.int .i64 zC)), C.d (.sc (.bool zD))])), (74, some
  (Blk.box 89
    [C.d (.sc (.int .i64 zE)), C.d (.sc (.int .i64 zF)), C.d (.sl none false ET.step zG), C.d (.sc (.int .i64 zH)),
      C.d (.sc (.int .i64 zI)), C.d (.sc (.int .i64 zJ)), C.d (.sc (.int .i64 zK)), C.d (.sl none false ET.run zL),
      C.d (.sc (.int .i64 zM)), C.d (.sc (.int .i64 zN)), C.d (.sc (.int .i64 zO)), C.d (.sl none false ET.mat zP),
      C.d (.sc (.bool zQ)), C.d (.sc (.int .i64 zR)), C.d (.sc (.bool zS))]))], 0⟩ := by kernel_rfl
theorem Ui_law15_SubMay_c18_e3 {x : V} {K : Int → Tree} {z : Ex × St} (h : (U_law15_SubMay_c18_e3 x K).eval = some z) : ∃ (qC : Int), x = V.v false [C.d (.sc (.int .i64 qC))] ∧ (K qC).eval = some z := by
  unfold U_law15_SubMay_c18_e3 at h
  split at h
  · exact ⟨_, rfl, h⟩
  · cases h
theorem Ui_law15_SubMay_c18_e4 {x : V} {K : Tree} {z : Ex × St} (h : (U_law15_SubMay_c18_e4 x K).eval = some z) : x = V.v false [C.ptr 0 0] ∧ (K).eval = some z := by
  unfold U_law15_SubMay_c18_e4 at h
  split at h
  · exact ⟨rfl, h⟩
  · cases h
theorem Ui_law15_SubMay_c18_e14 {x : V} {K : Tree} {z : Ex × St} (h : (U_law15_SubMay_c18_e14 x K).eval = some z) : x = V.v false [C.ptr 46 0] ∧ (K).eval = some z := by
  unfold U_law15_SubMay_c18_e14 at h
  split at h
  · exact ⟨rfl, h⟩
  · cases h
theorem Ui_law15_SubMay_c18_e15 {x : V} {K : Tree} {z : Ex × St} (h : (U_law15_SubMay_c18_e15 x K).eval = some z) : x = V.v false [C.ptr 54 0] ∧ (K).eval = some z := by
  unfold U_law15_SubMay_c18_e15 at h
  split at h
  · exact ⟨rfl, h⟩
  · cases h
theorem Ui_law15_SubMay_c18_e18 {x : V} {K : Tree} {z : Ex × St} (h : (U_law15_SubMay_c18_e18 x K).eval = some z) : x = V.v false [C.ptr 65 0] ∧ (K).eval = some z := by
  unfold U_law15_SubMay_c18_e18 at h
  split at h
  · exact ⟨rfl, h⟩
  · cases h
theorem Ui_law15_SubMay_c18_e19 {x : V} {K : Int → Tree} {z : Ex × St} (h : (U_law15_SubMay_c18_e19 x K).eval = some z) : ∃ (rC : Int), x = V.v false [C.d (.sc (.int .i64 rC))] ∧ (K rC).eval = some z := by
  unfold U_law15_SubMay_c18_e19 at h
  split at h
  · exact ⟨_, rfl, h⟩
  · cases h
theorem Ui_law15_SubMay_c18_e21 {x : V} {K : Int → Tree} {z : Ex × St} (h : (U_law15_SubMay_c18_e21 x K).eval = some z) : ∃ (rD : Int), x = V.v false [C.d (.sc (.int .i64 rD))] ∧ (K rD).eval = some z := by
  unfold U_law15_SubMay_c18_e21 at h
  split at h
  · exact ⟨_, rfl, h⟩
  · cases h
theorem Ui_law15_SubMay_c18_h0 {x : Option Blk} {K : Int → Int → (Option Bool) → Bool → (List (Ty .step)) → Int → Int → Int → Int → (Option Bool) → Bool → (List (Ty .run)) → Int → Int → Int → (Option Bool) → Bool → (List (Ty .mat)) → Bool → Int → Bool → Tree} {z : Ex × St} (h : (U_law15_SubMay_c18_h0 x K).eval = some z) : ∃ (qD : Int) (qE : Int) (qF : Option Bool) (qG : Bool) (qH : List (Ty .step)) (qI : Int) (qJ : Int) (qK : Int) (qL : Int) (qM : Option Bool) (qN : Bool) (qA : List (Ty .run)) (qO : Int) (qP : Int) (qQ : Int) (qR : Option Bool) (qS : Bool) (qT : List (Ty .mat)) (qU : Bool) (qV : Int) (qW : Bool), x = some (Blk.box 89 [C.d (.sc (.int .i64 qD)), C.d (.sc (.int .i64 qE)), C.d (.sl qF qG ET.step qH), C.d (.sc (.int .i64 qI)), C.d (.sc (.int .i64 qJ)), C.d (.sc (.int .i64 qK)), C.d (.sc (.int .i64 qL)), C.d (.sl qM qN ET.run qA), C.d (.sc (.int .i64 qO)), C.d (.sc (.int .i64 qP)), C.d (.sc (.int .i64 qQ)), C.d (.sl qR qS ET.mat qT), C.d (.sc (.bool qU)), C.d (.sc (.int .i64 qV)), C.d (.sc (.bool qW))]) ∧ (K qD qE qF qG qH qI qJ qK qL qM qN qA qO qP qQ qR qS qT qU qV qW).eval = some z := by
  unfold U_law15_SubMay_c18_h0 at h
  split at h
  · exact ⟨_, _, _, _, _, _, _, _, _, _, _, _, _, _, _, _, _, _, _, _, _, rfl, h⟩
  · cases h
theorem Ui_law15_SubMay_c18_h1 {x : Option Blk} {K : ByteArray → Int → (Option Bool) → Bool → (List (Ty .val)) → Tree} {z : Ex × St} (h : (U_law15_SubMay_c18_h1 x K).eval = some z) : ∃ (qX : ByteArray) (qY : Int) (qZ : Option Bool) (rA : Bool) (rB : List (Ty .val)), x = some (Blk.box 29 [C.d (.sc (.str qX)), C.d (.sc (.int .i64 qY)), C.d (.sl qZ rA ET.val rB)]) ∧ (K qX qY qZ rA rB).eval = some z := by
  unfold U_law15_SubMay_c18_h1 at h
  split at h
  · exact ⟨_, _, _, _, _, rfl, h⟩
  · cases h
theorem Ui_law15_SubMay_c18_h46 {x : Option Blk} {K : Int → Int → (List (Ty .step)) → Int → Int → Int → Int → (List (Ty .run)) → Int → Int → Int → (List (Ty .mat)) → Bool → Int → Bool → Tree} {z : Ex × St} (h : (U_law15_SubMay_c18_h46 x K).eval = some z) : ∃ (rJ : Int) (rK : Int) (rL : List (Ty .step)) (rM : Int) (rN : Int) (rO : Int) (rP : Int) (rQ : List (Ty .run)) (rR : Int) (rE : Int) (rF : Int) (rS : List (Ty .mat)) (rT : Bool) (rU : Int) (rV : Bool), x = some (Blk.box 89 [C.d (.sc (.int .i64 rJ)), C.d (.sc (.int .i64 rK)), C.d (.sl none false ET.step rL), C.d (.sc (.int .i64 rM)), C.d (.sc (.int .i64 rN)), C.d (.sc (.int .i64 rO)), C.d (.sc (.int .i64 rP)), C.d (.sl none false ET.run rQ), C.d (.sc (.int .i64 rR)), C.d (.sc (.int .i64 rE)), C.d (.sc (.int .i64 rF)), C.d (.sl none false ET.mat rS), C.d (.sc (.bool rT)), C.d (.sc (.int .i64 rU)), C.d (.sc (.bool rV))]) ∧ (K rJ rK rL rM rN rO rP rQ rR rE rF rS rT rU rV).eval = some z := by
  unfold U_law15_SubMay_c18_h46 at h
  split at h
  · exact ⟨_, _, _, _, _, _, _, _, _, _, _, _, _, _, _, rfl, h⟩
  · cases h
theorem Ui_law15_SubMay_c18_h54 {x : Option Blk} {K : Int → Int → (List (Ty .step)) → Int → Int → Int → Int → (List (Ty .run)) → Int → Int → Int → (List (Ty .mat)) → Bool → Int → Bool → Tree} {z : Ex × St} (h : (U_law15_SubMay_c18_h54 x K).eval = some z) : ∃ (rW : Int) (rX : Int) (rY : List (Ty .step)) (rZ : Int) (wA : Int) (wB : Int) (wC : Int) (wD : List (Ty .run)) (wE : Int) (rG : Int) (rH : Int) (wF : List (Ty .mat)) (wG : Bool) (wH : Int) (wI : Bool), x = some (Blk.box 89 [C.d (.sc (.int .i64 rW)), C.d (.sc (.int .i64 rX)), C.d (.sl none false ET.step rY), C.d (.sc (.int .i64 rZ)), C.d (.sc (.int .i64 wA)), C.d (.sc (.int .i64 wB)), C.d (.sc (.int .i64 wC)), C.d (.sl none false ET.run wD), C.d (.sc (.int .i64 wE)), C.d (.sc (.int .i64 rG)), C.d (.sc (.int .i64 rH)), C.d (.sl none false ET.mat wF), C.d (.sc (.bool wG)), C.d (.sc (.int .i64 wH)), C.d (.sc (.bool wI))]) ∧ (K rW rX rY rZ wA wB wC wD wE rG rH wF wG wH wI).eval = some z := by
  unfold U_law15_SubMay_c18_h54 at h
  split at h
  · exact ⟨_, _, _, _, _, _, _, _, _, _, _, _, _, _, _, rfl, h⟩
  · cases h
theorem Ui_law15_SubMay_c18_h55 {x : Option Blk} {K : Int → Int → Int → Int → Int → Int → Bool → Tree} {z : Ex × St} (h : (U_law15_SubMay_c18_h55 x K).eval = some z) : ∃ (wJ : Int) (wK : Int) (wL : Int) (wM : Int) (wN : Int) (wO : Int) (wP : Bool), x = some (Blk.box 95 [C.d (.sc (.int .i64 wJ)), C.d (.sc (.int .i64 wK)), C.d (.sc (.int .i64 wL)), C.d (.sc (.int .i64 wM)), C.d (.sc (.int .i64 wN)), C.d (.sc (.int .i64 wO)), C.d (.sc (.bool wP))]) ∧ (K wJ wK wL wM wN wO wP).eval = some z := by
  unfold U_law15_SubMay_c18_h55 at h
  split at h
  · exact ⟨_, _, _, _, _, _, _, rfl, h⟩
  · cases h
theorem Ui_law15_SubMay_c18_h65 {x : Option Blk} {K : Int → Int → (List (Ty .step)) → Int → Int → Int → Int → (List (Ty .run)) → Int → Int → Int → (List (Ty .mat)) → Bool → Int → Bool → Tree} {z : Ex × St} (h : (U_law15_SubMay_c18_h65 x K).eval = some z) : ∃ (wQ : Int) (wR : Int) (wS : List (Ty .step)) (wT : Int) (wU : Int) (wV : Int) (wW : Int) (wX : List (Ty .run)) (wY : Int) (wZ : Int) (rI : Int) (zA : List (Ty .mat)) (zB : Bool) (zC : Int) (zD : Bool), x = some (Blk.box 89 [C.d (.sc (.int .i64 wQ)), C.d (.sc (.int .i64 wR)), C.d (.sl none false ET.step wS), C.d (.sc (.int .i64 wT)), C.d (.sc (.int .i64 wU)), C.d (.sc (.int .i64 wV)), C.d (.sc (.int .i64 wW)), C.d (.sl none false ET.run wX), C.d (.sc (.int .i64 wY)), C.d (.sc (.int .i64 wZ)), C.d (.sc (.int .i64 rI)), C.d (.sl none false ET.mat zA), C.d (.sc (.bool zB)), C.d (.sc (.int .i64 zC)), C.d (.sc (.bool zD))]) ∧ (K wQ wR wS wT wU wV wW wX wY wZ rI zA zB zC zD).eval = some z := by
  unfold U_law15_SubMay_c18_h65 at h
  split at h
  · exact ⟨_, _, _, _, _, _, _, _, _, _, _, _, _, _, _, rfl, h⟩
  · cases h
theorem Ui_law15_SubMay_c18_h74 {x : Option Blk} {K : Int → Int → (List (Ty .step)) → Int → Int → Int → Int → (List (Ty .run)) → Int → Int → Int → (List (Ty .mat)) → Bool → Int → Bool → Tree} {z : Ex × St} (h : (U_law15_SubMay_c18_h74 x K).eval = some z) : ∃ (zE : Int) (zF : Int) (zG : List (Ty .step)) (zH : Int) (zI : Int) (zJ : Int) (zK : Int) (zL : List (Ty .run)) (zM : Int) (zN : Int) (zO : Int) (zP : List (Ty .mat)) (zQ : Bool) (zR : Int) (zS : Bool), x = some (Blk.box 89 [C.d (.sc (.int .i64 zE)), C.d (.sc (.int .i64 zF)), C.d (.sl none false ET.step zG), C.d (.sc (.int .i64 zH)), C.d (.sc (.int .i64 zI)), C.d (.sc (.int .i64 zJ)), C.d (.sc (.int .i64 zK)), C.d (.sl none false ET.run zL), C.d (.sc (.int .i64 zM)), C.d (.sc (.int .i64 zN)), C.d (.sc (.int .i64 zO)), C.d (.sl none false ET.mat zP), C.d (.sc (.bool zQ)), C.d (.sc (.int .i64 zR)), C.d (.sc (.bool zS))]) ∧ (K zE zF zG zH zI zJ zK zL zM zN zO zP zQ zR zS).eval = some z := by
  unfold U_law15_SubMay_c18_h74 at h
  split at h
  · exact ⟨_, _, _, _, _, _, _, _, _, _, _, _, _, _, _, rfl, h⟩
  · cases h
theorem lo1_law15_SubMay_c18 (e3 : V) (e4 : V) (e14 : V) (e15 : V) (e18 : V) (e19 : V) (e21 : V) (h0 : Option Blk) (h1 : Option Blk) (h46 : Option Blk) (h54 : Option Blk) (h55 : Option Blk) (h65 : Option Blk) (h74 : Option Blk) e st2 (h : (T1_law15_SubMay_c18 e3 e4 e14 e15 e18 e19 e21 h0 h1 h46 h54 h55 h65 h74).eval = some (e, st2)) : Lands Try.prog cx_law15_SubMay false b_law15_SubMay_c18 ⟨envOf 190 [(3, e3), (4, e4), (14, e14), (15, e15), (18, e18), (19, e19), (21, e21)], heapOf 109 [(0, h0), (1, h1), (46, h46), (54, h54), (55, h55), (65, h65), (74, h74)], 0⟩ e st2 := by
  unfold T1_law15_SubMay_c18 at h
  obtain ⟨qC, rfl, h⟩ := Ui_law15_SubMay_c18_e3 h
  obtain ⟨rfl, h⟩ := Ui_law15_SubMay_c18_e4 h
  obtain ⟨rfl, h⟩ := Ui_law15_SubMay_c18_e14 h
  obtain ⟨rfl, h⟩ := Ui_law15_SubMay_c18_e15 h
  obtain ⟨rfl, h⟩ := Ui_law15_SubMay_c18_e18 h
  obtain ⟨rC, rfl, h⟩ := Ui_law15_SubMay_c18_e19 h
  obtain ⟨rD, rfl, h⟩ := Ui_law15_SubMay_c18_e21 h
  obtain ⟨qD, qE, qF, qG, qH, qI, qJ, qK, qL, qM, qN, qA, qO, qP, qQ, qR, qS, qT, qU, qV, qW, rfl, h⟩ := Ui_law15_SubMay_c18_h0 h
  obtain ⟨qX, qY, qZ, rA, rB, rfl, h⟩ := Ui_law15_SubMay_c18_h1 h
  obtain ⟨rJ, rK, rL, rM, rN, rO, rP, rQ, rR, rE, rF, rS, rT, rU, rV, rfl, h⟩ := Ui_law15_SubMay_c18_h46 h
  obtain ⟨rW, rX, rY, rZ, wA, wB, wC, wD, wE, rG, rH, wF, wG, wH, wI, rfl, h⟩ := Ui_law15_SubMay_c18_h54 h
  obtain ⟨wJ, wK, wL, wM, wN, wO, wP, rfl, h⟩ := Ui_law15_SubMay_c18_h55 h
  obtain ⟨wQ, wR, wS, wT, wU, wV, wW, wX, wY, wZ, rI, zA, zB, zC, zD, rfl, h⟩ := Ui_law15_SubMay_c18_h65 h
  obtain ⟨zE, zF, zG, zH, zI, zJ, zK, zL, zM, zN, zO, zP, zQ, zR, zS, rfl, h⟩ := Ui_law15_SubMay_c18_h74 h
  have := cut_tree (ci_law15_SubMay_c18 qC rC rD qD qE qF qG qH qI qJ qK qL qM qN qA qO qP qQ qR qS qT qU qV qW qX qY qZ rA rB rJ rK rL rM rN rO rP rQ rR rE rF rS rT rU rV rW rX rY rZ wA wB wC wD wE rG rH wF wG wH wI wJ wK wL wM wN wO wP wQ wR wS wT wU wV wW wX wY wZ rI zA zB zC zD zE zF zG zH zI zJ zK zL zM zN zO zP zQ zR zS) h
  rw [mke_law15_SubMay_c18] at this
  exact this
theorem lok_law15_SubMay_c18 : CutOk Try.prog cx_law15_SubMay b_law15_SubMay_c18 T_law15_SubMay_c18 := by
  intro st e st2 h
  unfold T_law15_SubMay_c18 at h
  cases hk : okSt 190 109 0 [0, 1, 46, 54, 55, 65, 74] st with
  | false => rw [hk] at h; cases h
  | true =>
    rw [hk] at h
    exact lands_keep (ks := [3, 4, 14, 15, 18, 19, 21]) hk (lo1_law15_SubMay_c18 _ _ _ _ _ _ _ _ _ _ _ _ _ _ e st2 h)
structure S.law15_SubMay_T where
  x0 : Bool
  deriving Inhabited
def S.law15_SubMay_R (a0_0 : Int) (a0_1 : Int) (a0_2 : List (Ty .step)) (a0_3 : Int) (a0_4 : Int) (a0_5 : Int) (a0_6 : Int) (a0_7 : List (Ty .run)) (a0_8 : Int) (a0_9 : Int) (a0_10 : Int) (a0_11 : List (Ty .mat)) (a0_12 : Bool) (a0_13 : Int) (a0_14 : Bool) (a1_0 : ByteArray) (a1_1 : Int) (a1_2 : List (Ty .val)) (a2 : Int) (a3 : Int) : DT S.law15_SubMay_T :=
let y0 : S.law15_SubMay_8_V := { t_13_0 := 0 : S.law15_SubMay_8_V }
let y1 : S.sub_Feed_T := S.sub_Feed_o a0_0 a0_1 a0_2 a0_3 a0_4 a0_5 a0_6 a0_7 a0_8 a0_9 a0_10 a0_11 a0_12 a0_13 a0_14 a1_0 a1_1 a1_2 a2
let y2 : Int := y1.x0
let y3 : Int := y1.x1
let y4 : List (Ty .step) := y1.x2
let y5 : List (Ty .run) := y1.x7
let y6 : Int := y1.x8
let y7 : Int := y1.x9
let y8 : Int := y1.x10
let y9 : List (Ty .mat) := y1.x11
let y10 : Int := y1.x13
let y11 : Bool := y1.x14
let y12 : S.sub_Give_T := S.sub_Give_o a0_0 a0_1 a0_2 a0_3 a0_4 a0_5 a0_6 a0_7 a0_8 a0_9 a0_10 a0_11 a0_12 a0_13 a0_14
let y13 : Int := y12.x0
let y14 : Int := y12.x1
let y15 : List (Ty .step) := y12.x2
let y16 : List (Ty .run) := y12.x7
let y17 : Int := y12.x8
let y18 : Int := y12.x9
let y19 : Int := y12.x10
let y20 : List (Ty .mat) := y12.x11
let y21 : Int := y12.x13
let y22 : Bool := y12.x14
let y23 : S.sub_Hold_T := S.sub_Hold_o a0_0 a0_1 a0_2 a0_3 a0_4 a0_5 a0_6 a0_7 a0_8 a0_9 a0_10 a0_11 a0_13 a0_14
let y24 : Int := y23.x0
let y25 : Int := y23.x1
let y26 : List (Ty .step) := y23.x2
let y27 : List (Ty .run) := y23.x7
let y28 : Int := y23.x8
let y29 : Int := y23.x9
let y30 : Int := y23.x10
let y31 : List (Ty .mat) := y23.x11
let y32 : Int := y23.x13
let y33 : Bool := y23.x14
let y34 : S.sub_Ack_T := S.sub_Ack_o a0_0 a0_1 a0_2 a0_3 a0_4 a0_5 a0_6 a0_7 a0_8 a0_9 a0_10 a0_11 a0_12 a0_13 a0_14 a3
let y35 : Int := y34.x15
let y36 : Int := y34.x0
let y37 : Int := y34.x1
let y38 : List (Ty .step) := y34.x2
let y39 : List (Ty .run) := y34.x7
let y40 : Int := y34.x8
let y41 : Int := y34.x9
let y42 : Int := y34.x10
let y43 : List (Ty .mat) := y34.x11
let y44 : Int := y34.x13
let y45 : Bool := y34.x14
let y46 : S.sub_Go_T := S.sub_Go_o a0_0 a0_1 a0_2 a0_3 a0_4 a0_5 a0_6 a0_7 a0_8 a0_9 a0_10 a0_11 a0_13 a3
let y47 : Int := y46.x15
let y48 : Bool := xeqI y47 0
let y49 : Int := y46.x0
let y50 : Int := y46.x1
let y51 : List (Ty .step) := y46.x2
let y52 : List (Ty .run) := y46.x7
let y53 : Int := y46.x8
let y54 : Int := y46.x9
let y55 : Int := y46.x10
let y56 : List (Ty .mat) := y46.x11
let y57 : Int := y46.x13
let y58 : Bool := y46.x14
let y59 : Bool := S.sub_May_is y49 y50 y51 y52 y53 y54 y55 y56 y57 y58
let y60 : Bool := xnot (S.sub_May_o y49 y50 y51 y52 y53 y54 y55 y56 y57 y58).x0
let y61 : Bool := S.law15_SubMay_c18_is a3 y35 y47 a0_9 a0_10 y7 y8 y18 y19 y42
let y62 : Bool := (S.law15_SubMay_c18_o a3 y35 y47 a0_9 a0_10 y7 y8 y18 y19 y42).x0
(.br (S.law15_awake_is)
(.br (S.law15_Few_is a0_2 a0_7 a0_11)
(.br (S.law06_Few_is a1_0 a1_2)
(.br (S.ref09_May_is a0_2 a0_3 a0_4 a0_5 a0_6)
(.br (xnot S.law15_awake_o.x0)
(.leaf ⟨S.law15_awake_o.x0⟩)
(.br (xnot (S.law15_Few_o a0_2 a0_7 a0_11).x0)
(.leaf ⟨S.law15_awake_o.x0⟩)
(.br (xnot (S.law06_Few_o a1_0 a1_2).x0)
(.leaf ⟨S.law15_awake_o.x0⟩)
(.br (xnot (S.ref09_May_o a0_2 a0_3 a0_4 a0_5 a0_6).x0)
(.leaf ⟨S.law15_awake_o.x0⟩)
(.br (S.sub_May_is a0_0 a0_1 a0_2 a0_7 a0_8 a0_9 a0_10 a0_11 a0_13 a0_14)
(.br (xnot (S.sub_May_o a0_0 a0_1 a0_2 a0_7 a0_8 a0_9 a0_10 a0_11 a0_13 a0_14).x0)
(.leaf ⟨S.law15_awake_o.x0⟩)
(.br (S.law15_SubMay_8_j a0_7 y0 0)
(.leaf ⟨true⟩)
(.br (S.law15_SubMay_8_j a0_7 y0 1)
(.br (S.sub_Feed_is a0_0 a0_1 a0_2 a0_3 a0_4 a0_5 a0_6 a0_7 a0_8 a0_9 a0_10 a0_11 a0_12 a0_13 a0_14 a1_0 a1_1 a1_2 a2)
(.br (S.sub_Give_is a0_0 a0_1 a0_2 a0_3 a0_4 a0_5 a0_6 a0_7 a0_8 a0_9 a0_10 a0_11 a0_12 a0_13 a0_14)
(.br (S.sub_Ack_is a0_0 a0_1 a0_2 a0_3 a0_4 a0_5 a0_6 a0_7 a0_8 a0_9 a0_10 a0_11 a0_12 a0_13 a0_14 a3)
(.br (S.sub_Go_is a0_0 a0_1 a0_2 a0_3 a0_4 a0_5 a0_6 a0_7 a0_8 a0_9 a0_10 a0_11 a0_13 a3)
(.br (S.sub_May_is y2 y3 y4 y5 y6 y7 y8 y9 y10 y11)
(.br (xnot (S.sub_May_o y2 y3 y4 y5 y6 y7 y8 y9 y10 y11).x0)
(.leaf ⟨false⟩)
(.br (S.sub_May_is y13 y14 y15 y16 y17 y18 y19 y20 y21 y22)
(.br (xnot (S.sub_May_o y13 y14 y15 y16 y17 y18 y19 y20 y21 y22).x0)
(.leaf ⟨false⟩)
(.br (S.sub_Hold_is a0_0 a0_1 a0_2 a0_3 a0_4 a0_5 a0_6 a0_7 a0_8 a0_9 a0_10 a0_11 a0_13 a0_14)
(.br (S.sub_May_is y24 y25 y26 y27 y28 y29 y30 y31 y32 y33)
(.br (xnot (S.sub_May_o y24 y25 y26 y27 y28 y29 y30 y31 y32 y33).x0)
(.leaf ⟨false⟩)
(.br (xeqI y35 0)
(.br (S.sub_May_is y36 y37 y38 y39 y40 y41 y42 y43 y44 y45)
(.br (xnot (S.sub_May_o y36 y37 y38 y39 y40 y41 y42 y43 y44 y45).x0)
(.leaf ⟨false⟩)
(.br (y48)
(.br (y59)
(.br (y60)
(.leaf ⟨false⟩)
(.br (y61)
(.leaf ⟨y62⟩)
.fail))
.fail)
(.br (y61)
(.leaf ⟨y62⟩)
.fail)))
.fail)
(.br (y48)
(.br (y59)
(.br (y60)
(.leaf ⟨false⟩)
(.br (y61)
(.leaf ⟨y62⟩)
.fail))
.fail)
(.br (y61)
(.leaf ⟨y62⟩)
.fail))))
.fail)
.fail))
.fail))
.fail)
.fail)
.fail)
.fail)
.fail)
.fail)))
.fail)))))
.fail)
.fail)
.fail)
.fail)
def S.law15_SubMay (a0_0 : Int) (a0_1 : Int) (a0_2 : List (Ty .step)) (a0_3 : Int) (a0_4 : Int) (a0_5 : Int) (a0_6 : Int) (a0_7 : List (Ty .run)) (a0_8 : Int) (a0_9 : Int) (a0_10 : Int) (a0_11 : List (Ty .mat)) (a0_12 : Bool) (a0_13 : Int) (a0_14 : Bool) (a1_0 : ByteArray) (a1_1 : Int) (a1_2 : List (Ty .val)) (a2 : Int) (a3 : Int) : Option S.law15_SubMay_T := (S.law15_SubMay_R a0_0 a0_1 a0_2 a0_3 a0_4 a0_5 a0_6 a0_7 a0_8 a0_9 a0_10 a0_11 a0_12 a0_13 a0_14 a1_0 a1_1 a1_2 a2 a3).run
def S.law15_SubMay_is (a0_0 : Int) (a0_1 : Int) (a0_2 : List (Ty .step)) (a0_3 : Int) (a0_4 : Int) (a0_5 : Int) (a0_6 : Int) (a0_7 : List (Ty .run)) (a0_8 : Int) (a0_9 : Int) (a0_10 : Int) (a0_11 : List (Ty .mat)) (a0_12 : Bool) (a0_13 : Int) (a0_14 : Bool) (a1_0 : ByteArray) (a1_1 : Int) (a1_2 : List (Ty .val)) (a2 : Int) (a3 : Int) : Bool := (S.law15_SubMay a0_0 a0_1 a0_2 a0_3 a0_4 a0_5 a0_6 a0_7 a0_8 a0_9 a0_10 a0_11 a0_12 a0_13 a0_14 a1_0 a1_1 a1_2 a2 a3).isSome
def S.law15_SubMay_o (a0_0 : Int) (a0_1 : Int) (a0_2 : List (Ty .step)) (a0_3 : Int) (a0_4 : Int) (a0_5 : Int) (a0_6 : Int) (a0_7 : List (Ty .run)) (a0_8 : Int) (a0_9 : Int) (a0_10 : Int) (a0_11 : List (Ty .mat)) (a0_12 : Bool) (a0_13 : Int) (a0_14 : Bool) (a1_0 : ByteArray) (a1_1 : Int) (a1_2 : List (Ty .val)) (a2 : Int) (a3 : Int) : S.law15_SubMay_T := (S.law15_SubMay a0_0 a0_1 a0_2 a0_3 a0_4 a0_5 a0_6 a0_7 a0_8 a0_9 a0_10 a0_11 a0_12 a0_13 a0_14 a1_0 a1_1 a1_2 a2 a3).getD default
def ret_law15_SubMay (b : Bool) (r : S.law15_SubMay_T) : Ret := ⟨b, none, [(false, [C.d (.sc (.bool r.x0))])]⟩
def g_law15_SubMay : Con
  | [(true, [.sc (.int .i64 a0_0), .sc (.int .i64 a0_1), .sl a0_2n a0_2f .step a0_2, .sc (.int .i64 a0_3), .sc (.int .i64 a0_4), .sc (.int .i64 a0_5), .sc (.int .i64 a0_6), .sl a0_7n a0_7f .run a0_7, .sc (.int .i64 a0_8), .sc (.int .i64 a0_9), .sc (.int .i64 a0_10), .sl a0_11n a0_11f .mat a0_11, .sc (.bool a0_12), .sc (.int .i64 a0_13), .sc (.bool a0_14)]), (true, [.sc (.str a1_0), .sc (.int .i64 a1_1), .sl a1_2n a1_2f .val a1_2]), (false, [.sc (.int .i64 a2)]), (false, [.sc (.int .i64 a3)])] => some (ret_law15_SubMay (S.law15_SubMay_is a0_0 a0_1 a0_2 a0_3 a0_4 a0_5 a0_6 a0_7 a0_8 a0_9 a0_10 a0_11 a0_12 a0_13 a0_14 a1_0 a1_1 a1_2 a2 a3) (S.law15_SubMay_o a0_0 a0_1 a0_2 a0_3 a0_4 a0_5 a0_6 a0_7 a0_8 a0_9 a0_10 a0_11 a0_12 a0_13 a0_14 a1_0 a1_1 a1_2 a2 a3))
  | _ => none
theorem raw_law15_SubMay (a0_0 : Int) (a0_1 : Int) (a0_2n : Option Bool) (a0_2f : Bool) (a0_2 : List (Ty .step)) (a0_3 : Int) (a0_4 : Int) (a0_5 : Int) (a0_6 : Int) (a0_7n : Option Bool) (a0_7f : Bool) (a0_7 : List (Ty .run)) (a0_8 : Int) (a0_9 : Int) (a0_10 : Int) (a0_11n : Option Bool) (a0_11f : Bool) (a0_11 : List (Ty .mat)) (a0_12 : Bool) (a0_13 : Int) (a0_14 : Bool) (a1_0 : ByteArray) (a1_1 : Int) (a1_2n : Option Bool) (a1_2f : Bool) (a1_2 : List (Ty .val)) (a2 : Int) (a3 : Int) : evR5 cx_law15_SubMay (hdI cx_law15_SubMay (find [(8, T_law15_SubMay_8), (1000018, T_law15_SubMay_c18)]) [] none 0) (find [(8, T_law15_SubMay_8), (1000018, T_law15_SubMay_c18)]) (⟨18, [3, 4, 14, 15, 18, 19, 21], 1000000⟩) none Try.f31 31 none [(true, [.sc (.int .i64 a0_0), .sc (.int .i64 a0_1), .sl a0_2n a0_2f .step a0_2, .sc (.int .i64 a0_3), .sc (.int .i64 a0_4), .sc (.int .i64 a0_5), .sc (.int .i64 a0_6), .sl a0_7n a0_7f .run a0_7, .sc (.int .i64 a0_8), .sc (.int .i64 a0_9), .sc (.int .i64 a0_10), .sl a0_11n a0_11f .mat a0_11, .sc (.bool a0_12), .sc (.int .i64 a0_13), .sc (.bool a0_14)]), (true, [.sc (.str a1_0), .sc (.int .i64 a1_1), .sl a1_2n a1_2f .val a1_2]), (false, [.sc (.int .i64 a2)]), (false, [.sc (.int .i64 a3)])] some = (S.law15_SubMay_R a0_0 a0_1 a0_2 a0_3 a0_4 a0_5 a0_6 a0_7 a0_8 a0_9 a0_10 a0_11 a0_12 a0_13 a0_14 a1_0 a1_1 a1_2 a2 a3).go (ret_law15_SubMay true) := by kernel_rfl
theorem bs_law15_SubMay : loopsIn Try.f31 [] = [b_law15_SubMay_8] := by kernel_rfl
theorem law15_SubMay_ok : Stands Try.prog tyTab 31 g_law15_SubMay := by
  refine stands5 (q := ⟨18, [3, 4, 14, 15, 18, 19, 21], 1000000⟩) (L := find [(8, T_law15_SubMay_8), (1000018, T_law15_SubMay_c18)]) (n := 0) (hints := [(31, 8, { keep := [2, 3, 4, 5, 13], acc := [] })]) (cx_ok rfl) rdy_law15_SubMay prs_law15_SubMay ⟨by kernel_rfl, by kernel_rfl, by kernel_rfl⟩ bs_law15_SubMay (consB (fun T h => by have e : T_law15_SubMay_8 = T := Option.some.inj (show some T_law15_SubMay_8 = some T from h); exact e ▸ lok_law15_SubMay_8) nilB) (fun T h b hb => by have e : T_law15_SubMay_c18 = T := Option.some.inj (show some T_law15_SubMay_c18 = some T from h); subst e; obtain rfl := tailOf_eq hb; exact lok_law15_SubMay_c18) (fun das r hG hr => ?_)
  unfold g_law15_SubMay at hG
  split at hG
  · rename_i a0_0 a0_1 a0_2n a0_2f a0_2 a0_3 a0_4 a0_5 a0_6 a0_7n a0_7f a0_7 a0_8 a0_9 a0_10 a0_11n a0_11f a0_11 a0_12 a0_13 a0_14 a1_0 a1_1 a1_2n a1_2f a1_2 a2 a3
    injection hG with hG; subst hG
    exact ⟨none, true, win default ((raw_law15_SubMay a0_0 a0_1 a0_2n a0_2f a0_2 a0_3 a0_4 a0_5 a0_6 a0_7n a0_7f a0_7 a0_8 a0_9 a0_10 a0_11n a0_11f a0_11 a0_12 a0_13 a0_14 a1_0 a1_1 a1_2n a1_2f a1_2 a2 a3).trans (DT.go_run _ _)) hr⟩
  · cases hG
end
end Go.Eng
