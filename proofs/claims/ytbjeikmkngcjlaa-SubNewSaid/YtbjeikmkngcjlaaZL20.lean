/- Contracts, laid by program. -/
import Derived.Test.YtbjeikmkngcjlaaZG9
set_option maxHeartbeats 2000000
set_option maxRecDepth 10000
set_option linter.unusedVariables false
set_option linter.unusedSimpArgs false
namespace Go.Eng
noncomputable section
open Go Go.Eng Go.Proofs Go.Eng.Tab
abbrev cx_law15_SubEvicts : Cx := mkCx2 tyTab [(36, g_law06_Few), (58, g_match_Feed), (63, g_law15_awake), (64, g_law15_Few), (65, g_sub_May), (66, g_sub_Feed), (67, g_sub_Same)] [] [(20, 16, { keep := [3, 10, 14], acc := [] })] []
theorem rdy_law15_SubEvicts : Ready Try.prog tyTab [(36, g_law06_Few), (58, g_match_Feed), (63, g_law15_awake), (64, g_law15_Few), (65, g_sub_May), (66, g_sub_Feed), (67, g_sub_Same)] [] [] := ⟨consG2 law06_Few_ok (consG2 match_Feed_ok (consG2 law15_awake_ok (consG2 law15_Few_ok (consG2 sub_May_ok (consG2 sub_Feed_ok (consG2 sub_Same_ok (noneG2))))))), noneI2, noneF2⟩
structure S.law15_SubEvicts_16_V where
  t_14_0 : Int
def S.law15_SubEvicts_16_R (qA : List (Ty .mat)) (qB : List (Ty .mat)) (v : S.law15_SubEvicts_16_V) : DT (Option Nat × S.law15_SubEvicts_16_V) :=
let y0 : Bool := xdec (v.t_14_0 < (↑qB.length : Int))
let y1 : Bool := xdec (0 ≤ v.t_14_0)
let y2 : Ty ET.mat := qB.getD v.t_14_0.toNat (dflt ET.mat)
let y3 : Ty ET.mat := qA.getD v.t_14_0.toNat (dflt ET.mat)
(.br (y0)
(.br (y1 && y0)
(.br (y1 && xdec (v.t_14_0 < (↑qA.length : Int)))
(.br (bif xeqI y2.start y3.start && (xeqI y2.fin y3.fin && (xeqI y2.agg y3.agg && xeqB y2.bad y3.bad)) then false else true)
(.leaf (some 0, v))
(.leaf (none, ⟨xwrap IntKind.i64 (v.t_14_0 + 1)⟩)))
.fail)
.fail)
(.leaf (some 1, v)))
def S.law15_SubEvicts_16_r (qA : List (Ty .mat)) (qB : List (Ty .mat)) (v : S.law15_SubEvicts_16_V) : Option (Option Nat × S.law15_SubEvicts_16_V) := (S.law15_SubEvicts_16_R qA qB v).run
def S.law15_SubEvicts_16_j (qA : List (Ty .mat)) (qB : List (Ty .mat)) (v : S.law15_SubEvicts_16_V) (j : Nat) : Bool := Lp_j (S.law15_SubEvicts_16_r qA qB) v j
def S.law15_SubEvicts_16_v (qA : List (Ty .mat)) (qB : List (Ty .mat)) (v : S.law15_SubEvicts_16_V) : S.law15_SubEvicts_16_V := Lp_v (S.law15_SubEvicts_16_r qA qB) v
def mk_law15_SubEvicts_16 (qC : Int) (qD : Int) (qE : Option Bool) (qF : Bool) (qG : List (Ty .step)) (qH : Int) (qI : Int) (qJ : Int) (qK : Int) (qL : Option Bool) (qM : Bool) (qN : List (Ty .run)) (qO : Int) (qP : Int) (qQ : Int) (qR : Option Bool) (qS : Bool) (qA : List (Ty .mat)) (qT : Bool) (qU : Int) (qV : Bool) (qW : ByteArray) (qX : Int) (qY : Option Bool) (qZ : Bool) (rA : List (Ty .val)) (rB : Int) (rC : Int) (rD : List (Ty .step)) (rE : Int) (rF : Int) (rG : Int) (rH : Int) (rI : List (Ty .run)) (rJ : Int) (rK : Int) (rL : Int) (qB : List (Ty .mat)) (rM : Bool) (rN : Int) (rO : Bool) (rP : List (Ty .step)) (rQ : Int) (rR : Int) (rS : Int) (rT : Int) (rU : List (Ty .run)) (rV : Int) (v : S.law15_SubEvicts_16_V) : St := ⟨[V.any, V.any, V.any, V.v false [C.ptr 0 0], V.any, V.any, V.any, V.any, V.any, V.any, V.v false [C.ptr 30 0], V.any, V.any, V.any,
  V.v false [C.d (.sc (.int .i64 v.t_14_0))], V.any, V.any, V.any, V.any, V.any, V.any, V.any, V.any, V.any, V.any, V.any, V.any, V.any, V.any, V.any, V.any, V.any,
  V.any, V.any, V.any, V.any, V.any, V.any, V.any, V.any, V.any, V.any, V.any, V.any, V.any, V.any, V.any, V.any, V.any, V.any, V.any, V.any, V.any, V.any, V.any, V.any, V.any,
  V.any, V.any, V.any, V.any, V.any, V.any, V.any, V.any, V.any, V.any, V.any, V.any, V.any, V.any, V.any, V.any, V.any, V.any, V.any, V.any, V.any, V.any, V.any, V.any, V.any,
  V.any, V.any, V.any, V.any, V.any, V.any, V.any, V.any, V.any, V.any, V.any, V.any, V.any, V.any, V.any, V.any, V.any, V.any, V.any, V.any, V.any, V.any, V.any, V.any, V.any,
  V.any, V.any, V.any, V.any, V.any, V.any, V.any, V.any, V.any, V.any, V.any, V.any, V.any, V.any, V.any, V.any, V.any, V.any, V.any, V.any, V.any, V.any, V.any, V.any, V.any,
  V.any, V.any, V.any, V.any, V.any, V.any, V.any, V.any, V.any, V.any, V.any, V.any, V.any, V.any, V.any, V.any, V.any], [some
    (Blk.box 89
      [C.d (.sc (.int .i64 qC)), C.d (.sc (.int .i64 qD)), C.d (.sl qE qF ET.step qG), C.d (.sc (.int .i64 qH)),
        C.d (.sc (.int .i64 qI)), C.d (.sc (.int .i64 qJ)), C.d (.sc (.int .i64 qK)), C.d (.sl qL qM ET.run qN),
        C.d (.sc (.int .i64 qO)), C.d (.sc (.int .i64 qP)), C.d (.sc (.int .i64 qQ)), C.d (.sl qR qS ET.mat qA),
        C.d (.sc (.bool qT)), C.d (.sc (.int .i64 qU)), C.d (.sc (.bool qV))]),
  some (Blk.box 29 [C.d (.sc (.str qW)), C.d (.sc (.int .i64 qX)), C.d (.sl qY qZ ET.val rA)]), none, none, none, none, none, none, none, none, none,
  none, none, none, none, none, none, none, none, none, none, none, none, none, none, none, none, none, none, none,
  some
    (Blk.box 89
      [C.d (.sc (.int .i64 rB)), C.d (.sc (.int .i64 rC)), C.d (.sl none false ET.step rD), C.d (.sc (.int .i64 rE)),
        C.d (.sc (.int .i64 rF)), C.d (.sc (.int .i64 rG)), C.d (.sc (.int .i64 rH)), C.d (.sl none false ET.run rI),
        C.d (.sc (.int .i64 rJ)), C.d (.sc (.int .i64 rK)), C.d (.sc (.int .i64 rL)), C.d (.sl none false ET.mat qB),
        C.d (.sc (.bool rM)), C.d (.sc (.int .i64 rN)), C.d (.sc (.bool rO))]),
  none, none, none, none, none, none, none, none, none, none, none, none,
  some
    (Blk.box 71
      [C.d (.sl none false ET.step rP), C.d (.sc (.int .i64 rQ)), C.d (.sc (.int .i64 rR)), C.d (.sc (.int .i64 rS)),
        C.d (.sc (.int .i64 rT)), C.d (.sl none false ET.run rU), C.d (.sc (.int .i64 rV))]),
  none, none, none, none, none, none, none, none, none, none, none, none, none, none, none, none, none, none, none, none, none, none, none, none, none, none, none, none, none,
  none, none, none, none, none, none, none, none, none, none, none, none, none, none, none, none, none, none, none, none, none, none, none, none, none, none, none, none, none,
  none, none, none], 0⟩
def ex_law15_SubEvicts_16 (qC : Int) (qD : Int) (qE : Option Bool) (qF : Bool) (qG : List (Ty .step)) (qH : Int) (qI : Int) (qJ : Int) (qK : Int) (qL : Option Bool) (qM : Bool) (qN : List (Ty .run)) (qO : Int) (qP : Int) (qQ : Int) (qR : Option Bool) (qS : Bool) (qA : List (Ty .mat)) (qT : Bool) (qU : Int) (qV : Bool) (qW : ByteArray) (qX : Int) (qY : Option Bool) (qZ : Bool) (rA : List (Ty .val)) (rB : Int) (rC : Int) (rD : List (Ty .step)) (rE : Int) (rF : Int) (rG : Int) (rH : Int) (rI : List (Ty .run)) (rJ : Int) (rK : Int) (rL : Int) (qB : List (Ty .mat)) (rM : Bool) (rN : Int) (rO : Bool) (rP : List (Ty .step)) (rQ : Int) (rR : Int) (rS : Int) (rT : Int) (rU : List (Ty .run)) (rV : Int) (j : Nat) (v : S.law15_SubEvicts_16_V) : Ex × St := match j with
  | 0 => (Ex.ret, ⟨[V.any, V.any, V.any, V.any, V.any, V.any, V.v false [C.d (.sc (.bool false))], V.any, V.any, V.any, V.any, V.any, V.any, V.any, V.any, V.any, V.any, V.any, V.any, V.any, V.any,
  V.any, V.any, V.any, V.any, V.any, V.any, V.any, V.any, V.any, V.any, V.any, V.any, V.any, V.any, V.any, V.any, V.any, V.any, V.any, V.any, V.any, V.any, V.any, V.any, V.any,
  V.any, V.any, V.any, V.any, V.any, V.any, V.any, V.any, V.any, V.any, V.any, V.any, V.any, V.any, V.any, V.any, V.any, V.any, V.any, V.any, V.any, V.any, V.any, V.any, V.any,
  V.any, V.any, V.any, V.any, V.any, V.any, V.any, V.any, V.any, V.any, V.any, V.any, V.any, V.any, V.any, V.any, V.any, V.any, V.any, V.any, V.any, V.any, V.any, V.any, V.any,
  V.any, V.any, V.any, V.any, V.any, V.any, V.any, V.any, V.any, V.any, V.any, V.any, V.any, V.any, V.any, V.any, V.any, V.any, V.any, V.any, V.any, V.any, V.any, V.any, V.any,
  V.any, V.any, V.any, V.any, V.any, V.any, V.any, V.any, V.any, V.any, V.any, V.any, V.any, V.any, V.any, V.any, V.any, V.any, V.any, V.any, V.any, V.any, V.any, V.any, V.any,
  V.any, V.any, V.any], [some
    (Blk.box 89
      [C.d (.sc (.int .i64 qC)), C.d (.sc (.int .i64 qD)), C.d (.sl qE qF ET.step qG), C.d (.sc (.int .i64 qH)),
        C.d (.sc (.int .i64 qI)), C.d (.sc (.int .i64 qJ)), C.d (.sc (.int .i64 qK)), C.d (.sl qL qM ET.run qN),
        C.d (.sc (.int .i64 qO)), C.d (.sc (.int .i64 qP)), C.d (.sc (.int .i64 qQ)), C.d (.sl qR qS ET.mat qA),
        C.d (.sc (.bool qT)), C.d (.sc (.int .i64 qU)), C.d (.sc (.bool qV))]),
  some (Blk.box 29 [C.d (.sc (.str qW)), C.d (.sc (.int .i64 qX)), C.d (.sl qY qZ ET.val rA)]), none, none, none, none, none, none, none, none, none,
  none, none, none, none, none, none, none, none, none, none, none, none, none, none, none, none, none, none, none,
  some
    (Blk.box 89
      [C.d (.sc (.int .i64 rB)), C.d (.sc (.int .i64 rC)), C.d (.sl none false ET.step rD), C.d (.sc (.int .i64 rE)),
        C.d (.sc (.int .i64 rF)), C.d (.sc (.int .i64 rG)), C.d (.sc (.int .i64 rH)), C.d (.sl none false ET.run rI),
        C.d (.sc (.int .i64 rJ)), C.d (.sc (.int .i64 rK)), C.d (.sc (.int .i64 rL)), C.d (.sl none false ET.mat qB),
        C.d (.sc (.bool rM)), C.d (.sc (.int .i64 rN)), C.d (.sc (.bool rO))]),
  none, none, none, none, none, none, none, none, none, none, none, none,
  some
    (Blk.box 71
      [C.d (.sl none false ET.step rP), C.d (.sc (.int .i64 rQ)), C.d (.sc (.int .i64 rR)), C.d (.sc (.int .i64 rS)),
        C.d (.sc (.int .i64 rT)), C.d (.sl none false ET.run rU), C.d (.sc (.int .i64 rV))]),
  none, none, none, none, none, none, none, none, none, none, none, none, none, none, none, none, none, none, none, none, none, none, none, none, none, none, none, none, none,
  none, none, none, none, none, none, none, none, none, none, none, none, none, none, none, none, none, none, none, none, none, none, none, none, none, none, none, none, none,
  none, none, none, none, none, none, none, none, none, none, none, none, none, none, none, none, none, none, none, none, none, none, none], 0⟩)
  | 1 => (Ex.exit 0, ⟨[V.any, V.any, V.any, V.any, V.any, V.any, V.any, V.any, V.any, V.any, V.any, V.any, V.any, V.any, V.any, V.any, V.any, V.any, V.any, V.any, V.any, V.any, V.any, V.any, V.any,
  V.any, V.any, V.any, V.any, V.any, V.any, V.any, V.any, V.any, V.any, V.any, V.any, V.any, V.any, V.any, V.any, V.any, V.any, V.any, V.any, V.any, V.any, V.any, V.any, V.any,
  V.any, V.any, V.any, V.any, V.any, V.any, V.any, V.any, V.any, V.any, V.any, V.any, V.any, V.any, V.any, V.any, V.any, V.any, V.any, V.any, V.any, V.any, V.any, V.any, V.any,
  V.any, V.any, V.any, V.any, V.any, V.any, V.any, V.any, V.any, V.any, V.any, V.any, V.any, V.any, V.any, V.any, V.any, V.any, V.any, V.any, V.any, V.any, V.any, V.any, V.any,
  V.any, V.any, V.any, V.any, V.any, V.any, V.any, V.any, V.any, V.any, V.any, V.any, V.any, V.any, V.any, V.any, V.any, V.any, V.any, V.any, V.any, V.any, V.any, V.any, V.any,
  V.any, V.any, V.any, V.any, V.any, V.any, V.any, V.any, V.any, V.any, V.any, V.any, V.any, V.any, V.any, V.any, V.any, V.any, V.any, V.any, V.any, V.any, V.any, V.any], [some
    (Blk.box 89
      [C.d (.sc (.int .i64 qC)), C.d (.sc (.int .i64 qD)), C.d (.sl qE qF ET.step qG), C.d (.sc (.int .i64 qH)),
        C.d (.sc (.int .i64 qI)), C.d (.sc (.int .i64 qJ)), C.d (.sc (.int .i64 qK)), C.d (.sl qL qM ET.run qN),
        C.d (.sc (.int .i64 qO)), C.d (.sc (.int .i64 qP)), C.d (.sc (.int .i64 qQ)), C.d (.sl qR qS ET.mat qA),
        C.d (.sc (.bool qT)), C.d (.sc (.int .i64 qU)), C.d (.sc (.bool qV))]),
  some (Blk.box 29 [C.d (.sc (.str qW)), C.d (.sc (.int .i64 qX)), C.d (.sl qY qZ ET.val rA)]), none, none, none, none, none, none, none, none, none,
  none, none, none, none, none, none, none, none, none, none, none, none, none, none, none, none, none, none, none,
  some
    (Blk.box 89
      [C.d (.sc (.int .i64 rB)), C.d (.sc (.int .i64 rC)), C.d (.sl none false ET.step rD), C.d (.sc (.int .i64 rE)),
        C.d (.sc (.int .i64 rF)), C.d (.sc (.int .i64 rG)), C.d (.sc (.int .i64 rH)), C.d (.sl none false ET.run rI),
        C.d (.sc (.int .i64 rJ)), C.d (.sc (.int .i64 rK)), C.d (.sc (.int .i64 rL)), C.d (.sl none false ET.mat qB),
        C.d (.sc (.bool rM)), C.d (.sc (.int .i64 rN)), C.d (.sc (.bool rO))]),
  none, none, none, none, none, none, none, none, none, none, none, none,
  some
    (Blk.box 71
      [C.d (.sl none false ET.step rP), C.d (.sc (.int .i64 rQ)), C.d (.sc (.int .i64 rR)), C.d (.sc (.int .i64 rS)),
        C.d (.sc (.int .i64 rT)), C.d (.sl none false ET.run rU), C.d (.sc (.int .i64 rV))]),
  none, none, none, none, none, none, none, none, none, none, none, none, none, none, none, none, none, none, none, none, none, none, none, none, none, none, none, none, none,
  none, none, none, none, none, none, none, none, none, none, none, none, none, none, none, none, none, none, none, none, none, none, none, none, none, none, none, none, none,
  none, none, none, none, none, none, none, none, none], 0⟩)
  | _ => (.ret, ⟨[], [], 0⟩)
def U_law15_SubEvicts_16_e3 (x : V) (K : Tree) : Tree := match x with
  | V.v false [C.ptr 0 0] => K
  | _ => .bad
def U_law15_SubEvicts_16_e10 (x : V) (K : Tree) : Tree := match x with
  | V.v false [C.ptr 30 0] => K
  | _ => .bad
def U_law15_SubEvicts_16_e14 (x : V) (K : Int → Tree) : Tree := match x with
  | V.v false [C.d (.sc (.int .i64 t_14_0))] => K t_14_0
  | _ => .bad
def U_law15_SubEvicts_16_h0 (x : Option Blk) (K : Int → Int → (Option Bool) → Bool → (List (Ty .step)) → Int → Int → Int → Int → (Option Bool) → Bool → (List (Ty .run)) → Int → Int → Int → (Option Bool) → Bool → (List (Ty .mat)) → Bool → Int → Bool → Tree) : Tree := match x with
  | some (Blk.box 89 [C.d (.sc (.int .i64 qC)), C.d (.sc (.int .i64 qD)), C.d (.sl qE qF ET.step qG), C.d (.sc (.int .i64 qH)), C.d (.sc (.int .i64 qI)), C.d (.sc (.int .i64 qJ)), C.d (.sc (.int .i64 qK)), C.d (.sl qL qM ET.run qN), C.d (.sc (.int .i64 qO)), C.d (.sc (.int .i64 qP)), C.d (.sc (.int .i64 qQ)), C.d (.sl qR qS ET.mat qA), C.d (.sc (.bool qT)), C.d (.sc (.int .i64 qU)), C.d (.sc (.bool qV))]) => K qC qD qE qF qG qH qI qJ qK qL qM qN qO qP qQ qR qS qA qT qU qV
  | _ => .bad
def U_law15_SubEvicts_16_h1 (x : Option Blk) (K : ByteArray → Int → (Option Bool) → Bool → (List (Ty .val)) → Tree) : Tree := match x with
  | some (Blk.box 29 [C.d (.sc (.str qW)), C.d (.sc (.int .i64 qX)), C.d (.sl qY qZ ET.val rA)]) => K qW qX qY qZ rA
  | _ => .bad
def U_law15_SubEvicts_16_h30 (x : Option Blk) (K : Int → Int → (List (Ty .step)) → Int → Int → Int → Int → (List (Ty .run)) → Int → Int → Int → (List (Ty .mat)) → Bool → Int → Bool → Tree) : Tree := match x with
  | some (Blk.box 89 [C.d (.sc (.int .i64 rB)), C.d (.sc (.int .i64 rC)), C.d (.sl none false ET.step rD), C.d (.sc (.int .i64 rE)), C.d (.sc (.int .i64 rF)), C.d (.sc (.int .i64 rG)), C.d (.sc (.int .i64 rH)), C.d (.sl none false ET.run rI), C.d (.sc (.int .i64 rJ)), C.d (.sc (.int .i64 rK)), C.d (.sc (.int .i64 rL)), C.d (.sl none false ET.mat qB), C.d (.sc (.bool rM)), C.d (.sc (.int .i64 rN)), C.d (.sc (.bool rO))]) => K rB rC rD rE rF rG rH rI rJ rK rL qB rM rN rO
  | _ => .bad
def U_law15_SubEvicts_16_h43 (x : Option Blk) (K : (List (Ty .step)) → Int → Int → Int → Int → (List (Ty .run)) → Int → Tree) : Tree := match x with
  | some (Blk.box 71 [C.d (.sl none false ET.step rP), C.d (.sc (.int .i64 rQ)), C.d (.sc (.int .i64 rR)), C.d (.sc (.int .i64 rS)), C.d (.sc (.int .i64 rT)), C.d (.sl none false ET.run rU), C.d (.sc (.int .i64 rV))]) => K rP rQ rR rS rT rU rV
  | _ => .bad
def T1_law15_SubEvicts_16 (e3 : V) (e10 : V) (e14 : V) (h0 : Option Blk) (h1 : Option Blk) (h30 : Option Blk) (h43 : Option Blk) : Tree := U_law15_SubEvicts_16_e3 e3 (U_law15_SubEvicts_16_e10 e10 (U_law15_SubEvicts_16_e14 e14 (fun t_14_0 => U_law15_SubEvicts_16_h0 h0 (fun qC qD qE qF qG qH qI qJ qK qL qM qN qO qP qQ qR qS qA qT qU qV => U_law15_SubEvicts_16_h1 h1 (fun qW qX qY qZ rA => U_law15_SubEvicts_16_h30 h30 (fun rB rC rD rE rF rG rH rI rJ rK rL qB rM rN rO => U_law15_SubEvicts_16_h43 h43 (fun rP rQ rR rS rT rU rV => exT (fun j => ex_law15_SubEvicts_16 qC qD qE qF qG qH qI qJ qK qL qM qN qO qP qQ qR qS qA qT qU qV qW qX qY qZ rA rB rC rD rE rF rG rH rI rJ rK rL qB rM rN rO rP rQ rR rS rT rU rV j (S.law15_SubEvicts_16_v qA qB ⟨t_14_0⟩)) (S.law15_SubEvicts_16_j qA qB ⟨t_14_0⟩) [0, 1])))))))
def T_law15_SubEvicts_16 (st : St) : Tree := bif okSt 149 105 0 [0, 1, 30, 43] st then T1_law15_SubEvicts_16 (st.env.getD 3 .any) (st.env.getD 10 .any) (st.env.getD 14 .any) (lk st.heap 0) (lk st.heap 1) (lk st.heap 30) (lk st.heap 43) else .bad
def b_law15_SubEvicts_16 : Code := loopBy Try.f20 16
theorem rnd_law15_SubEvicts_16 (qC : Int) (qD : Int) (qE : Option Bool) (qF : Bool) (qG : List (Ty .step)) (qH : Int) (qI : Int) (qJ : Int) (qK : Int) (qL : Option Bool) (qM : Bool) (qN : List (Ty .run)) (qO : Int) (qP : Int) (qQ : Int) (qR : Option Bool) (qS : Bool) (qA : List (Ty .mat)) (qT : Bool) (qU : Int) (qV : Bool) (qW : ByteArray) (qX : Int) (qY : Option Bool) (qZ : Bool) (rA : List (Ty .val)) (rB : Int) (rC : Int) (rD : List (Ty .step)) (rE : Int) (rF : Int) (rG : Int) (rH : Int) (rI : List (Ty .run)) (rJ : Int) (rK : Int) (rL : Int) (qB : List (Ty .mat)) (rM : Bool) (rN : Int) (rO : Bool) (rP : List (Ty .step)) (rQ : Int) (rR : Int) (rS : Int) (rT : Int) (rU : List (Ty .run)) (rV : Int) (v : S.law15_SubEvicts_16_V) : round2 cx_law15_SubEvicts (hdI cx_law15_SubEvicts (find []) [] none 0) 20 b_law15_SubEvicts_16 [] 105 [6] (mk_law15_SubEvicts_16 qC qD qE qF qG qH qI qJ qK qL qM qN qO qP qQ qR qS qA qT qU qV qW qX qY qZ rA rB rC rD rE rF rG rH rI rJ rK rL qB rM rN rO rP rQ rR rS rT rU rV v) = (S.law15_SubEvicts_16_R qA qB v).go (roundOut (mk_law15_SubEvicts_16 qC qD qE qF qG qH qI qJ qK qL qM qN qO qP qQ qR qS qA qT qU qV qW qX qY qZ rA rB rC rD rE rF rG rH rI rJ rK rL qB rM rN rO rP rQ rR rS rT rU rV) (ex_law15_SubEvicts_16 qC qD qE qF qG qH qI qJ qK qL qM qN qO qP qQ qR qS qA qT qU qV qW qX qY qZ rA rB rC rD rE rF rG rH rI rJ rK rL qB rM rN rO rP rQ rR rS rT rU rV)) := by kernel_rfl
theorem bs_law15_SubEvicts_16 : loopsOf b_law15_SubEvicts_16 ++ loopsInl [] = [] := by kernel_rfl
theorem ci_law15_SubEvicts_16 (qC : Int) (qD : Int) (qE : Option Bool) (qF : Bool) (qG : List (Ty .step)) (qH : Int) (qI : Int) (qJ : Int) (qK : Int) (qL : Option Bool) (qM : Bool) (qN : List (Ty .run)) (qO : Int) (qP : Int) (qQ : Int) (qR : Option Bool) (qS : Bool) (qA : List (Ty .mat)) (qT : Bool) (qU : Int) (qV : Bool) (qW : ByteArray) (qX : Int) (qY : Option Bool) (qZ : Bool) (rA : List (Ty .val)) (rB : Int) (rC : Int) (rD : List (Ty .step)) (rE : Int) (rF : Int) (rG : Int) (rH : Int) (rI : List (Ty .run)) (rJ : Int) (rK : Int) (rL : Int) (qB : List (Ty .mat)) (rM : Bool) (rN : Int) (rO : Bool) (rP : List (Ty .step)) (rQ : Int) (rR : Int) (rS : Int) (rT : Int) (rU : List (Ty .run)) (rV : Int) : ∀ v j v2, Lp (S.law15_SubEvicts_16_r qA qB) v = some (j, v2) → Circles Try.prog cx_law15_SubEvicts b_law15_SubEvicts_16 (mk_law15_SubEvicts_16 qC qD qE qF qG qH qI qJ qK qL qM qN qO qP qQ qR qS qA qT qU qV qW qX qY qZ rA rB rC rD rE rF rG rH rI rJ rK rL qB rM rN rO rP rQ rR rS rT rU rV v) (ex_law15_SubEvicts_16 qC qD qE qF qG qH qI qJ qK qL qM qN qO qP qQ qR qS qA qT qU qV qW qX qY qZ rA rB rC rD rE rF rG rH rI rJ rK rL qB rM rN rO rP rQ rR rS rT rU rV j v2).1 (ex_law15_SubEvicts_16 qC qD qE qF qG qH qI qJ qK qL qM qN qO qP qQ qR qS qA qT qU qV qW qX qY qZ rA rB rC rD rE rF rG rH rI rJ rK rL qB rM rN rO rP rQ rR rS rT rU rV j v2).2 :=
  loop_ok2 (L := find []) (n := 0) (hints := [(20, 16, { keep := [3, 10, 14], acc := [] })]) (cx_ok rfl) rdy_law15_SubEvicts bs_law15_SubEvicts_16 nilB (fun v => (rnd_law15_SubEvicts_16 qC qD qE qF qG qH qI qJ qK qL qM qN qO qP qQ qR qS qA qT qU qV qW qX qY qZ rA rB rC rD rE rF rG rH rI rJ rK rL qB rM rN rO rP rQ rR rS rT rU rV v).trans (DT.go_run _ _)) (by intro j v; unfold ex_law15_SubEvicts_16; split <;> rfl)
theorem mke_law15_SubEvicts_16 (qC : Int) (qD : Int) (qE : Option Bool) (qF : Bool) (qG : List (Ty .step)) (qH : Int) (qI : Int) (qJ : Int) (qK : Int) (qL : Option Bool) (qM : Bool) (qN : List (Ty .run)) (qO : Int) (qP : Int) (qQ : Int) (qR : Option Bool) (qS : Bool) (qA : List (Ty .mat)) (qT : Bool) (qU : Int) (qV : Bool) (qW : ByteArray) (qX : Int) (qY : Option Bool) (qZ : Bool) (rA : List (Ty .val)) (rB : Int) (rC : Int) (rD : List (Ty .step)) (rE : Int) (rF : Int) (rG : Int) (rH : Int) (rI : List (Ty .run)) (rJ : Int) (rK : Int) (rL : Int) (qB : List (Ty .mat)) (rM : Bool) (rN : Int) (rO : Bool) (rP : List (Ty .step)) (rQ : Int) (rR : Int) (rS : Int) (rT : Int) (rU : List (Ty .run)) (rV : Int) (v : S.law15_SubEvicts_16_V) : mk_law15_SubEvicts_16 qC qD qE qF qG qH qI qJ qK qL qM qN qO qP qQ qR qS qA qT qU qV qW qX qY qZ rA rB rC rD rE rF rG rH rI rJ rK rL qB rM rN rO rP rQ rR rS rT rU rV v = ⟨envOf 149 [(3, V.v false [C.ptr 0 0]), (10, V.v false [C.ptr 30 0]), (14, V.v false [C.d (.sc (.int .i64 v.t_14_0))])], heapOf 105 [(0, some
  (Blk.box 89
    [C.d (.sc (.int .i64 qC)), C.d (.sc (.int .i64 qD)), C.d (.sl qE qF ET.step qG), C.d (.sc (.int .i64 qH)),
      C.d (.sc (.int .i64 qI)), C.d (.sc (.int .i64 qJ)), C.d (.sc (.int .i64 qK)), C.d (.sl qL qM ET.run qN),
      C.d (.sc (.int .i64 qO)), C.d (.sc (.int .i64 qP)), C.d (.sc (.int .i64 qQ)), C.d (.sl qR qS ET.mat qA),
      C.d (.sc (.bool qT)), C.d (.sc (.int .i64 qU)), C.d (.sc (.bool qV))])), (1, some (Blk.box 29 [C.d (.sc (.str qW)), C.d (.sc (.int .i64 qX)), C.d (.sl qY qZ ET.val rA)])), (30, some
  (Blk.box 89
    [C.d (.sc (.int .i64 rB)), C.d (.sc (.int .i64 rC)), C.d (.sl none false ET.step rD), C.d (.sc (.int .i64 rE)),
      C.d (.sc (.int .i64 rF)), C.d (.sc (.int .i64 rG)), C.d (.sc (.int .i64 rH)), C.d (.sl none false ET.run rI),
      C.d (.sc (.int .i64 rJ)), C.d (.sc (.int .i64 rK)), C.d (.sc (.int .i64 rL)), C.d (.sl none false ET.mat qB),
      C.d (.sc (.bool rM)), C.d (.sc (.int .i64 rN)), C.d (.sc (.bool rO))])), (43, some
  (Blk.box 71
    [C.d (.sl none false ET.step rP), C.d (.sc (.int .i64 rQ)), C.d (.sc (.int .i64 rR)), C.d (.sc (.int .i64 rS)),
      C.d (.sc (.int .i64 rT)), C.d (.sl none false ET.run rU), C.d (.sc (.int .i64 rV))]))], 0⟩ := by kernel_rfl
theorem Ui_law15_SubEvicts_16_e3 {x : V} {K : Tree} {z : Ex × St} (h : (U_law15_SubEvicts_16_e3 x K).eval = some z) : x = V.v false [C.ptr 0 0] ∧ (K).eval = some z := by
  unfold U_law15_SubEvicts_16_e3 at h
  split at h
  · exact ⟨rfl, h⟩
  · cases h
theorem Ui_law15_SubEvicts_16_e10 {x : V} {K : Tree} {z : Ex × St} (h : (U_law15_SubEvicts_16_e10 x K).eval = some z) : x = V.v false [C.ptr 30 0] ∧ (K).eval = some z := by
  unfold U_law15_SubEvicts_16_e10 at h
  split at h
  · exact ⟨rfl, h⟩
  · cases h
theorem Ui_law15_SubEvicts_16_e14 {x : V} {K : Int → Tree} {z : Ex × St} (h : (U_law15_SubEvicts_16_e14 x K).eval = some z) : ∃ (t_14_0 : Int), x = V.v false [C.d (.sc (.int .i64 t_14_0))] ∧ (K t_14_0).eval = some z := by
  unfold U_law15_SubEvicts_16_e14 at h
  split at h
  · exact ⟨_, rfl, h⟩
  · cases h
theorem Ui_law15_SubEvicts_16_h0 {x : Option Blk} {K : Int → Int → (Option Bool) → Bool → (List (Ty .step)) → Int → Int → Int → Int → (Option Bool) → Bool → (List (Ty .run)) → Int → Int → Int → (Option Bool) → Bool → (List (Ty .mat)) → Bool → Int → Bool → Tree} {z : Ex × St} (h : (U_law15_SubEvicts_16_h0 x K).eval = some z) : ∃ (qC : Int) (qD : Int) (qE : Option Bool) (qF : Bool) (qG : List (Ty .step)) (qH : Int) (qI : Int) (qJ : Int) (qK : Int) (qL : Option Bool) (qM : Bool) (qN : List (Ty .run)) (qO : Int) (qP : Int) (qQ : Int) (qR : Option Bool) (qS : Bool) (qA : List (Ty .mat)) (qT : Bool) (qU : Int) (qV : Bool), x = some (Blk.box 89 [C.d (.sc (.int .i64 qC)), C.d (.sc (.int .i64 qD)), C.d (.sl qE qF ET.step qG), C.d (.sc (.int .i64 qH)), C.d (.sc (.int .i64 qI)), C.d (.sc (.int .i64 qJ)), C.d (.sc (.int .i64 qK)), C.d (.sl qL qM ET.run qN), C.d (.sc (.int .i64 qO)), C.d (.sc (.int .i64 qP)), C.d (.sc (.int .i64 qQ)), C.d (.sl qR qS ET.mat qA), C.d (.sc (.bool qT)), C.d (.sc (.int .i64 qU)), C.d (.sc (.bool qV))]) ∧ (K qC qD qE qF qG qH qI qJ qK qL qM qN qO qP qQ qR qS qA qT qU qV).eval = some z := by
  unfold U_law15_SubEvicts_16_h0 at h
  split at h
  · exact ⟨_, _, _, _, _, _, _, _, _, _, _, _, _, _, _, _, _, _, _, _, _, rfl, h⟩
  · cases h
theorem Ui_law15_SubEvicts_16_h1 {x : Option Blk} {K : ByteArray → Int → (Option Bool) → Bool → (List (Ty .val)) → Tree} {z : Ex × St} (h : (U_law15_SubEvicts_16_h1 x K).eval = some z) : ∃ (qW : ByteArray) (qX : Int) (qY : Option Bool) (qZ : Bool) (rA : List (Ty .val)), x = some (Blk.box 29 [C.d (.sc (.str qW)), C.d (.sc (.int .i64 qX)), C.d (.sl qY qZ ET.val rA)]) ∧ (K qW qX qY qZ rA).eval = some z := by
  unfold U_law15_SubEvicts_16_h1 at h
  split at h
  · exact ⟨_, _, _, _, _, rfl, h⟩
  · cases h
theorem Ui_law15_SubEvicts_16_h30 {x : Option Blk} {K : Int → Int → (List (Ty .step)) → Int → Int → Int → Int → (List (Ty .run)) → Int → Int → Int → (List (Ty .mat)) → Bool → Int → Bool → Tree} {z : Ex × St} (h : (U_law15_SubEvicts_16_h30 x K).eval = some z) : ∃ (rB : Int) (rC : Int) (rD : List (Ty .step)) (rE : Int) (rF : Int) (rG : Int) (rH : Int) (rI : List (Ty .run)) (rJ : Int) (rK : Int) (rL : Int) (qB : List (Ty .mat)) (rM : Bool) (rN : Int) (rO : Bool), x = some (Blk.box 89 [C.d (.sc (.int .i64 rB)), C.d (.sc (.int .i64 rC)), C.d (.sl none false ET.step rD), C.d (.sc (.int .i64 rE)), C.d (.sc (.int .i64 rF)), C.d (.sc (.int .i64 rG)), C.d (.sc (.int .i64 rH)), C.d (.sl none false ET.run rI), C.d (.sc (.int .i64 rJ)), C.d (.sc (.int .i64 rK)), C.d (.sc (.int .i64 rL)), C.d (.sl none false ET.mat qB), C.d (.sc (.bool rM)), C.d (.sc (.int .i64 rN)), C.d (.sc (.bool rO))]) ∧ (K rB rC rD rE rF rG rH rI rJ rK rL qB rM rN rO).eval = some z := by
  unfold U_law15_SubEvicts_16_h30 at h
  split at h
  · exact ⟨_, _, _, _, _, _, _, _, _, _, _, _, _, _, _, rfl, h⟩
  · cases h
theorem Ui_law15_SubEvicts_16_h43 {x : Option Blk} {K : (List (Ty .step)) → Int → Int → Int → Int → (List (Ty .run)) → Int → Tree} {z : Ex × St} (h : (U_law15_SubEvicts_16_h43 x K).eval = some z) : ∃ (rP : List (Ty .step)) (rQ : Int) (rR : Int) (rS : Int) (rT : Int) (rU : List (Ty .run)) (rV : Int), x = some (Blk.box 71 [C.d (.sl none false ET.step rP), C.d (.sc (.int .i64 rQ)), C.d (.sc (.int .i64 rR)), C.d (.sc (.int .i64 rS)), C.d (.sc (.int .i64 rT)), C.d (.sl none false ET.run rU), C.d (.sc (.int .i64 rV))]) ∧ (K rP rQ rR rS rT rU rV).eval = some z := by
  unfold U_law15_SubEvicts_16_h43 at h
  split at h
  · exact ⟨_, _, _, _, _, _, _, rfl, h⟩
  · cases h
theorem lo1_law15_SubEvicts_16 (e3 : V) (e10 : V) (e14 : V) (h0 : Option Blk) (h1 : Option Blk) (h30 : Option Blk) (h43 : Option Blk) e st2 (h : (T1_law15_SubEvicts_16 e3 e10 e14 h0 h1 h30 h43).eval = some (e, st2)) : Circles Try.prog cx_law15_SubEvicts b_law15_SubEvicts_16 ⟨envOf 149 [(3, e3), (10, e10), (14, e14)], heapOf 105 [(0, h0), (1, h1), (30, h30), (43, h43)], 0⟩ e st2 := by
  unfold T1_law15_SubEvicts_16 at h
  obtain ⟨rfl, h⟩ := Ui_law15_SubEvicts_16_e3 h
  obtain ⟨rfl, h⟩ := Ui_law15_SubEvicts_16_e10 h
  obtain ⟨t_14_0, rfl, h⟩ := Ui_law15_SubEvicts_16_e14 h
  obtain ⟨qC, qD, qE, qF, qG, qH, qI, qJ, qK, qL, qM, qN, qO, qP, qQ, qR, qS, qA, qT, qU, qV, rfl, h⟩ := Ui_law15_SubEvicts_16_h0 h
  obtain ⟨qW, qX, qY, qZ, rA, rfl, h⟩ := Ui_law15_SubEvicts_16_h1 h
  obtain ⟨rB, rC, rD, rE, rF, rG, rH, rI, rJ, rK, rL, qB, rM, rN, rO, rfl, h⟩ := Ui_law15_SubEvicts_16_h30 h
  obtain ⟨rP, rQ, rR, rS, rT, rU, rV, rfl, h⟩ := Ui_law15_SubEvicts_16_h43 h
  have := loop_tree (mk := mk_law15_SubEvicts_16 qC qD qE qF qG qH qI qJ qK qL qM qN qO qP qQ qR qS qA qT qU qV qW qX qY qZ rA rB rC rD rE rF rG rH rI rJ rK rL qB rM rN rO rP rQ rR rS rT rU rV) (ci_law15_SubEvicts_16 qC qD qE qF qG qH qI qJ qK qL qM qN qO qP qQ qR qS qA qT qU qV qW qX qY qZ rA rB rC rD rE rF rG rH rI rJ rK rL qB rM rN rO rP rQ rR rS rT rU rV) _ _ e st2 h
  rw [mke_law15_SubEvicts_16] at this
  exact this
theorem lok_law15_SubEvicts_16 : LoopOk Try.prog cx_law15_SubEvicts b_law15_SubEvicts_16 T_law15_SubEvicts_16 := by
  intro st e st2 h
  unfold T_law15_SubEvicts_16 at h
  cases hk : okSt 149 105 0 [0, 1, 30, 43] st with
  | false => rw [hk] at h; cases h
  | true =>
    rw [hk] at h
    exact circles_keep (ks := [3, 10, 14]) hk (lo1_law15_SubEvicts_16 _ _ _ _ _ _ _ e st2 h)
structure S.law15_SubEvicts_T where
  x0 : Bool
  deriving Inhabited
def S.law15_SubEvicts_R (a0_0 : Int) (a0_1 : Int) (a0_2 : List (Ty .step)) (a0_3 : Int) (a0_4 : Int) (a0_5 : Int) (a0_6 : Int) (a0_7 : List (Ty .run)) (a0_8 : Int) (a0_9 : Int) (a0_10 : Int) (a0_11 : List (Ty .mat)) (a0_12 : Bool) (a0_13 : Int) (a0_14 : Bool) (a1_0 : ByteArray) (a1_1 : Int) (a1_2 : List (Ty .val)) (a2 : Int) : DT S.law15_SubEvicts_T :=
let y0 : S.sub_Feed_T := S.sub_Feed_o a0_0 a0_1 a0_2 a0_3 a0_4 a0_5 a0_6 a0_7 a0_8 a0_9 a0_10 a0_11 a0_12 a0_13 a0_14 a1_0 a1_1 a1_2 a2
let y1 : Int := y0.x0
let y2 : Int := y0.x1
let y3 : List (Ty .step) := y0.x2
let y4 : Int := y0.x3
let y5 : Int := y0.x4
let y6 : Int := y0.x5
let y7 : Int := y0.x6
let y8 : List (Ty .run) := y0.x7
let y9 : Int := y0.x8
let y10 : Int := y0.x9
let y11 : Int := y0.x10
let y12 : List (Ty .mat) := y0.x11
let y13 : Bool := y0.x12
let y14 : Int := y0.x13
let y15 : Bool := y0.x14
let y16 : Int := (↑a0_11.length : Int)
let y17 : Int := (↑(S.match_Feed_o a0_2 a0_3 a0_4 a0_5 a0_6 a0_7 a0_8 a1_0 a1_1 a1_2 a2).x7.length : Int)
let y18 : Int := xwrap IntKind.i64 (y16 + y17)
let y19 : Bool := xneI y14 2
let y20 : Int := (↑y12.length : Int)
let y21 : Bool := xeqI y20 y18
let y22 : Bool := xdec ((↑y8.length : Int) > 0)
let y23 : Bool := xneI (xwrap IntKind.i64 (y10 + y20)) y11
let y24 : Bool := xneI y11 a0_10
let y25 : S.law15_SubEvicts_16_V := { t_14_0 := 0 : S.law15_SubEvicts_16_V }
let y26 : Bool := S.law15_SubEvicts_16_j a0_11 y12 y25 0
let y27 : Bool := S.law15_SubEvicts_16_j a0_11 y12 y25 1
(.br (S.law15_awake_is)
(.br (S.law15_Few_is a0_2 a0_7 a0_11)
(.br (S.law06_Few_is a1_0 a1_2)
(.br (xnot S.law15_awake_o.x0)
(.leaf ⟨S.law15_awake_o.x0⟩)
(.br (xnot (S.law15_Few_o a0_2 a0_7 a0_11).x0)
(.leaf ⟨S.law15_awake_o.x0⟩)
(.br (xnot (S.law06_Few_o a1_0 a1_2).x0)
(.leaf ⟨S.law15_awake_o.x0⟩)
(.br (S.sub_May_is a0_0 a0_1 a0_2 a0_7 a0_8 a0_9 a0_10 a0_11 a0_13 a0_14)
(.br (xnot (S.sub_May_o a0_0 a0_1 a0_2 a0_7 a0_8 a0_9 a0_10 a0_11 a0_13 a0_14).x0)
(.leaf ⟨S.law15_awake_o.x0⟩)
(.br (S.sub_Feed_is a0_0 a0_1 a0_2 a0_3 a0_4 a0_5 a0_6 a0_7 a0_8 a0_9 a0_10 a0_11 a0_12 a0_13 a0_14 a1_0 a1_1 a1_2 a2)
(.br (xneI a0_13 0)
(.br (S.sub_Same_is a0_0 a0_1 a0_2 a0_3 a0_4 a0_5 a0_6 a0_7 a0_8 a0_9 a0_10 a0_11 a0_12 a0_13 a0_14 y1 y2 y3 y4 y5 y6 y7 y8 y9 y10 y11 y12 y13 y14 y15)
(.leaf ⟨(S.sub_Same_o a0_0 a0_1 a0_2 a0_3 a0_4 a0_5 a0_6 a0_7 a0_8 a0_9 a0_10 a0_11 a0_12 a0_13 a0_14 y1 y2 y3 y4 y5 y6 y7 y8 y9 y10 y11 y12 y13 y14 y15).x0⟩)
.fail)
(.br (S.match_Feed_is a0_2 a0_3 a0_4 a0_5 a0_6 a0_7 a0_8 a1_0 a1_1 a1_2 a2)
(.br (xdec (y18 > 6))
(.br (xnot true)
(.br (y19)
(.leaf ⟨y21⟩)
(.leaf ⟨false⟩))
(.br (y19)
(.leaf ⟨false⟩)
(.br (y22)
(.leaf ⟨false⟩)
(.br (y23)
(.leaf ⟨false⟩)
(.br (y24)
(.leaf ⟨false⟩)
(.br (y26)
(.leaf ⟨false⟩)
(.br (y27)
(.leaf ⟨true⟩)
.fail)))))))
(.br (xnot (xdec (xwrap IntKind.i64 (xwrap IntKind.i64 (a0_9 + y16) + y17) > 1099511627776)))
(.br (y19)
(.leaf ⟨y21⟩)
(.leaf ⟨false⟩))
(.br (y19)
(.leaf ⟨false⟩)
(.br (y22)
(.leaf ⟨false⟩)
(.br (y23)
(.leaf ⟨false⟩)
(.br (y24)
(.leaf ⟨false⟩)
(.br (y26)
(.leaf ⟨false⟩)
(.br (y27)
(.leaf ⟨true⟩)
.fail))))))))
.fail))
.fail))
.fail))))
.fail)
.fail)
.fail)
def S.law15_SubEvicts (a0_0 : Int) (a0_1 : Int) (a0_2 : List (Ty .step)) (a0_3 : Int) (a0_4 : Int) (a0_5 : Int) (a0_6 : Int) (a0_7 : List (Ty .run)) (a0_8 : Int) (a0_9 : Int) (a0_10 : Int) (a0_11 : List (Ty .mat)) (a0_12 : Bool) (a0_13 : Int) (a0_14 : Bool) (a1_0 : ByteArray) (a1_1 : Int) (a1_2 : List (Ty .val)) (a2 : Int) : Option S.law15_SubEvicts_T := (S.law15_SubEvicts_R a0_0 a0_1 a0_2 a0_3 a0_4 a0_5 a0_6 a0_7 a0_8 a0_9 a0_10 a0_11 a0_12 a0_13 a0_14 a1_0 a1_1 a1_2 a2).run
def S.law15_SubEvicts_is (a0_0 : Int) (a0_1 : Int) (a0_2 : List (Ty .step)) (a0_3 : Int) (a0_4 : Int) (a0_5 : Int) (a0_6 : Int) (a0_7 : List (Ty .run)) (a0_8 : Int) (a0_9 : Int) (a0_10 : Int) (a0_11 : List (Ty .mat)) (a0_12 : Bool) (a0_13 : Int) (a0_14 : Bool) (a1_0 : ByteArray) (a1_1 : Int) (a1_2 : List (Ty .val)) (a2 : Int) : Bool := (S.law15_SubEvicts a0_0 a0_1 a0_2 a0_3 a0_4 a0_5 a0_6 a0_7 a0_8 a0_9 a0_10 a0_11 a0_12 a0_13 a0_14 a1_0 a1_1 a1_2 a2).isSome
def S.law15_SubEvicts_o (a0_0 : Int) (a0_1 : Int) (a0_2 : List (Ty .step)) (a0_3 : Int) (a0_4 : Int) (a0_5 : Int) (a0_6 : Int) (a0_7 : List (Ty .run)) (a0_8 : Int) (a0_9 : Int) (a0_10 : Int) (a0_11 : List (Ty .mat)) (a0_12 : Bool) (a0_13 : Int) (a0_14 : Bool) (a1_0 : ByteArray) (a1_1 : Int) (a1_2 : List (Ty .val)) (a2 : Int) : S.law15_SubEvicts_T := (S.law15_SubEvicts a0_0 a0_1 a0_2 a0_3 a0_4 a0_5 a0_6 a0_7 a0_8 a0_9 a0_10 a0_11 a0_12 a0_13 a0_14 a1_0 a1_1 a1_2 a2).getD default
def ret_law15_SubEvicts (b : Bool) (r : S.law15_SubEvicts_T) : Ret := ⟨b, none, [(false, [C.d (.sc (.bool r.x0))])]⟩
def g_law15_SubEvicts : Con
  | [(true, [.sc (.int .i64 a0_0), .sc (.int .i64 a0_1), .sl a0_2n a0_2f .step a0_2, .sc (.int .i64 a0_3), .sc (.int .i64 a0_4), .sc (.int .i64 a0_5), .sc (.int .i64 a0_6), .sl a0_7n a0_7f .run a0_7, .sc (.int .i64 a0_8), .sc (.int .i64 a0_9), .sc (.int .i64 a0_10), .sl a0_11n a0_11f .mat a0_11, .sc (.bool a0_12), .sc (.int .i64 a0_13), .sc (.bool a0_14)]), (true, [.sc (.str a1_0), .sc (.int .i64 a1_1), .sl a1_2n a1_2f .val a1_2]), (false, [.sc (.int .i64 a2)])] => some (ret_law15_SubEvicts (S.law15_SubEvicts_is a0_0 a0_1 a0_2 a0_3 a0_4 a0_5 a0_6 a0_7 a0_8 a0_9 a0_10 a0_11 a0_12 a0_13 a0_14 a1_0 a1_1 a1_2 a2) (S.law15_SubEvicts_o a0_0 a0_1 a0_2 a0_3 a0_4 a0_5 a0_6 a0_7 a0_8 a0_9 a0_10 a0_11 a0_12 a0_13 a0_14 a1_0 a1_1 a1_2 a2))
  | _ => none
theorem raw_law15_SubEvicts (a0_0 : Int) (a0_1 : Int) (a0_2n : Option Bool) (a0_2f : Bool) (a0_2 : List (Ty .step)) (a0_3 : Int) (a0_4 : Int) (a0_5 : Int) (a0_6 : Int) (a0_7n : Option Bool) (a0_7f : Bool) (a0_7 : List (Ty .run)) (a0_8 : Int) (a0_9 : Int) (a0_10 : Int) (a0_11n : Option Bool) (a0_11f : Bool) (a0_11 : List (Ty .mat)) (a0_12 : Bool) (a0_13 : Int) (a0_14 : Bool) (a1_0 : ByteArray) (a1_1 : Int) (a1_2n : Option Bool) (a1_2f : Bool) (a1_2 : List (Ty .val)) (a2 : Int) : evR2 cx_law15_SubEvicts (hdI cx_law15_SubEvicts (find [(16, T_law15_SubEvicts_16)]) [] none 0) none Try.f20 20 none [(true, [.sc (.int .i64 a0_0), .sc (.int .i64 a0_1), .sl a0_2n a0_2f .step a0_2, .sc (.int .i64 a0_3), .sc (.int .i64 a0_4), .sc (.int .i64 a0_5), .sc (.int .i64 a0_6), .sl a0_7n a0_7f .run a0_7, .sc (.int .i64 a0_8), .sc (.int .i64 a0_9), .sc (.int .i64 a0_10), .sl a0_11n a0_11f .mat a0_11, .sc (.bool a0_12), .sc (.int .i64 a0_13), .sc (.bool a0_14)]), (true, [.sc (.str a1_0), .sc (.int .i64 a1_1), .sl a1_2n a1_2f .val a1_2]), (false, [.sc (.int .i64 a2)])] some = (S.law15_SubEvicts_R a0_0 a0_1 a0_2 a0_3 a0_4 a0_5 a0_6 a0_7 a0_8 a0_9 a0_10 a0_11 a0_12 a0_13 a0_14 a1_0 a1_1 a1_2 a2).go (ret_law15_SubEvicts true) := by kernel_rfl
theorem bs_law15_SubEvicts : loopsIn Try.f20 [] = [b_law15_SubEvicts_16] := by kernel_rfl
theorem law15_SubEvicts_ok : Stands Try.prog tyTab 20 g_law15_SubEvicts := by
  refine stands3 (L := find [(16, T_law15_SubEvicts_16)]) (n := 0) (hints := [(20, 16, { keep := [3, 10, 14], acc := [] })]) (cx_ok rfl) rdy_law15_SubEvicts ⟨by kernel_rfl, by kernel_rfl, by kernel_rfl⟩ bs_law15_SubEvicts (consB (fun T h => by have e : T_law15_SubEvicts_16 = T := Option.some.inj (show some T_law15_SubEvicts_16 = some T from h); exact e ▸ lok_law15_SubEvicts_16) nilB) (fun das r hG hr => ?_)
  unfold g_law15_SubEvicts at hG
  split at hG
  · rename_i a0_0 a0_1 a0_2n a0_2f a0_2 a0_3 a0_4 a0_5 a0_6 a0_7n a0_7f a0_7 a0_8 a0_9 a0_10 a0_11n a0_11f a0_11 a0_12 a0_13 a0_14 a1_0 a1_1 a1_2n a1_2f a1_2 a2
    injection hG with hG; subst hG
    exact ⟨none, true, win default ((raw_law15_SubEvicts a0_0 a0_1 a0_2n a0_2f a0_2 a0_3 a0_4 a0_5 a0_6 a0_7n a0_7f a0_7 a0_8 a0_9 a0_10 a0_11n a0_11f a0_11 a0_12 a0_13 a0_14 a1_0 a1_1 a1_2n a1_2f a1_2 a2).trans (DT.go_run _ _)) hr⟩
  · cases hG
end
end Go.Eng
