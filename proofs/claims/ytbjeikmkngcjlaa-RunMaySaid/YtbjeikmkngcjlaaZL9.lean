/- Contracts, laid by program. -/
import Derived.Test.YtbjeikmkngcjlaaZG9
import Derived.Test.YtbjeikmkngcjlaaZE3
set_option maxHeartbeats 2000000
set_option maxRecDepth 10000
set_option linter.unusedVariables false
set_option linter.unusedSimpArgs false
namespace Go.Eng
noncomputable section
open Go Go.Eng Go.Proofs Go.Eng.Tab
abbrev cx_law11_RunMay : Cx := mkCx3 tyTab [(36, g_law06_Few), (49, g_law11_awake), (50, g_law09_Few), (51, g_ref09_May), (52, g_run_Begin), (53, g_run_May), (54, g_run_Next)] [] [] [] [] []
theorem rdy_law11_RunMay : Ready Try.prog tyTab [(36, g_law06_Few), (49, g_law11_awake), (50, g_law09_Few), (51, g_ref09_May), (52, g_run_Begin), (53, g_run_May), (54, g_run_Next)] [] [] := ⟨consG2 law06_Few_ok (consG2 law11_awake_ok (consG2 law09_Few_ok (consG2 ref09_May_ok (consG2 run_Begin_ok (consG2 run_May_ok (consG2 run_Next_ok (noneG2))))))), noneI2, noneF2⟩
theorem prs_law11_RunMay : PrsOk Try.prog tyTab [] := noneP
def b_law11_RunMay_c10 : Code := tailOf 10 (bodyOf Try.f9)
def b_law11_RunMay_c17 : Code := tailOf 17 b_law11_RunMay_c10
structure S.law11_RunMay_c17_T where
  x0 : Bool
  deriving Inhabited
def S.law11_RunMay_c17_R (qA : Int) (qB : List (Ty .step)) (qC : Int) (qD : Int) (qE : Int) : DT S.law11_RunMay_c17_T :=
let y0 : Int := (↑qB.length : Int)
let y1 : Bool := xeqI qA 0
let y2 : Bool := S.run_May_is qB qC qD qE
let y3 : Bool := (S.run_May_o qB qC qD qE).x0
(.br (xeqI qA 2)
(.br (xeqI qC (xwrap IntKind.i64 (y0 - 1)))
(.br (xdec (0 ≤ qC) && xdec (qC < y0))
(.br (xeqI qD (qB.getD qC.toNat (dflt ET.step)).min)
(.leaf ⟨true⟩)
(.br (y1)
(.br (y2)
(.leaf ⟨y3⟩)
.fail)
(.leaf ⟨false⟩)))
.fail)
(.br (y1)
(.br (y2)
(.leaf ⟨y3⟩)
.fail)
(.leaf ⟨false⟩)))
(.br (y1)
(.br (y2)
(.leaf ⟨y3⟩)
.fail)
(.leaf ⟨false⟩)))
def S.law11_RunMay_c17 (qA : Int) (qB : List (Ty .step)) (qC : Int) (qD : Int) (qE : Int) : Option S.law11_RunMay_c17_T := (S.law11_RunMay_c17_R qA qB qC qD qE).run
def S.law11_RunMay_c17_is (qA : Int) (qB : List (Ty .step)) (qC : Int) (qD : Int) (qE : Int) : Bool := (S.law11_RunMay_c17 qA qB qC qD qE).isSome
def S.law11_RunMay_c17_o (qA : Int) (qB : List (Ty .step)) (qC : Int) (qD : Int) (qE : Int) : S.law11_RunMay_c17_T := (S.law11_RunMay_c17 qA qB qC qD qE).getD default
def mk_law11_RunMay_c17 (qA : Int) (qF : Option Bool) (qG : Bool) (qB : List (Ty .step)) (qH : Int) (qI : Int) (qJ : Int) (qK : Int) (qL : Int) (qM : Int) (qN : Int) (qO : Int) (qP : Int) (qQ : Int) (qR : Bool) (qS : ByteArray) (qT : Int) (qU : Option Bool) (qV : Bool) (qW : List (Ty .val)) (qX : Int) (qY : Int) (qZ : Int) (rA : Int) (rB : Int) (rC : Int) (rD : Bool) (rE : Int) (rF : Int) (qC : Int) (qD : Int) (qE : Int) (rG : Int) (rH : Bool) : St := ⟨[V.any, V.any, V.any, V.any, V.v false [C.ptr 0 0], V.any, V.any, V.any, V.any, V.any, V.any, V.any, V.any, V.any, V.any, V.v false [C.ptr 90 0],
  V.v false [C.d (.sc (.int .i64 qA))], V.any, V.any, V.any, V.any, V.any, V.any, V.any, V.any, V.any, V.any, V.any, V.any, V.any, V.any, V.any, V.any, V.any, V.any,
  V.any, V.any, V.any, V.any, V.any, V.any, V.any, V.any, V.any, V.any, V.any, V.any, V.any, V.any, V.any, V.any, V.any, V.any, V.any, V.any, V.any, V.any, V.any, V.any, V.any,
  V.any, V.any, V.any, V.any, V.any, V.any, V.any, V.any, V.any, V.any, V.any, V.any, V.any, V.any, V.any, V.any, V.any, V.any, V.any, V.any, V.any, V.any, V.any, V.any, V.any,
  V.any, V.any, V.any, V.any, V.any, V.any, V.any, V.any, V.any, V.any, V.any, V.any, V.any, V.any, V.any, V.any, V.any, V.any, V.any, V.any, V.any, V.any, V.any, V.any, V.any,
  V.any, V.any, V.any, V.any, V.any, V.any, V.any, V.any, V.any, V.any, V.any, V.any, V.any, V.any, V.any, V.any, V.any, V.any, V.any, V.any, V.any, V.any, V.any, V.any, V.any,
  V.any, V.any, V.any, V.any, V.any, V.any, V.any, V.any, V.any, V.any, V.any, V.any, V.any, V.any, V.any, V.any, V.any, V.any, V.any, V.any, V.any, V.any, V.any, V.any, V.any,
  V.any, V.any, V.any, V.any, V.any, V.any, V.any, V.any, V.any, V.any, V.any, V.any, V.any, V.any, V.any, V.any, V.any, V.any, V.any, V.any, V.any, V.any, V.any, V.any, V.any,
  V.any, V.any, V.any, V.any, V.any, V.any, V.any, V.any, V.any, V.any], [some
    (Blk.box 45
      [C.d (.sl qF qG ET.step qB), C.d (.sc (.int .i64 qH)), C.d (.sc (.int .i64 qI)), C.d (.sc (.int .i64 qJ)),
        C.d (.sc (.int .i64 qK))]),
  some
    (Blk.box 55
      [C.d (.sc (.int .i64 qL)), C.d (.sc (.int .i64 qM)), C.d (.sc (.int .i64 qN)), C.d (.sc (.int .i64 qO)),
        C.d (.sc (.int .i64 qP)), C.d (.sc (.int .i64 qQ)), C.d (.sc (.bool qR))]),
  some (Blk.box 29 [C.d (.sc (.str qS)), C.d (.sc (.int .i64 qT)), C.d (.sl qU qV ET.val qW)]), none, none, none, none, none, none, none, none, none,
  none, none, none, none, none, none, none, none, none, none, none, none, none, none, none, none, none, none, none, none, none, none, none, none,
  some
    (Blk.box 55
      [C.d (.sc (.int .i64 qX)), C.d (.sc (.int .i64 qY)), C.d (.sc (.int .i64 qZ)), C.d (.sc (.int .i64 rA)),
        C.d (.sc (.int .i64 rB)), C.d (.sc (.int .i64 rC)), C.d (.sc (.bool rD))]),
  none, none, none, none, none, none, none, none, none, none, none, none, none, none, none, none, none, none, none, none, none, none, none, none, none, none, none, none, none,
  none, none, none, none, none, none, none, none, none, none, none, none, none, none, none, none, none, none, none, none, none, none, none, none,
  some
    (Blk.box 55
      [C.d (.sc (.int .i64 rE)), C.d (.sc (.int .i64 rF)), C.d (.sc (.int .i64 qC)), C.d (.sc (.int .i64 qD)),
        C.d (.sc (.int .i64 qE)), C.d (.sc (.int .i64 rG)), C.d (.sc (.bool rH))]),
  none, none, none, none, none, none, none, none, none, none, none, none, none, none, none, none, none, none, none, none, none, none, none, none, none, none, none, none, none,
  none, none, none, none, none, none, none, none, none, none, none, none, none, none, none, none, none, none, none, none, none, none, none, none, none, none, none, none, none,
  none, none, none, none, none, none, none], 0⟩
def out_law11_RunMay_c17 (r : S.law11_RunMay_c17_T) : St := ⟨[V.any, V.any, V.any, V.any, V.any, V.any, V.any, V.any, V.v false [C.d (.sc (.bool r.x0))], V.any, V.any, V.any, V.any, V.any, V.any, V.any, V.any, V.any, V.any, V.any, V.any,
  V.any, V.any, V.any, V.any, V.any, V.any, V.any, V.any, V.any, V.any, V.any, V.any, V.any, V.any, V.any, V.any, V.any, V.any, V.any, V.any, V.any, V.any, V.any, V.any, V.any,
  V.any, V.any, V.any, V.any, V.any, V.any, V.any, V.any, V.any, V.any, V.any, V.any, V.any, V.any, V.any, V.any, V.any, V.any, V.any, V.any, V.any, V.any, V.any, V.any, V.any,
  V.any, V.any, V.any, V.any, V.any, V.any, V.any, V.any, V.any, V.any, V.any, V.any, V.any, V.any, V.any, V.any, V.any, V.any, V.any, V.any, V.any, V.any, V.any, V.any, V.any,
  V.any, V.any, V.any, V.any, V.any, V.any, V.any, V.any, V.any, V.any, V.any, V.any, V.any, V.any, V.any, V.any, V.any, V.any, V.any, V.any, V.any, V.any, V.any, V.any, V.any,
  V.any, V.any, V.any, V.any, V.any, V.any, V.any, V.any, V.any, V.any, V.any, V.any, V.any, V.any, V.any, V.any, V.any, V.any, V.any, V.any, V.any, V.any, V.any, V.any, V.any,
  V.any, V.any, V.any, V.any, V.any, V.any, V.any, V.any, V.any, V.any, V.any, V.any, V.any, V.any, V.any, V.any, V.any, V.any, V.any, V.any, V.any, V.any, V.any, V.any, V.any,
  V.any, V.any, V.any, V.any, V.any, V.any, V.any, V.any, V.any, V.any, V.any, V.any, V.any, V.any, V.any, V.any, V.any, V.any, V.any, V.any, V.any, V.any, V.any, V.any], [], 0⟩
def U_law11_RunMay_c17_e4 (x : V) (K : Tree) : Tree := match x with
  | V.v false [C.ptr 0 0] => K
  | _ => .bad
def U_law11_RunMay_c17_e15 (x : V) (K : Tree) : Tree := match x with
  | V.v false [C.ptr 90 0] => K
  | _ => .bad
def U_law11_RunMay_c17_e16 (x : V) (K : Int → Tree) : Tree := match x with
  | V.v false [C.d (.sc (.int .i64 qA))] => K qA
  | _ => .bad
def U_law11_RunMay_c17_h0 (x : Option Blk) (K : (Option Bool) → Bool → (List (Ty .step)) → Int → Int → Int → Int → Tree) : Tree := match x with
  | some (Blk.box 45 [C.d (.sl qF qG ET.step qB), C.d (.sc (.int .i64 qH)), C.d (.sc (.int .i64 qI)), C.d (.sc (.int .i64 qJ)), C.d (.sc (.int .i64 qK))]) => K qF qG qB qH qI qJ qK
  | _ => .bad
def U_law11_RunMay_c17_h1 (x : Option Blk) (K : Int → Int → Int → Int → Int → Int → Bool → Tree) : Tree := match x with
  | some (Blk.box 55 [C.d (.sc (.int .i64 qL)), C.d (.sc (.int .i64 qM)), C.d (.sc (.int .i64 qN)), C.d (.sc (.int .i64 qO)), C.d (.sc (.int .i64 qP)), C.d (.sc (.int .i64 qQ)), C.d (.sc (.bool qR))]) => K qL qM qN qO qP qQ qR
  | _ => .bad
def U_law11_RunMay_c17_h2 (x : Option Blk) (K : ByteArray → Int → (Option Bool) → Bool → (List (Ty .val)) → Tree) : Tree := match x with
  | some (Blk.box 29 [C.d (.sc (.str qS)), C.d (.sc (.int .i64 qT)), C.d (.sl qU qV ET.val qW)]) => K qS qT qU qV qW
  | _ => .bad
def U_law11_RunMay_c17_h36 (x : Option Blk) (K : Int → Int → Int → Int → Int → Int → Bool → Tree) : Tree := match x with
  | some (Blk.box 55 [C.d (.sc (.int .i64 qX)), C.d (.sc (.int .i64 qY)), C.d (.sc (.int .i64 qZ)), C.d (.sc (.int .i64 rA)), C.d (.sc (.int .i64 rB)), C.d (.sc (.int .i64 rC)), C.d (.sc (.bool rD))]) => K qX qY qZ rA rB rC rD
  | _ => .bad
def U_law11_RunMay_c17_h90 (x : Option Blk) (K : Int → Int → Int → Int → Int → Int → Bool → Tree) : Tree := match x with
  | some (Blk.box 55 [C.d (.sc (.int .i64 rE)), C.d (.sc (.int .i64 rF)), C.d (.sc (.int .i64 qC)), C.d (.sc (.int .i64 qD)), C.d (.sc (.int .i64 qE)), C.d (.sc (.int .i64 rG)), C.d (.sc (.bool rH))]) => K rE rF qC qD qE rG rH
  | _ => .bad
def T1_law11_RunMay_c17 (e4 : V) (e15 : V) (e16 : V) (h0 : Option Blk) (h1 : Option Blk) (h2 : Option Blk) (h36 : Option Blk) (h90 : Option Blk) : Tree := U_law11_RunMay_c17_e4 e4 (U_law11_RunMay_c17_e15 e15 (U_law11_RunMay_c17_e16 e16 (fun qA => U_law11_RunMay_c17_h0 h0 (fun qF qG qB qH qI qJ qK => U_law11_RunMay_c17_h1 h1 (fun qL qM qN qO qP qQ qR => U_law11_RunMay_c17_h2 h2 (fun qS qT qU qV qW => U_law11_RunMay_c17_h36 h36 (fun qX qY qZ rA rB rC rD => U_law11_RunMay_c17_h90 h90 (fun rE rF qC qD qE rG rH => .br (S.law11_RunMay_c17_is qA qB qC qD qE) (.leaf Ex.ret (out_law11_RunMay_c17 (S.law11_RunMay_c17_o qA qB qC qD qE))) .bad))))))))
def T_law11_RunMay_c17 (st : St) : Tree := bif okSt 195 156 0 [0, 1, 2, 36, 90] st then T1_law11_RunMay_c17 (st.env.getD 4 .any) (st.env.getD 15 .any) (st.env.getD 16 .any) (lk st.heap 0) (lk st.heap 1) (lk st.heap 2) (lk st.heap 36) (lk st.heap 90) else .bad
theorem rnd_law11_RunMay_c17 (qA : Int) (qF : Option Bool) (qG : Bool) (qB : List (Ty .step)) (qH : Int) (qI : Int) (qJ : Int) (qK : Int) (qL : Int) (qM : Int) (qN : Int) (qO : Int) (qP : Int) (qQ : Int) (qR : Bool) (qS : ByteArray) (qT : Int) (qU : Option Bool) (qV : Bool) (qW : List (Ty .val)) (qX : Int) (qY : Int) (qZ : Int) (rA : Int) (rB : Int) (rC : Int) (rD : Bool) (rE : Int) (rF : Int) (qC : Int) (qD : Int) (qE : Int) (rG : Int) (rH : Bool) : tail2 cx_law11_RunMay (hdI cx_law11_RunMay (find []) [] none 0) (find []) 9 ⟨999999, [], 0⟩ b_law11_RunMay_c17 [8] (mk_law11_RunMay_c17 qA qF qG qB qH qI qJ qK qL qM qN qO qP qQ qR qS qT qU qV qW qX qY qZ rA rB rC rD rE rF qC qD qE rG rH) = (S.law11_RunMay_c17_R qA qB qC qD qE).go (fun r => (Ex.ret, out_law11_RunMay_c17 r)) := by kernel_rfl
theorem bs_law11_RunMay_c17 : loopsOf b_law11_RunMay_c17 ++ loopsInl [] = [] := by kernel_rfl
theorem ci_law11_RunMay_c17 (qA : Int) (qF : Option Bool) (qG : Bool) (qB : List (Ty .step)) (qH : Int) (qI : Int) (qJ : Int) (qK : Int) (qL : Int) (qM : Int) (qN : Int) (qO : Int) (qP : Int) (qQ : Int) (qR : Bool) (qS : ByteArray) (qT : Int) (qU : Option Bool) (qV : Bool) (qW : List (Ty .val)) (qX : Int) (qY : Int) (qZ : Int) (rA : Int) (rB : Int) (rC : Int) (rD : Bool) (rE : Int) (rF : Int) (qC : Int) (qD : Int) (qE : Int) (rG : Int) (rH : Bool) : ∀ x, S.law11_RunMay_c17 qA qB qC qD qE = some x → Lands Try.prog cx_law11_RunMay false b_law11_RunMay_c17 (mk_law11_RunMay_c17 qA qF qG qB qH qI qJ qK qL qM qN qO qP qQ qR qS qT qU qV qW qX qY qZ rA rB rC rD rE rF qC qD qE rG rH) Ex.ret (out_law11_RunMay_c17 x) :=
  cut_ok (q := ⟨999999, [], 0⟩) (L := find []) (n := 0) (hints := []) (cx_ok rfl) rdy_law11_RunMay prs_law11_RunMay bs_law11_RunMay_c17 nilB (fun T h => by have e : (none : Option (St → Tree)) = some T := h; cases e) (rnd_law11_RunMay_c17 qA qF qG qB qH qI qJ qK qL qM qN qO qP qQ qR qS qT qU qV qW qX qY qZ rA rB rC rD rE rF qC qD qE rG rH)
theorem mke_law11_RunMay_c17 (qA : Int) (qF : Option Bool) (qG : Bool) (qB : List (Ty .step)) (qH : Int) (qI : Int) (qJ : Int) (qK : Int) (qL : Int) (qM : Int) (qN : Int) (qO : Int) (qP : Int) (qQ : Int) (qR : Bool) (qS : ByteArray) (qT : Int) (qU : Option Bool) (qV : Bool) (qW : List (Ty .val)) (qX : Int) (qY : Int) (qZ : Int) (rA : Int) (rB : Int) (rC : Int) (rD : Bool) (rE : Int) (rF : Int) (qC : Int) (qD : Int) (qE : Int) (rG : Int) (rH : Bool) : mk_law11_RunMay_c17 qA qF qG qB qH qI qJ qK qL qM qN qO qP qQ qR qS qT qU qV qW qX qY qZ rA rB rC rD rE rF qC qD qE rG rH = ⟨envOf 195 [(4, V.v false [C.ptr 0 0]), (15, V.v false [C.ptr 90 0]), (16, V.v false [C.d (.sc (.int .i64 qA))])], heapOf 156 [(0, some
  (Blk.box 45
    [C.d (.sl qF qG ET.step qB), C.d (.sc (.int .i64 qH)), C.d (.sc (.int .i64 qI)), C.d (.sc (.int .i64 qJ)),
      C.d (.sc (.int .i64 qK))])), (1, some
  (Blk.box 55
    [C.d (.sc (.int .i64 qL)), C.d (.sc (.int .i64 qM)), C.d (.sc (.int .i64 qN)), C.d (.sc (.int .i64 qO)),
      C.d (.sc (.int .i64 qP)), C.d (.sc (.int .i64 qQ)), C.d (.sc (.bool qR))])), (2, some (Blk.box 29 [C.d (.sc (.str qS)), C.d (.sc (.int .i64 qT)), C.d (.sl qU qV ET.val qW)])), (36, some
  (Blk.box 55
    [C.d (.sc (.int .i64 qX)), C.d (.sc (.int .i64 qY)), C.d (.sc (.int .i64 qZ)), C.d (.sc (.int .i64 rA)),
      C.d (.sc (.int .i64 rB)), C.d (.sc (.int .i64 rC)), C.d (.sc (.bool rD))])), (90, some
  (Blk.box 55
    [C.d (.sc (.int .i64 rE)), C.d (.sc (.int .i64 rF)), C.d (.sc (.int .i64 qC)), C.d (.sc (.int .i64 qD)),
      C.d (.sc (.int .i64 qE)), C.d (.sc (.int .i64 rG)), C.d (.sc (.bool rH))]))], 0⟩ := by kernel_rfl
theorem Ui_law11_RunMay_c17_e4 {x : V} {K : Tree} {z : Ex × St} (h : (U_law11_RunMay_c17_e4 x K).eval = some z) : x = V.v false [C.ptr 0 0] ∧ (K).eval = some z := by
  unfold U_law11_RunMay_c17_e4 at h
  split at h
  · exact ⟨rfl, h⟩
  · cases h
theorem Ui_law11_RunMay_c17_e15 {x : V} {K : Tree} {z : Ex × St} (h : (U_law11_RunMay_c17_e15 x K).eval = some z) : x = V.v false [C.ptr 90 0] ∧ (K).eval = some z := by
  unfold U_law11_RunMay_c17_e15 at h
  split at h
  · exact ⟨rfl, h⟩
  · cases h
theorem Ui_law11_RunMay_c17_e16 {x : V} {K : Int → Tree} {z : Ex × St} (h : (U_law11_RunMay_c17_e16 x K).eval = some z) : ∃ (qA : Int), x = V.v false [C.d (.sc (.int .i64 qA))] ∧ (K qA).eval = some z := by
  unfold U_law11_RunMay_c17_e16 at h
  split at h
  · exact ⟨_, rfl, h⟩
  · cases h
theorem Ui_law11_RunMay_c17_h0 {x : Option Blk} {K : (Option Bool) → Bool → (List (Ty .step)) → Int → Int → Int → Int → Tree} {z : Ex × St} (h : (U_law11_RunMay_c17_h0 x K).eval = some z) : ∃ (qF : Option Bool) (qG : Bool) (qB : List (Ty .step)) (qH : Int) (qI : Int) (qJ : Int) (qK : Int), x = some (Blk.box 45 [C.d (.sl qF qG ET.step qB), C.d (.sc (.int .i64 qH)), C.d (.sc (.int .i64 qI)), C.d (.sc (.int .i64 qJ)), C.d (.sc (.int .i64 qK))]) ∧ (K qF qG qB qH qI qJ qK).eval = some z := by
  unfold U_law11_RunMay_c17_h0 at h
  split at h
  · exact ⟨_, _, _, _, _, _, _, rfl, h⟩
  · cases h
theorem Ui_law11_RunMay_c17_h1 {x : Option Blk} {K : Int → Int → Int → Int → Int → Int → Bool → Tree} {z : Ex × St} (h : (U_law11_RunMay_c17_h1 x K).eval = some z) : ∃ (qL : Int) (qM : Int) (qN : Int) (qO : Int) (qP : Int) (qQ : Int) (qR : Bool), x = some (Blk.box 55 [C.d (.sc (.int .i64 qL)), C.d (.sc (.int .i64 qM)), C.d (.sc (.int .i64 qN)), C.d (.sc (.int .i64 qO)), C.d (.sc (.int .i64 qP)), C.d (.sc (.int .i64 qQ)), C.d (.sc (.bool qR))]) ∧ (K qL qM qN qO qP qQ qR).eval = some z := by
  unfold U_law11_RunMay_c17_h1 at h
  split at h
  · exact ⟨_, _, _, _, _, _, _, rfl, h⟩
  · cases h
theorem Ui_law11_RunMay_c17_h2 {x : Option Blk} {K : ByteArray → Int → (Option Bool) → Bool → (List (Ty .val)) → Tree} {z : Ex × St} (h : (U_law11_RunMay_c17_h2 x K).eval = some z) : ∃ (qS : ByteArray) (qT : Int) (qU : Option Bool) (qV : Bool) (qW : List (Ty .val)), x = some (Blk.box 29 [C.d (.sc (.str qS)), C.d (.sc (.int .i64 qT)), C.d (.sl qU qV ET.val qW)]) ∧ (K qS qT qU qV qW).eval = some z := by
  unfold U_law11_RunMay_c17_h2 at h
  split at h
  · exact ⟨_, _, _, _, _, rfl, h⟩
  · cases h
theorem Ui_law11_RunMay_c17_h36 {x : Option Blk} {K : Int → Int → Int → Int → Int → Int → Bool → Tree} {z : Ex × St} (h : (U_law11_RunMay_c17_h36 x K).eval = some z) : ∃ (qX : Int) (qY : Int) (qZ : Int) (rA : Int) (rB : Int) (rC : Int) (rD : Bool), x = some (Blk.box 55 [C.d (.sc (.int .i64 qX)), C.d (.sc (.int .i64 qY)), C.d (.sc (.int .i64 qZ)), C.d (.sc (.int .i64 rA)), C.d (.sc (.int .i64 rB)), C.d (.sc (.int .i64 rC)), C.d (.sc (.bool rD))]) ∧ (K qX qY qZ rA rB rC rD).eval = some z := by
  unfold U_law11_RunMay_c17_h36 at h
  split at h
  · exact ⟨_, _, _, _, _, _, _, rfl, h⟩
  · cases h
theorem Ui_law11_RunMay_c17_h90 {x : Option Blk} {K : Int → Int → Int → Int → Int → Int → Bool → Tree} {z : Ex × St} (h : (U_law11_RunMay_c17_h90 x K).eval = some z) : ∃ (rE : Int) (rF : Int) (qC : Int) (qD : Int) (qE : Int) (rG : Int) (rH : Bool), x = some (Blk.box 55 [C.d (.sc (.int .i64 rE)), C.d (.sc (.int .i64 rF)), C.d (.sc (.int .i64 qC)), C.d (.sc (.int .i64 qD)), C.d (.sc (.int .i64 qE)), C.d (.sc (.int .i64 rG)), C.d (.sc (.bool rH))]) ∧ (K rE rF qC qD qE rG rH).eval = some z := by
  unfold U_law11_RunMay_c17_h90 at h
  split at h
  · exact ⟨_, _, _, _, _, _, _, rfl, h⟩
  · cases h
theorem lo1_law11_RunMay_c17 (e4 : V) (e15 : V) (e16 : V) (h0 : Option Blk) (h1 : Option Blk) (h2 : Option Blk) (h36 : Option Blk) (h90 : Option Blk) e st2 (h : (T1_law11_RunMay_c17 e4 e15 e16 h0 h1 h2 h36 h90).eval = some (e, st2)) : Lands Try.prog cx_law11_RunMay false b_law11_RunMay_c17 ⟨envOf 195 [(4, e4), (15, e15), (16, e16)], heapOf 156 [(0, h0), (1, h1), (2, h2), (36, h36), (90, h90)], 0⟩ e st2 := by
  unfold T1_law11_RunMay_c17 at h
  obtain ⟨rfl, h⟩ := Ui_law11_RunMay_c17_e4 h
  obtain ⟨rfl, h⟩ := Ui_law11_RunMay_c17_e15 h
  obtain ⟨qA, rfl, h⟩ := Ui_law11_RunMay_c17_e16 h
  obtain ⟨qF, qG, qB, qH, qI, qJ, qK, rfl, h⟩ := Ui_law11_RunMay_c17_h0 h
  obtain ⟨qL, qM, qN, qO, qP, qQ, qR, rfl, h⟩ := Ui_law11_RunMay_c17_h1 h
  obtain ⟨qS, qT, qU, qV, qW, rfl, h⟩ := Ui_law11_RunMay_c17_h2 h
  obtain ⟨qX, qY, qZ, rA, rB, rC, rD, rfl, h⟩ := Ui_law11_RunMay_c17_h36 h
  obtain ⟨rE, rF, qC, qD, qE, rG, rH, rfl, h⟩ := Ui_law11_RunMay_c17_h90 h
  have := cut_tree (ci_law11_RunMay_c17 qA qF qG qB qH qI qJ qK qL qM qN qO qP qQ qR qS qT qU qV qW qX qY qZ rA rB rC rD rE rF qC qD qE rG rH) h
  rw [mke_law11_RunMay_c17] at this
  exact this
theorem lok_law11_RunMay_c17 : CutOk Try.prog cx_law11_RunMay b_law11_RunMay_c17 T_law11_RunMay_c17 := by
  intro st e st2 h
  unfold T_law11_RunMay_c17 at h
  cases hk : okSt 195 156 0 [0, 1, 2, 36, 90] st with
  | false => rw [hk] at h; cases h
  | true =>
    rw [hk] at h
    exact lands_keep (ks := [4, 15, 16]) hk (lo1_law11_RunMay_c17 _ _ _ _ _ _ _ _ e st2 h)
structure S.law11_RunMay_c10_T where
  x0 : Bool
  deriving Inhabited
def S.law11_RunMay_c10_R (qB : List (Ty .step)) (qH : Int) (qI : Int) (qJ : Int) (qK : Int) (qL : Int) (qM : Int) (qN : Int) (qO : Int) (qP : Int) (qQ : Int) (qR : Bool) (qS : ByteArray) (qT : Int) (qW : List (Ty .val)) : DT S.law11_RunMay_c10_T :=
let y0 : S.run_Next_T := S.run_Next_o qB qH qI qJ qK qL qM qN qO qP qQ qR qS qT qW
let y1 : Int := y0.x7
let y2 : Int := y0.x0
let y3 : Int := y0.x1
let y4 : Int := y0.x2
let y5 : Bool := xeqI y4 qN
let y6 : Int := y0.x3
let y7 : Int := y0.x4
let y8 : Bool := xdec (y4 > qN)
let y9 : Bool := xneI y6 1
let y10 : Bool := S.law11_RunMay_c17_is y1 qB y4 y6 y7
let y11 : Bool := (S.law11_RunMay_c17_o y1 qB y4 y6 y7).x0
(.br (S.run_May_is qB qN qO qP)
(.br (xnot (S.run_May_o qB qN qO qP).x0)
(.leaf ⟨true⟩)
(.br (xdec (qP > 1099511627776))
(.leaf ⟨true⟩)
(.br (S.run_Next_is qB qH qI qJ qK qL qM qN qO qP qQ qR qS qT qW)
(.br (xeqI y1 1)
(.leaf ⟨xeqI y2 qL && (xeqI y3 qM && (y5 && (xeqI y6 qO && (xeqI y7 qP && (xeqI y0.x5 qQ && xeqB y0.x6 qR)))))⟩)
(.br (xneI y2 qL)
(.leaf ⟨false⟩)
(.br (xneI y3 qM)
(.leaf ⟨false⟩)
(.br (xdec (y4 < qN))
(.leaf ⟨false⟩)
(.br (xdec (y4 > xwrap IntKind.i64 (qN + 1)))
(.leaf ⟨false⟩)
(.br (y5)
(.br (xdec (y6 < qO))
(.leaf ⟨false⟩)
(.br (xdec (y6 > xwrap IntKind.i64 (qO + 1)))
(.leaf ⟨false⟩)
(.br (y8)
(.br (y9)
(.leaf ⟨false⟩)
(.br (y10)
(.leaf ⟨y11⟩)
.fail))
(.br (y10)
(.leaf ⟨y11⟩)
.fail))))
(.br (y8)
(.br (y9)
(.leaf ⟨false⟩)
(.br (y10)
(.leaf ⟨y11⟩)
.fail))
(.br (y10)
(.leaf ⟨y11⟩)
.fail))))))))
.fail)))
.fail)
def S.law11_RunMay_c10 (qB : List (Ty .step)) (qH : Int) (qI : Int) (qJ : Int) (qK : Int) (qL : Int) (qM : Int) (qN : Int) (qO : Int) (qP : Int) (qQ : Int) (qR : Bool) (qS : ByteArray) (qT : Int) (qW : List (Ty .val)) : Option S.law11_RunMay_c10_T := (S.law11_RunMay_c10_R qB qH qI qJ qK qL qM qN qO qP qQ qR qS qT qW).run
def S.law11_RunMay_c10_is (qB : List (Ty .step)) (qH : Int) (qI : Int) (qJ : Int) (qK : Int) (qL : Int) (qM : Int) (qN : Int) (qO : Int) (qP : Int) (qQ : Int) (qR : Bool) (qS : ByteArray) (qT : Int) (qW : List (Ty .val)) : Bool := (S.law11_RunMay_c10 qB qH qI qJ qK qL qM qN qO qP qQ qR qS qT qW).isSome
def S.law11_RunMay_c10_o (qB : List (Ty .step)) (qH : Int) (qI : Int) (qJ : Int) (qK : Int) (qL : Int) (qM : Int) (qN : Int) (qO : Int) (qP : Int) (qQ : Int) (qR : Bool) (qS : ByteArray) (qT : Int) (qW : List (Ty .val)) : S.law11_RunMay_c10_T := (S.law11_RunMay_c10 qB qH qI qJ qK qL qM qN qO qP qQ qR qS qT qW).getD default
def mk_law11_RunMay_c10 (qF : Option Bool) (qG : Bool) (qB : List (Ty .step)) (qH : Int) (qI : Int) (qJ : Int) (qK : Int) (qL : Int) (qM : Int) (qN : Int) (qO : Int) (qP : Int) (qQ : Int) (qR : Bool) (qS : ByteArray) (qT : Int) (qU : Option Bool) (qV : Bool) (qW : List (Ty .val)) (qX : Int) (qY : Int) (qZ : Int) (rA : Int) (rB : Int) (rC : Int) (rD : Bool) : St := ⟨[V.any, V.any, V.any, V.any, V.v false [C.ptr 0 0], V.v false [C.ptr 1 0], V.v false [C.ptr 2 0], V.any, V.any, V.any, V.any, V.any, V.any, V.any, V.any, V.any, V.any, V.any,
  V.any, V.any, V.any, V.any, V.any, V.any, V.any, V.any, V.any, V.any, V.any, V.any, V.any, V.any, V.any, V.any, V.any, V.any, V.any, V.any, V.any, V.any, V.any, V.any, V.any,
  V.any, V.any, V.any, V.any, V.any, V.any, V.any, V.any, V.any, V.any, V.any, V.any, V.any, V.any, V.any, V.any, V.any, V.any, V.any, V.any, V.any, V.any, V.any, V.any, V.any,
  V.any, V.any, V.any, V.any, V.any, V.any, V.any, V.any, V.any, V.any, V.any, V.any, V.any, V.any, V.any, V.any, V.any, V.any, V.any, V.any, V.any, V.any, V.any, V.any, V.any,
  V.any, V.any, V.any, V.any, V.any, V.any, V.any, V.any, V.any, V.any, V.any, V.any, V.any, V.any, V.any, V.any, V.any, V.any, V.any, V.any, V.any, V.any, V.any, V.any, V.any,
  V.any, V.any, V.any, V.any, V.any, V.any, V.any, V.any, V.any, V.any, V.any, V.any, V.any, V.any, V.any, V.any, V.any, V.any, V.any, V.any, V.any, V.any, V.any, V.any, V.any,
  V.any, V.any, V.any, V.any, V.any, V.any, V.any, V.any, V.any, V.any, V.any, V.any, V.any, V.any, V.any, V.any, V.any, V.any, V.any, V.any, V.any, V.any, V.any, V.any, V.any,
  V.any, V.any, V.any, V.any, V.any, V.any, V.any, V.any, V.any, V.any, V.any, V.any, V.any, V.any, V.any, V.any, V.any, V.any, V.any, V.any, V.any, V.any, V.any, V.any, V.any,
  V.any, V.any], [some
    (Blk.box 45
      [C.d (.sl qF qG ET.step qB), C.d (.sc (.int .i64 qH)), C.d (.sc (.int .i64 qI)), C.d (.sc (.int .i64 qJ)),
        C.d (.sc (.int .i64 qK))]),
  some
    (Blk.box 55
      [C.d (.sc (.int .i64 qL)), C.d (.sc (.int .i64 qM)), C.d (.sc (.int .i64 qN)), C.d (.sc (.int .i64 qO)),
        C.d (.sc (.int .i64 qP)), C.d (.sc (.int .i64 qQ)), C.d (.sc (.bool qR))]),
  some (Blk.box 29 [C.d (.sc (.str qS)), C.d (.sc (.int .i64 qT)), C.d (.sl qU qV ET.val qW)]), none, none, none, none, none, none, none, none, none,
  none, none, none, none, none, none, none, none, none, none, none, none, none, none, none, none, none, none, none, none, none, none, none, none,
  some
    (Blk.box 55
      [C.d (.sc (.int .i64 qX)), C.d (.sc (.int .i64 qY)), C.d (.sc (.int .i64 qZ)), C.d (.sc (.int .i64 rA)),
        C.d (.sc (.int .i64 rB)), C.d (.sc (.int .i64 rC)), C.d (.sc (.bool rD))]),
  none, none, none, none, none, none, none, none, none, none, none, none, none, none, none, none, none, none, none, none, none, none, none, none, none, none, none, none, none,
  none, none, none, none, none, none, none, none], 0⟩
def out_law11_RunMay_c10 (r : S.law11_RunMay_c10_T) : St := ⟨[V.any, V.any, V.any, V.any, V.any, V.any, V.any, V.any, V.v false [C.d (.sc (.bool r.x0))], V.any, V.any, V.any, V.any, V.any, V.any, V.any, V.any, V.any, V.any, V.any, V.any,
  V.any, V.any, V.any, V.any, V.any, V.any, V.any, V.any, V.any, V.any, V.any, V.any, V.any, V.any, V.any, V.any, V.any, V.any, V.any, V.any, V.any, V.any, V.any, V.any, V.any,
  V.any, V.any, V.any, V.any, V.any, V.any, V.any, V.any, V.any, V.any, V.any, V.any, V.any, V.any, V.any, V.any, V.any, V.any, V.any, V.any, V.any, V.any, V.any, V.any, V.any,
  V.any, V.any, V.any, V.any, V.any, V.any, V.any, V.any, V.any, V.any, V.any, V.any, V.any, V.any, V.any, V.any, V.any, V.any, V.any, V.any, V.any, V.any, V.any, V.any, V.any,
  V.any, V.any, V.any, V.any, V.any, V.any, V.any, V.any, V.any, V.any, V.any, V.any, V.any, V.any, V.any, V.any, V.any, V.any, V.any, V.any, V.any, V.any, V.any, V.any, V.any,
  V.any, V.any, V.any, V.any, V.any, V.any, V.any, V.any, V.any, V.any, V.any, V.any, V.any, V.any, V.any, V.any, V.any, V.any, V.any, V.any, V.any, V.any, V.any, V.any, V.any,
  V.any, V.any, V.any, V.any, V.any, V.any, V.any, V.any, V.any, V.any, V.any, V.any, V.any, V.any, V.any, V.any, V.any, V.any, V.any, V.any, V.any, V.any, V.any, V.any, V.any,
  V.any, V.any, V.any, V.any, V.any, V.any, V.any, V.any, V.any, V.any, V.any, V.any, V.any, V.any, V.any, V.any, V.any, V.any, V.any, V.any, V.any, V.any, V.any, V.any], [], 0⟩
def U_law11_RunMay_c10_e4 (x : V) (K : Tree) : Tree := match x with
  | V.v false [C.ptr 0 0] => K
  | _ => .bad
def U_law11_RunMay_c10_e5 (x : V) (K : Tree) : Tree := match x with
  | V.v false [C.ptr 1 0] => K
  | _ => .bad
def U_law11_RunMay_c10_e6 (x : V) (K : Tree) : Tree := match x with
  | V.v false [C.ptr 2 0] => K
  | _ => .bad
def U_law11_RunMay_c10_h0 (x : Option Blk) (K : (Option Bool) → Bool → (List (Ty .step)) → Int → Int → Int → Int → Tree) : Tree := match x with
  | some (Blk.box 45 [C.d (.sl qF qG ET.step qB), C.d (.sc (.int .i64 qH)), C.d (.sc (.int .i64 qI)), C.d (.sc (.int .i64 qJ)), C.d (.sc (.int .i64 qK))]) => K qF qG qB qH qI qJ qK
  | _ => .bad
def U_law11_RunMay_c10_h1 (x : Option Blk) (K : Int → Int → Int → Int → Int → Int → Bool → Tree) : Tree := match x with
  | some (Blk.box 55 [C.d (.sc (.int .i64 qL)), C.d (.sc (.int .i64 qM)), C.d (.sc (.int .i64 qN)), C.d (.sc (.int .i64 qO)), C.d (.sc (.int .i64 qP)), C.d (.sc (.int .i64 qQ)), C.d (.sc (.bool qR))]) => K qL qM qN qO qP qQ qR
  | _ => .bad
def U_law11_RunMay_c10_h2 (x : Option Blk) (K : ByteArray → Int → (Option Bool) → Bool → (List (Ty .val)) → Tree) : Tree := match x with
  | some (Blk.box 29 [C.d (.sc (.str qS)), C.d (.sc (.int .i64 qT)), C.d (.sl qU qV ET.val qW)]) => K qS qT qU qV qW
  | _ => .bad
def U_law11_RunMay_c10_h36 (x : Option Blk) (K : Int → Int → Int → Int → Int → Int → Bool → Tree) : Tree := match x with
  | some (Blk.box 55 [C.d (.sc (.int .i64 qX)), C.d (.sc (.int .i64 qY)), C.d (.sc (.int .i64 qZ)), C.d (.sc (.int .i64 rA)), C.d (.sc (.int .i64 rB)), C.d (.sc (.int .i64 rC)), C.d (.sc (.bool rD))]) => K qX qY qZ rA rB rC rD
  | _ => .bad
def T1_law11_RunMay_c10 (e4 : V) (e5 : V) (e6 : V) (h0 : Option Blk) (h1 : Option Blk) (h2 : Option Blk) (h36 : Option Blk) : Tree := U_law11_RunMay_c10_e4 e4 (U_law11_RunMay_c10_e5 e5 (U_law11_RunMay_c10_e6 e6 (U_law11_RunMay_c10_h0 h0 (fun qF qG qB qH qI qJ qK => U_law11_RunMay_c10_h1 h1 (fun qL qM qN qO qP qQ qR => U_law11_RunMay_c10_h2 h2 (fun qS qT qU qV qW => U_law11_RunMay_c10_h36 h36 (fun qX qY qZ rA rB rC rD => .br (S.law11_RunMay_c10_is qB qH qI qJ qK qL qM qN qO qP qQ qR qS qT qW) (.leaf Ex.ret (out_law11_RunMay_c10 (S.law11_RunMay_c10_o qB qH qI qJ qK qL qM qN qO qP qQ qR qS qT qW))) .bad)))))))
def T_law11_RunMay_c10 (st : St) : Tree := bif okSt 195 74 0 [0, 1, 2, 36] st then T1_law11_RunMay_c10 (st.env.getD 4 .any) (st.env.getD 5 .any) (st.env.getD 6 .any) (lk st.heap 0) (lk st.heap 1) (lk st.heap 2) (lk st.heap 36) else .bad
theorem rnd_law11_RunMay_c10 (qF : Option Bool) (qG : Bool) (qB : List (Ty .step)) (qH : Int) (qI : Int) (qJ : Int) (qK : Int) (qL : Int) (qM : Int) (qN : Int) (qO : Int) (qP : Int) (qQ : Int) (qR : Bool) (qS : ByteArray) (qT : Int) (qU : Option Bool) (qV : Bool) (qW : List (Ty .val)) (qX : Int) (qY : Int) (qZ : Int) (rA : Int) (rB : Int) (rC : Int) (rD : Bool) : tail2 cx_law11_RunMay (hdI cx_law11_RunMay (find [(1000017, T_law11_RunMay_c17)]) [] none 0) (find [(1000017, T_law11_RunMay_c17)]) 9 ⟨17, [4, 15, 16], 1000000⟩ b_law11_RunMay_c10 [8] (mk_law11_RunMay_c10 qF qG qB qH qI qJ qK qL qM qN qO qP qQ qR qS qT qU qV qW qX qY qZ rA rB rC rD) = (S.law11_RunMay_c10_R qB qH qI qJ qK qL qM qN qO qP qQ qR qS qT qW).go (fun r => (Ex.ret, out_law11_RunMay_c10 r)) := by kernel_rfl
theorem bs_law11_RunMay_c10 : loopsOf b_law11_RunMay_c10 ++ loopsInl [] = [] := by kernel_rfl
theorem ci_law11_RunMay_c10 (qF : Option Bool) (qG : Bool) (qB : List (Ty .step)) (qH : Int) (qI : Int) (qJ : Int) (qK : Int) (qL : Int) (qM : Int) (qN : Int) (qO : Int) (qP : Int) (qQ : Int) (qR : Bool) (qS : ByteArray) (qT : Int) (qU : Option Bool) (qV : Bool) (qW : List (Ty .val)) (qX : Int) (qY : Int) (qZ : Int) (rA : Int) (rB : Int) (rC : Int) (rD : Bool) : ∀ x, S.law11_RunMay_c10 qB qH qI qJ qK qL qM qN qO qP qQ qR qS qT qW = some x → Lands Try.prog cx_law11_RunMay false b_law11_RunMay_c10 (mk_law11_RunMay_c10 qF qG qB qH qI qJ qK qL qM qN qO qP qQ qR qS qT qU qV qW qX qY qZ rA rB rC rD) Ex.ret (out_law11_RunMay_c10 x) :=
  cut_ok (q := ⟨17, [4, 15, 16], 1000000⟩) (L := find [(1000017, T_law11_RunMay_c17)]) (n := 0) (hints := []) (cx_ok rfl) rdy_law11_RunMay prs_law11_RunMay bs_law11_RunMay_c10 nilB (fun T h b hb => by have e : T_law11_RunMay_c17 = T := Option.some.inj (show some T_law11_RunMay_c17 = some T from h); subst e; obtain rfl := tailOf_eq hb; exact lok_law11_RunMay_c17) (rnd_law11_RunMay_c10 qF qG qB qH qI qJ qK qL qM qN qO qP qQ qR qS qT qU qV qW qX qY qZ rA rB rC rD)
theorem mke_law11_RunMay_c10 (qF : Option Bool) (qG : Bool) (qB : List (Ty .step)) (qH : Int) (qI : Int) (qJ : Int) (qK : Int) (qL : Int) (qM : Int) (qN : Int) (qO : Int) (qP : Int) (qQ : Int) (qR : Bool) (qS : ByteArray) (qT : Int) (qU : Option Bool) (qV : Bool) (qW : List (Ty .val)) (qX : Int) (qY : Int) (qZ : Int) (rA : Int) (rB : Int) (rC : Int) (rD : Bool) : mk_law11_RunMay_c10 qF qG qB qH qI qJ qK qL qM qN qO qP qQ qR qS qT qU qV qW qX qY qZ rA rB rC rD = ⟨envOf 195 [(4, V.v false [C.ptr 0 0]), (5, V.v false [C.ptr 1 0]), (6, V.v false [C.ptr 2 0])], heapOf 74 [(0, some
  (Blk.box 45
    [C.d (.sl qF qG ET.step qB), C.d (.sc (.int .i64 qH)), C.d (.sc (.int .i64 qI)), C.d (.sc (.int .i64 qJ)),
      C.d (.sc (.int .i64 qK))])), (1, some
  (Blk.box 55
    [C.d (.sc (.int .i64 qL)), C.d (.sc (.int .i64 qM)), C.d (.sc (.int .i64 qN)), C.d (.sc (.int .i64 qO)),
      C.d (.sc (.int .i64 qP)), C.d (.sc (.int .i64 qQ)), C.d (.sc (.bool qR))])), (2, some (Blk.box 29 [C.d (.sc (.str qS)), C.d (.sc (.int .i64 qT)), C.d (.sl qU qV ET.val qW)])), (36, some
  (Blk.box 55
    [C.d (.sc (.int .i64 qX)), C.d (.sc (.int .i64 qY)), C.d (.sc (.int .i64 qZ)), C.d (.sc (.int .i64 rA)),
      C.d (.sc (.int .i64 rB)), C.d (.sc (.int .i64 rC)), C.d (.sc (.bool rD))]))], 0⟩ := by kernel_rfl
theorem Ui_law11_RunMay_c10_e4 {x : V} {K : Tree} {z : Ex × St} (h : (U_law11_RunMay_c10_e4 x K).eval = some z) : x = V.v false [C.ptr 0 0] ∧ (K).eval = some z := by
  unfold U_law11_RunMay_c10_e4 at h
  split at h
  · exact ⟨rfl, h⟩
  · cases h
theorem Ui_law11_RunMay_c10_e5 {x : V} {K : Tree} {z : Ex × St} (h : (U_law11_RunMay_c10_e5 x K).eval = some z) : x = V.v false [C.ptr 1 0] ∧ (K).eval = some z := by
  unfold U_law11_RunMay_c10_e5 at h
  split at h
  · exact ⟨rfl, h⟩
  · cases h
theorem Ui_law11_RunMay_c10_e6 {x : V} {K : Tree} {z : Ex × St} (h : (U_law11_RunMay_c10_e6 x K).eval = some z) : x = V.v false [C.ptr 2 0] ∧ (K).eval = some z := by
  unfold U_law11_RunMay_c10_e6 at h
  split at h
  · exact ⟨rfl, h⟩
  · cases h
theorem Ui_law11_RunMay_c10_h0 {x : Option Blk} {K : (Option Bool) → Bool → (List (Ty .step)) → Int → Int → Int → Int → Tree} {z : Ex × St} (h : (U_law11_RunMay_c10_h0 x K).eval = some z) : ∃ (qF : Option Bool) (qG : Bool) (qB : List (Ty .step)) (qH : Int) (qI : Int) (qJ : Int) (qK : Int), x = some (Blk.box 45 [C.d (.sl qF qG ET.step qB), C.d (.sc (.int .i64 qH)), C.d (.sc (.int .i64 qI)), C.d (.sc (.int .i64 qJ)), C.d (.sc (.int .i64 qK))]) ∧ (K qF qG qB qH qI qJ qK).eval = some z := by
  unfold U_law11_RunMay_c10_h0 at h
  split at h
  · exact ⟨_, _, _, _, _, _, _, rfl, h⟩
  · cases h
theorem Ui_law11_RunMay_c10_h1 {x : Option Blk} {K : Int → Int → Int → Int → Int → Int → Bool → Tree} {z : Ex × St} (h : (U_law11_RunMay_c10_h1 x K).eval = some z) : ∃ (qL : Int) (qM : Int) (qN : Int) (qO : Int) (qP : Int) (qQ : Int) (qR : Bool), x = some (Blk.box 55 [C.d (.sc (.int .i64 qL)), C.d (.sc (.int .i64 qM)), C.d (.sc (.int .i64 qN)), C.d (.sc (.int .i64 qO)), C.d (.sc (.int .i64 qP)), C.d (.sc (.int .i64 qQ)), C.d (.sc (.bool qR))]) ∧ (K qL qM qN qO qP qQ qR).eval = some z := by
  unfold U_law11_RunMay_c10_h1 at h
  split at h
  · exact ⟨_, _, _, _, _, _, _, rfl, h⟩
  · cases h
theorem Ui_law11_RunMay_c10_h2 {x : Option Blk} {K : ByteArray → Int → (Option Bool) → Bool → (List (Ty .val)) → Tree} {z : Ex × St} (h : (U_law11_RunMay_c10_h2 x K).eval = some z) : ∃ (qS : ByteArray) (qT : Int) (qU : Option Bool) (qV : Bool) (qW : List (Ty .val)), x = some (Blk.box 29 [C.d (.sc (.str qS)), C.d (.sc (.int .i64 qT)), C.d (.sl qU qV ET.val qW)]) ∧ (K qS qT qU qV qW).eval = some z := by
  unfold U_law11_RunMay_c10_h2 at h
  split at h
  · exact ⟨_, _, _, _, _, rfl, h⟩
  · cases h
theorem Ui_law11_RunMay_c10_h36 {x : Option Blk} {K : Int → Int → Int → Int → Int → Int → Bool → Tree} {z : Ex × St} (h : (U_law11_RunMay_c10_h36 x K).eval = some z) : ∃ (qX : Int) (qY : Int) (qZ : Int) (rA : Int) (rB : Int) (rC : Int) (rD : Bool), x = some (Blk.box 55 [C.d (.sc (.int .i64 qX)), C.d (.sc (.int .i64 qY)), C.d (.sc (.int .i64 qZ)), C.d (.sc (.int .i64 rA)), C.d (.sc (.int .i64 rB)), C.d (.sc (.int .i64 rC)), C.d (.sc (.bool rD))]) ∧ (K qX qY qZ rA rB rC rD).eval = some z := by
  unfold U_law11_RunMay_c10_h36 at h
  split at h
  · exact ⟨_, _, _, _, _, _, _, rfl, h⟩
  · cases h
theorem lo1_law11_RunMay_c10 (e4 : V) (e5 : V) (e6 : V) (h0 : Option Blk) (h1 : Option Blk) (h2 : Option Blk) (h36 : Option Blk) e st2 (h : (T1_law11_RunMay_c10 e4 e5 e6 h0 h1 h2 h36).eval = some (e, st2)) : Lands Try.prog cx_law11_RunMay false b_law11_RunMay_c10 ⟨envOf 195 [(4, e4), (5, e5), (6, e6)], heapOf 74 [(0, h0), (1, h1), (2, h2), (36, h36)], 0⟩ e st2 := by
  unfold T1_law11_RunMay_c10 at h
  obtain ⟨rfl, h⟩ := Ui_law11_RunMay_c10_e4 h
  obtain ⟨rfl, h⟩ := Ui_law11_RunMay_c10_e5 h
  obtain ⟨rfl, h⟩ := Ui_law11_RunMay_c10_e6 h
  obtain ⟨qF, qG, qB, qH, qI, qJ, qK, rfl, h⟩ := Ui_law11_RunMay_c10_h0 h
  obtain ⟨qL, qM, qN, qO, qP, qQ, qR, rfl, h⟩ := Ui_law11_RunMay_c10_h1 h
  obtain ⟨qS, qT, qU, qV, qW, rfl, h⟩ := Ui_law11_RunMay_c10_h2 h
  obtain ⟨qX, qY, qZ, rA, rB, rC, rD, rfl, h⟩ := Ui_law11_RunMay_c10_h36 h
  have := cut_tree (ci_law11_RunMay_c10 qF qG qB qH qI qJ qK qL qM qN qO qP qQ qR qS qT qU qV qW qX qY qZ rA rB rC rD) h
  rw [mke_law11_RunMay_c10] at this
  exact this
theorem lok_law11_RunMay_c10 : CutOk Try.prog cx_law11_RunMay b_law11_RunMay_c10 T_law11_RunMay_c10 := by
  intro st e st2 h
  unfold T_law11_RunMay_c10 at h
  cases hk : okSt 195 74 0 [0, 1, 2, 36] st with
  | false => rw [hk] at h; cases h
  | true =>
    rw [hk] at h
    exact lands_keep (ks := [4, 5, 6]) hk (lo1_law11_RunMay_c10 _ _ _ _ _ _ _ e st2 h)
structure S.law11_RunMay_T where
  x0 : Bool
  deriving Inhabited
def S.law11_RunMay_R (a0_0 : List (Ty .step)) (a0_1 : Int) (a0_2 : Int) (a0_3 : Int) (a0_4 : Int) (a1_0 : Int) (a1_1 : Int) (a1_2 : Int) (a1_3 : Int) (a1_4 : Int) (a1_5 : Int) (a1_6 : Bool) (a2_0 : ByteArray) (a2_1 : Int) (a2_2 : List (Ty .val)) (a3 : Int) : DT S.law11_RunMay_T :=
let y0 : S.run_Begin_T := S.run_Begin_o a0_0 a0_2 a0_3 a0_4 a2_0 a2_1 a2_2 a3
let y1 : Int := y0.x7
let y2 : Int := y0.x2
let y3 : Int := y0.x3
let y4 : Int := y0.x4
let y5 : Bool := xneI y1 1
let y6 : Bool := xneI y0.x0 a3
let y7 : Bool := xneI y0.x1 a2_1
let y8 : Bool := xneI y2 0
let y9 : Bool := xneI y3 1
let y10 : Bool := S.law11_RunMay_c10_is a0_0 a0_1 a0_2 a0_3 a0_4 a1_0 a1_1 a1_2 a1_3 a1_4 a1_5 a1_6 a2_0 a2_1 a2_2
let y11 : Bool := (S.law11_RunMay_c10_o a0_0 a0_1 a0_2 a0_3 a0_4 a1_0 a1_1 a1_2 a1_3 a1_4 a1_5 a1_6 a2_0 a2_1 a2_2).x0
(.br (S.law11_awake_is)
(.br (S.law09_Few_is a0_0)
(.br (S.law06_Few_is a2_0 a2_2)
(.br (S.ref09_May_is a0_0 a0_1 a0_2 a0_3 a0_4)
(.br (xnot S.law11_awake_o.x0)
(.leaf ⟨S.law11_awake_o.x0⟩)
(.br (xnot (S.law09_Few_o a0_0).x0)
(.leaf ⟨S.law11_awake_o.x0⟩)
(.br (xnot (S.law06_Few_o a2_0 a2_2).x0)
(.leaf ⟨S.law11_awake_o.x0⟩)
(.br (xnot (S.ref09_May_o a0_0 a0_1 a0_2 a0_3 a0_4).x0)
(.leaf ⟨S.law11_awake_o.x0⟩)
(.br (S.run_Begin_is a0_0 a0_2 a0_3 a0_4 a2_0 a2_1 a2_2 a3)
(.br (xeqI y1 0)
(.br (S.run_May_is a0_0 y2 y3 y4)
(.br (xnot (S.run_May_o a0_0 y2 y3 y4).x0)
(.leaf ⟨false⟩)
(.br (y5)
(.br (y6)
(.leaf ⟨false⟩)
(.br (y7)
(.leaf ⟨false⟩)
(.br (y8)
(.leaf ⟨false⟩)
(.br (y9)
(.leaf ⟨false⟩)
(.br (y10)
(.leaf ⟨y11⟩)
.fail)))))
(.br (y10)
(.leaf ⟨y11⟩)
.fail)))
.fail)
(.br (y5)
(.br (y6)
(.leaf ⟨false⟩)
(.br (y7)
(.leaf ⟨false⟩)
(.br (y8)
(.leaf ⟨false⟩)
(.br (y9)
(.leaf ⟨false⟩)
(.br (y10)
(.leaf ⟨y11⟩)
.fail)))))
(.br (y10)
(.leaf ⟨y11⟩)
.fail)))
.fail)))))
.fail)
.fail)
.fail)
.fail)
def S.law11_RunMay (a0_0 : List (Ty .step)) (a0_1 : Int) (a0_2 : Int) (a0_3 : Int) (a0_4 : Int) (a1_0 : Int) (a1_1 : Int) (a1_2 : Int) (a1_3 : Int) (a1_4 : Int) (a1_5 : Int) (a1_6 : Bool) (a2_0 : ByteArray) (a2_1 : Int) (a2_2 : List (Ty .val)) (a3 : Int) : Option S.law11_RunMay_T := (S.law11_RunMay_R a0_0 a0_1 a0_2 a0_3 a0_4 a1_0 a1_1 a1_2 a1_3 a1_4 a1_5 a1_6 a2_0 a2_1 a2_2 a3).run
def S.law11_RunMay_is (a0_0 : List (Ty .step)) (a0_1 : Int) (a0_2 : Int) (a0_3 : Int) (a0_4 : Int) (a1_0 : Int) (a1_1 : Int) (a1_2 : Int) (a1_3 : Int) (a1_4 : Int) (a1_5 : Int) (a1_6 : Bool) (a2_0 : ByteArray) (a2_1 : Int) (a2_2 : List (Ty .val)) (a3 : Int) : Bool := (S.law11_RunMay a0_0 a0_1 a0_2 a0_3 a0_4 a1_0 a1_1 a1_2 a1_3 a1_4 a1_5 a1_6 a2_0 a2_1 a2_2 a3).isSome
def S.law11_RunMay_o (a0_0 : List (Ty .step)) (a0_1 : Int) (a0_2 : Int) (a0_3 : Int) (a0_4 : Int) (a1_0 : Int) (a1_1 : Int) (a1_2 : Int) (a1_3 : Int) (a1_4 : Int) (a1_5 : Int) (a1_6 : Bool) (a2_0 : ByteArray) (a2_1 : Int) (a2_2 : List (Ty .val)) (a3 : Int) : S.law11_RunMay_T := (S.law11_RunMay a0_0 a0_1 a0_2 a0_3 a0_4 a1_0 a1_1 a1_2 a1_3 a1_4 a1_5 a1_6 a2_0 a2_1 a2_2 a3).getD default
def ret_law11_RunMay (b : Bool) (r : S.law11_RunMay_T) : Ret := ⟨b, none, [(false, [C.d (.sc (.bool r.x0))])]⟩
def g_law11_RunMay : Con
  | [(true, [.sl a0_0n a0_0f .step a0_0, .sc (.int .i64 a0_1), .sc (.int .i64 a0_2), .sc (.int .i64 a0_3), .sc (.int .i64 a0_4)]), (true, [.sc (.int .i64 a1_0), .sc (.int .i64 a1_1), .sc (.int .i64 a1_2), .sc (.int .i64 a1_3), .sc (.int .i64 a1_4), .sc (.int .i64 a1_5), .sc (.bool a1_6)]), (true, [.sc (.str a2_0), .sc (.int .i64 a2_1), .sl a2_2n a2_2f .val a2_2]), (false, [.sc (.int .i64 a3)])] => some (ret_law11_RunMay (S.law11_RunMay_is a0_0 a0_1 a0_2 a0_3 a0_4 a1_0 a1_1 a1_2 a1_3 a1_4 a1_5 a1_6 a2_0 a2_1 a2_2 a3) (S.law11_RunMay_o a0_0 a0_1 a0_2 a0_3 a0_4 a1_0 a1_1 a1_2 a1_3 a1_4 a1_5 a1_6 a2_0 a2_1 a2_2 a3))
  | _ => none
theorem raw_law11_RunMay (a0_0n : Option Bool) (a0_0f : Bool) (a0_0 : List (Ty .step)) (a0_1 : Int) (a0_2 : Int) (a0_3 : Int) (a0_4 : Int) (a1_0 : Int) (a1_1 : Int) (a1_2 : Int) (a1_3 : Int) (a1_4 : Int) (a1_5 : Int) (a1_6 : Bool) (a2_0 : ByteArray) (a2_1 : Int) (a2_2n : Option Bool) (a2_2f : Bool) (a2_2 : List (Ty .val)) (a3 : Int) : evR5 cx_law11_RunMay (hdI cx_law11_RunMay (find [(1000017, T_law11_RunMay_c17), (1000010, T_law11_RunMay_c10)]) [] none 0) (find [(1000017, T_law11_RunMay_c17), (1000010, T_law11_RunMay_c10)]) (⟨10, [4, 5, 6], 1000000⟩) none Try.f9 9 none [(true, [.sl a0_0n a0_0f .step a0_0, .sc (.int .i64 a0_1), .sc (.int .i64 a0_2), .sc (.int .i64 a0_3), .sc (.int .i64 a0_4)]), (true, [.sc (.int .i64 a1_0), .sc (.int .i64 a1_1), .sc (.int .i64 a1_2), .sc (.int .i64 a1_3), .sc (.int .i64 a1_4), .sc (.int .i64 a1_5), .sc (.bool a1_6)]), (true, [.sc (.str a2_0), .sc (.int .i64 a2_1), .sl a2_2n a2_2f .val a2_2]), (false, [.sc (.int .i64 a3)])] some = (S.law11_RunMay_R a0_0 a0_1 a0_2 a0_3 a0_4 a1_0 a1_1 a1_2 a1_3 a1_4 a1_5 a1_6 a2_0 a2_1 a2_2 a3).go (ret_law11_RunMay true) := by kernel_rfl
theorem bs_law11_RunMay : loopsIn Try.f9 [] = [] := by kernel_rfl
theorem law11_RunMay_ok : Stands Try.prog tyTab 9 g_law11_RunMay := by
  refine stands5 (q := ⟨10, [4, 5, 6], 1000000⟩) (L := find [(1000017, T_law11_RunMay_c17), (1000010, T_law11_RunMay_c10)]) (n := 0) (hints := []) (cx_ok rfl) rdy_law11_RunMay prs_law11_RunMay ⟨by kernel_rfl, by kernel_rfl, by kernel_rfl⟩ bs_law11_RunMay nilB (fun T h b hb => by have e : T_law11_RunMay_c10 = T := Option.some.inj (show some T_law11_RunMay_c10 = some T from h); subst e; obtain rfl := tailOf_eq hb; exact lok_law11_RunMay_c10) (fun das r hG hr => ?_)
  unfold g_law11_RunMay at hG
  split at hG
  · rename_i a0_0n a0_0f a0_0 a0_1 a0_2 a0_3 a0_4 a1_0 a1_1 a1_2 a1_3 a1_4 a1_5 a1_6 a2_0 a2_1 a2_2n a2_2f a2_2 a3
    injection hG with hG; subst hG
    exact ⟨none, true, win default ((raw_law11_RunMay a0_0n a0_0f a0_0 a0_1 a0_2 a0_3 a0_4 a1_0 a1_1 a1_2 a1_3 a1_4 a1_5 a1_6 a2_0 a2_1 a2_2n a2_2f a2_2 a3).trans (DT.go_run _ _)) hr⟩
  · cases hG
end
end Go.Eng
