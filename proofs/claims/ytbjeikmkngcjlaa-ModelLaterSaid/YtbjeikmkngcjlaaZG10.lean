/- Contracts, laid by program. -/
import Derived.Test.YtbjeikmkngcjlaaZG9
import Derived.Test.YtbjeikmkngcjlaaZE3
set_option maxHeartbeats 2000000
set_option maxRecDepth 10000
set_option linter.unusedVariables false
set_option linter.unusedSimpArgs false
namespace Go.Eng
noncomputable section
open Go Go.Eng Go.Proofs Go.Eng.Tab
abbrev cx_zqbi : Cx := mkCx2 tyTab [] [] [] []
theorem rdy_zqbi : Ready Try.prog tyTab [] [] [] := ⟨noneG2, noneI2, noneF2⟩
structure S.zqbi_T where
  x0 : Int
  x1 : Bool
  deriving Inhabited
def S.zqbi_R (a0_5 : Int) (a0_6 : Bool) : DT S.zqbi_T :=
(.leaf ⟨a0_5, a0_6⟩)
def S.zqbi (a0_5 : Int) (a0_6 : Bool) : Option S.zqbi_T := (S.zqbi_R a0_5 a0_6).run
def S.zqbi_is (a0_5 : Int) (a0_6 : Bool) : Bool := (S.zqbi a0_5 a0_6).isSome
def S.zqbi_o (a0_5 : Int) (a0_6 : Bool) : S.zqbi_T := (S.zqbi a0_5 a0_6).getD default
def ret_zqbi (b : Bool) (r : S.zqbi_T) : Ret := ⟨b, none, [(false, [C.d (.sc (.int .i64 r.x0))]), (false, [C.d (.sc (.bool r.x1))])]⟩
def g_zqbi : Con
  | [(true, [.sc (.int .i64 a0_0), .sc (.int .i64 a0_1), .sc (.int .i64 a0_2), .sc (.int .i64 a0_3), .sc (.int .i64 a0_4), .sc (.int .i64 a0_5), .sc (.bool a0_6)])] => some (ret_zqbi (S.zqbi_is a0_5 a0_6) (S.zqbi_o a0_5 a0_6))
  | _ => none
theorem raw_zqbi (a0_0 : Int) (a0_1 : Int) (a0_2 : Int) (a0_3 : Int) (a0_4 : Int) (a0_5 : Int) (a0_6 : Bool) : evR2 cx_zqbi (hdI cx_zqbi (find []) [] none 0) none Try.f118 118 none [(true, [.sc (.int .i64 a0_0), .sc (.int .i64 a0_1), .sc (.int .i64 a0_2), .sc (.int .i64 a0_3), .sc (.int .i64 a0_4), .sc (.int .i64 a0_5), .sc (.bool a0_6)])] some = (S.zqbi_R a0_5 a0_6).go (ret_zqbi true) := by kernel_rfl
theorem bs_zqbi : loopsIn Try.f118 [] = [] := by kernel_rfl
theorem zqbi_ok : Stands Try.prog tyTab 118 g_zqbi := by
  refine stands3 (L := find []) (n := 0) (hints := []) (cx_ok rfl) rdy_zqbi ⟨by kernel_rfl, by kernel_rfl, by kernel_rfl⟩ bs_zqbi nilB (fun das r hG hr => ?_)
  unfold g_zqbi at hG
  split at hG
  · rename_i a0_0 a0_1 a0_2 a0_3 a0_4 a0_5 a0_6
    injection hG with hG; subst hG
    exact ⟨none, true, win default ((raw_zqbi a0_0 a0_1 a0_2 a0_3 a0_4 a0_5 a0_6).trans (DT.go_run _ _)) hr⟩
  · cases hG
abbrev cx_zqbh : Cx := mkCx3 tyTab [(52, g_zqbv), (54, g_zqcd)] [] [(116, 4, { keep := [3, 6, 7, 8, 9, 25, 26, 27], acc := [(7, some 0, .run, 55)] })] [] [] []
theorem rdy_zqbh : Ready Try.prog tyTab [(52, g_zqbv), (54, g_zqcd)] [] [] := ⟨consG2 zqbv_ok (consG2 zqcd_ok (noneG2)), noneI2, noneF2⟩
theorem prs_zqbh : PrsOk Try.prog tyTab [] := noneP
structure S.zqbh_4_V where
  t_9_0 : Int
  t_27_0 : Int
  h_2_0f : Bool
  h_2_0l : Nat
  h_13_0 : Int
  h_13_1 : Int
  h_13_2 : Int
  h_13_3 : Int
  h_13_4 : Int
  h_13_5 : Int
  h_13_6 : Bool
  h_22 : List (Ty .run)
def S.zqbh_4_R (qA : List (Ty .evt)) (qB : Int) (qC : List (Ty .step)) (qD : Int) (qE : Int) (qF : Int) (qG : Int) (v : S.zqbh_4_V) : DT (Option Nat × S.zqbh_4_V) :=
let y0 : Run := { first := v.h_13_0, at_ := v.h_13_1, step := v.h_13_2, n := v.h_13_3, many := v.h_13_4, agg := v.h_13_5, bad := v.h_13_6 : Run }
let y1 : Nat := v.h_2_0l + 1
let y2 : Ty ET.evt := qA.getD v.t_27_0.toNat (dflt ET.evt)
let y3 : ByteArray := y2.name
let y4 : Int := y2.at_
let y5 : List Val := y2.v
let y6 : S.zqcd_T := S.zqcd_o qC qD qE qF qG v.h_13_0 v.h_13_1 v.h_13_2 v.h_13_3 v.h_13_4 v.h_13_5 v.h_13_6 y3 y4 y5
(.br (xdec (v.t_27_0 < qB))
(.br (xdec (0 ≤ v.t_27_0) && xdec (v.t_27_0 < (↑qA.length : Int)))
(.br (xneI v.t_9_0 0)
(.leaf (some 0, v))
(.br (xdec (0 + 1 ≤ ((List.replicate 1 (dflt ET.run)).set 0 y0).length) && xdec (v.h_2_0l ≤ v.h_22.length) && xdec (y1 ≤ 1048576))
(.br (S.zqcd_is qC qD qE qF qG v.h_13_0 v.h_13_1 v.h_13_2 v.h_13_3 v.h_13_4 v.h_13_5 v.h_13_6 y3 y4 y5)
(.leaf (none, ⟨y6.x7, xwrap IntKind.i64 (v.t_27_0 + 1), false, y1, y6.x0, y6.x1, y6.x2, y6.x3, y6.x4, y6.x5, y6.x6, List.take v.h_2_0l v.h_22 ++ [y0]⟩))
.fail)
.fail))
.fail)
(.leaf (some 1, v)))
def S.zqbh_4_r (qA : List (Ty .evt)) (qB : Int) (qC : List (Ty .step)) (qD : Int) (qE : Int) (qF : Int) (qG : Int) (v : S.zqbh_4_V) : Option (Option Nat × S.zqbh_4_V) := (S.zqbh_4_R qA qB qC qD qE qF qG v).run
def S.zqbh_4_j (qA : List (Ty .evt)) (qB : Int) (qC : List (Ty .step)) (qD : Int) (qE : Int) (qF : Int) (qG : Int) (v : S.zqbh_4_V) (j : Nat) : Bool := Lp_j (S.zqbh_4_r qA qB qC qD qE qF qG) v j
def S.zqbh_4_v (qA : List (Ty .evt)) (qB : Int) (qC : List (Ty .step)) (qD : Int) (qE : Int) (qF : Int) (qG : Int) (v : S.zqbh_4_V) : S.zqbh_4_V := Lp_v (S.zqbh_4_r qA qB qC qD qE qF qG) v
def mk_zqbh_4 (qH : Option Bool) (qI : Bool) (qA : List (Ty .evt)) (qB : Int) (qJ : Option Bool) (qK : Bool) (qC : List (Ty .step)) (qD : Int) (qE : Int) (qF : Int) (qG : Int) (qL : Option Bool) (qM : Bool) (qN : List (Ty .run)) (qO : Int) (qP : Int) (qQ : Int) (qR : Int) (qS : Int) (qT : Int) (qU : Bool) (qV : Bool) (qW : Int) (qX : Int) (qY : Int) (qZ : Int) (rA : Int) (rB : Int) (rC : Bool) (rD : Bool) (v : S.zqbh_4_V) : St := ⟨[V.any, V.any, V.any, V.v false [C.ptr 0 0], V.any, V.any, V.v false [C.ptr 1 0], V.v false [C.ptr 2 0], V.v false [C.ptr 13 0],
  V.v false [C.d (.sc (.int .i64 v.t_9_0))], V.any, V.any, V.any, V.any, V.any, V.any, V.any, V.any, V.any, V.any, V.any, V.any, V.any, V.any, V.any,
  V.v false [C.d (.sl qH qI ET.evt qA)], V.v false [C.d (.sc (.int .i64 qB))], V.v false [C.d (.sc (.int .i64 v.t_27_0))], V.any, V.any,
  V.any, V.any, V.any, V.any, V.any, V.any, V.any, V.any, V.any, V.any, V.any, V.any, V.any, V.any, V.any, V.any, V.any, V.any, V.any, V.any, V.any, V.any, V.any, V.any, V.any,
  V.any, V.any, V.any, V.any, V.any, V.any], [some
    (Blk.box 45
      [C.d (.sl qJ qK ET.step qC), C.d (.sc (.int .i64 qD)), C.d (.sc (.int .i64 qE)), C.d (.sc (.int .i64 qF)),
        C.d (.sc (.int .i64 qG))]),
  some
    (Blk.box 157
      [C.d (.sl qL qM ET.run qN), C.d (.sc (.int .i64 qO)), C.d (.sc (.int .i64 qP)), C.d (.sc (.int .i64 qQ)),
        C.d (.sc (.int .i64 qR)), C.d (.sc (.int .i64 qS)), C.d (.sc (.int .i64 qT)), C.d (.sc (.bool qU)),
        C.d (.sc (.bool qV))]),
  some
    (Blk.box 157
      [C.own 22 ET.run v.h_2_0f 0 v.h_2_0l, C.d (.sc (.int .i64 qW)), C.d (.sc (.int .i64 qX)), C.d (.sc (.int .i64 qY)),
        C.d (.sc (.int .i64 qZ)), C.d (.sc (.int .i64 rA)), C.d (.sc (.int .i64 rB)), C.d (.sc (.bool rC)),
        C.d (.sc (.bool rD))]),
  none, none, none, none, none, none, none, none, none, none,
  some
    (Blk.box 55
      [C.d (.sc (.int .i64 v.h_13_0)), C.d (.sc (.int .i64 v.h_13_1)), C.d (.sc (.int .i64 v.h_13_2)), C.d (.sc (.int .i64 v.h_13_3)),
        C.d (.sc (.int .i64 v.h_13_4)), C.d (.sc (.int .i64 v.h_13_5)), C.d (.sc (.bool v.h_13_6))]),
  none, none, none, none, none, none, none, none, some (Blk.arr 55 ET.run v.h_22)], 0⟩
def ex_zqbh_4 (qH : Option Bool) (qI : Bool) (qA : List (Ty .evt)) (qB : Int) (qJ : Option Bool) (qK : Bool) (qC : List (Ty .step)) (qD : Int) (qE : Int) (qF : Int) (qG : Int) (qL : Option Bool) (qM : Bool) (qN : List (Ty .run)) (qO : Int) (qP : Int) (qQ : Int) (qR : Int) (qS : Int) (qT : Int) (qU : Bool) (qV : Bool) (qW : Int) (qX : Int) (qY : Int) (qZ : Int) (rA : Int) (rB : Int) (rC : Bool) (rD : Bool) (j : Nat) (v : S.zqbh_4_V) : Ex × St := match j with
  | 0 => (Ex.exit 0, ⟨[V.any, V.any, V.any, V.any, V.any, V.any, V.v false [C.ptr 1 0], V.v false [C.ptr 2 0], V.v false [C.ptr 13 0], V.v false [C.d (.sc (.int .i64 v.t_9_0))], V.any, V.any,
  V.any, V.any, V.any, V.any, V.any, V.any, V.any, V.any, V.any, V.any, V.any, V.any, V.any, V.any, V.any, V.any, V.any, V.any, V.any, V.any, V.any, V.any, V.any, V.any, V.any,
  V.any, V.any, V.any, V.any, V.any, V.any, V.any, V.any, V.any, V.any, V.any, V.any, V.any, V.any, V.any, V.any, V.any, V.any, V.any, V.any, V.any, V.any, V.any, V.any], [some
    (Blk.box 45
      [C.d (.sl qJ qK ET.step qC), C.d (.sc (.int .i64 qD)), C.d (.sc (.int .i64 qE)), C.d (.sc (.int .i64 qF)),
        C.d (.sc (.int .i64 qG))]),
  some
    (Blk.box 157
      [C.d (.sl qL qM ET.run qN), C.d (.sc (.int .i64 qO)), C.d (.sc (.int .i64 qP)), C.d (.sc (.int .i64 qQ)),
        C.d (.sc (.int .i64 qR)), C.d (.sc (.int .i64 qS)), C.d (.sc (.int .i64 qT)), C.d (.sc (.bool qU)),
        C.d (.sc (.bool qV))]),
  some
    (Blk.box 157
      [C.own 22 ET.run v.h_2_0f 0 v.h_2_0l, C.d (.sc (.int .i64 qW)), C.d (.sc (.int .i64 qX)), C.d (.sc (.int .i64 qY)),
        C.d (.sc (.int .i64 qZ)), C.d (.sc (.int .i64 rA)), C.d (.sc (.int .i64 rB)), C.d (.sc (.bool rC)),
        C.d (.sc (.bool rD))]),
  none, none, none, none, none, none, none, none, none, none,
  some
    (Blk.box 55
      [C.d (.sc (.int .i64 v.h_13_0)), C.d (.sc (.int .i64 v.h_13_1)), C.d (.sc (.int .i64 v.h_13_2)), C.d (.sc (.int .i64 v.h_13_3)),
        C.d (.sc (.int .i64 v.h_13_4)), C.d (.sc (.int .i64 v.h_13_5)), C.d (.sc (.bool v.h_13_6))]),
  none, none, none, none, none, none, none, none, some (Blk.arr 55 ET.run v.h_22), none, none, none,
  some
    (Blk.box 29
      [C.d (.sc (.str (qA.getD v.t_27_0.toNat (dflt ET.evt)).name)), C.d (.sc (.int .i64 (qA.getD v.t_27_0.toNat (dflt ET.evt)).at_)),
        C.d (.sl none false ET.val (qA.getD v.t_27_0.toNat (dflt ET.evt)).v)]),
  none, none, none], 0⟩)
  | 1 => (Ex.exit 0, ⟨[V.any, V.any, V.any, V.any, V.any, V.any, V.v false [C.ptr 1 0], V.v false [C.ptr 2 0], V.v false [C.ptr 13 0], V.v false [C.d (.sc (.int .i64 v.t_9_0))], V.any, V.any,
  V.any, V.any, V.any, V.any, V.any, V.any, V.any, V.any, V.any, V.any, V.any, V.any, V.any, V.any, V.any, V.any, V.any, V.any, V.any, V.any, V.any, V.any, V.any, V.any, V.any,
  V.any, V.any, V.any, V.any, V.any, V.any, V.any, V.any, V.any, V.any, V.any, V.any, V.any, V.any, V.any, V.any, V.any, V.any, V.any, V.any, V.any, V.any, V.any, V.any], [some
    (Blk.box 45
      [C.d (.sl qJ qK ET.step qC), C.d (.sc (.int .i64 qD)), C.d (.sc (.int .i64 qE)), C.d (.sc (.int .i64 qF)),
        C.d (.sc (.int .i64 qG))]),
  some
    (Blk.box 157
      [C.d (.sl qL qM ET.run qN), C.d (.sc (.int .i64 qO)), C.d (.sc (.int .i64 qP)), C.d (.sc (.int .i64 qQ)),
        C.d (.sc (.int .i64 qR)), C.d (.sc (.int .i64 qS)), C.d (.sc (.int .i64 qT)), C.d (.sc (.bool qU)),
        C.d (.sc (.bool qV))]),
  some
    (Blk.box 157
      [C.own 22 ET.run v.h_2_0f 0 v.h_2_0l, C.d (.sc (.int .i64 qW)), C.d (.sc (.int .i64 qX)), C.d (.sc (.int .i64 qY)),
        C.d (.sc (.int .i64 qZ)), C.d (.sc (.int .i64 rA)), C.d (.sc (.int .i64 rB)), C.d (.sc (.bool rC)),
        C.d (.sc (.bool rD))]),
  none, none, none, none, none, none, none, none, none, none,
  some
    (Blk.box 55
      [C.d (.sc (.int .i64 v.h_13_0)), C.d (.sc (.int .i64 v.h_13_1)), C.d (.sc (.int .i64 v.h_13_2)), C.d (.sc (.int .i64 v.h_13_3)),
        C.d (.sc (.int .i64 v.h_13_4)), C.d (.sc (.int .i64 v.h_13_5)), C.d (.sc (.bool v.h_13_6))]),
  none, none, none, none, none, none, none, none, some (Blk.arr 55 ET.run v.h_22), none], 0⟩)
  | _ => (.ret, ⟨[], [], 0⟩)
def U_zqbh_4_e3 (x : V) (K : Tree) : Tree := match x with
  | V.v false [C.ptr 0 0] => K
  | _ => .bad
def U_zqbh_4_e6 (x : V) (K : Tree) : Tree := match x with
  | V.v false [C.ptr 1 0] => K
  | _ => .bad
def U_zqbh_4_e7 (x : V) (K : Tree) : Tree := match x with
  | V.v false [C.ptr 2 0] => K
  | _ => .bad
def U_zqbh_4_e8 (x : V) (K : Tree) : Tree := match x with
  | V.v false [C.ptr 13 0] => K
  | _ => .bad
def U_zqbh_4_e9 (x : V) (K : Int → Tree) : Tree := match x with
  | V.v false [C.d (.sc (.int .i64 t_9_0))] => K t_9_0
  | _ => .bad
def U_zqbh_4_e25 (x : V) (K : (Option Bool) → Bool → (List (Ty .evt)) → Tree) : Tree := match x with
  | V.v false [C.d (.sl qH qI ET.evt qA)] => K qH qI qA
  | _ => .bad
def U_zqbh_4_e26 (x : V) (K : Int → Tree) : Tree := match x with
  | V.v false [C.d (.sc (.int .i64 qB))] => K qB
  | _ => .bad
def U_zqbh_4_e27 (x : V) (K : Int → Tree) : Tree := match x with
  | V.v false [C.d (.sc (.int .i64 t_27_0))] => K t_27_0
  | _ => .bad
def U_zqbh_4_h0 (x : Option Blk) (K : (Option Bool) → Bool → (List (Ty .step)) → Int → Int → Int → Int → Tree) : Tree := match x with
  | some (Blk.box 45 [C.d (.sl qJ qK ET.step qC), C.d (.sc (.int .i64 qD)), C.d (.sc (.int .i64 qE)), C.d (.sc (.int .i64 qF)), C.d (.sc (.int .i64 qG))]) => K qJ qK qC qD qE qF qG
  | _ => .bad
def U_zqbh_4_h1 (x : Option Blk) (K : (Option Bool) → Bool → (List (Ty .run)) → Int → Int → Int → Int → Int → Int → Bool → Bool → Tree) : Tree := match x with
  | some (Blk.box 157 [C.d (.sl qL qM ET.run qN), C.d (.sc (.int .i64 qO)), C.d (.sc (.int .i64 qP)), C.d (.sc (.int .i64 qQ)), C.d (.sc (.int .i64 qR)), C.d (.sc (.int .i64 qS)), C.d (.sc (.int .i64 qT)), C.d (.sc (.bool qU)), C.d (.sc (.bool qV))]) => K qL qM qN qO qP qQ qR qS qT qU qV
  | _ => .bad
def U_zqbh_4_h2 (x : Option Blk) (K : Bool → Nat → Int → Int → Int → Int → Int → Int → Bool → Bool → Tree) : Tree := match x with
  | some (Blk.box 157 [C.own 22 ET.run h_2_0f 0 h_2_0l, C.d (.sc (.int .i64 qW)), C.d (.sc (.int .i64 qX)), C.d (.sc (.int .i64 qY)), C.d (.sc (.int .i64 qZ)), C.d (.sc (.int .i64 rA)), C.d (.sc (.int .i64 rB)), C.d (.sc (.bool rC)), C.d (.sc (.bool rD))]) => K h_2_0f h_2_0l qW qX qY qZ rA rB rC rD
  | _ => .bad
def U_zqbh_4_h13 (x : Option Blk) (K : Int → Int → Int → Int → Int → Int → Bool → Tree) : Tree := match x with
  | some (Blk.box 55 [C.d (.sc (.int .i64 h_13_0)), C.d (.sc (.int .i64 h_13_1)), C.d (.sc (.int .i64 h_13_2)), C.d (.sc (.int .i64 h_13_3)), C.d (.sc (.int .i64 h_13_4)), C.d (.sc (.int .i64 h_13_5)), C.d (.sc (.bool h_13_6))]) => K h_13_0 h_13_1 h_13_2 h_13_3 h_13_4 h_13_5 h_13_6
  | _ => .bad
def U_zqbh_4_h22 (x : Option Blk) (K : (List (Ty .run)) → Tree) : Tree := match x with
  | some (Blk.arr 55 ET.run h_22) => K h_22
  | _ => .bad
def T1_zqbh_4 (e3 : V) (e6 : V) (e7 : V) (e8 : V) (e9 : V) (e25 : V) (e26 : V) (e27 : V) (h0 : Option Blk) (h1 : Option Blk) (h2 : Option Blk) (h13 : Option Blk) (h22 : Option Blk) : Tree := U_zqbh_4_e3 e3 (U_zqbh_4_e6 e6 (U_zqbh_4_e7 e7 (U_zqbh_4_e8 e8 (U_zqbh_4_e9 e9 (fun t_9_0 => U_zqbh_4_e25 e25 (fun qH qI qA => U_zqbh_4_e26 e26 (fun qB => U_zqbh_4_e27 e27 (fun t_27_0 => U_zqbh_4_h0 h0 (fun qJ qK qC qD qE qF qG => U_zqbh_4_h1 h1 (fun qL qM qN qO qP qQ qR qS qT qU qV => U_zqbh_4_h2 h2 (fun h_2_0f h_2_0l qW qX qY qZ rA rB rC rD => U_zqbh_4_h13 h13 (fun h_13_0 h_13_1 h_13_2 h_13_3 h_13_4 h_13_5 h_13_6 => U_zqbh_4_h22 h22 (fun h_22 => exT (fun j => ex_zqbh_4 qH qI qA qB qJ qK qC qD qE qF qG qL qM qN qO qP qQ qR qS qT qU qV qW qX qY qZ rA rB rC rD j (S.zqbh_4_v qA qB qC qD qE qF qG ⟨t_9_0, t_27_0, h_2_0f, h_2_0l, h_13_0, h_13_1, h_13_2, h_13_3, h_13_4, h_13_5, h_13_6, h_22⟩)) (S.zqbh_4_j qA qB qC qD qE qF qG ⟨t_9_0, t_27_0, h_2_0f, h_2_0l, h_13_0, h_13_1, h_13_2, h_13_3, h_13_4, h_13_5, h_13_6, h_22⟩) [0, 1])))))))))))))
def T_zqbh_4 (st : St) : Tree := bif okSt 61 23 0 [0, 1, 2, 13, 22] st then T1_zqbh_4 (st.env.getD 3 .any) (st.env.getD 6 .any) (st.env.getD 7 .any) (st.env.getD 8 .any) (st.env.getD 9 .any) (st.env.getD 25 .any) (st.env.getD 26 .any) (st.env.getD 27 .any) (lk st.heap 0) (lk st.heap 1) (lk st.heap 2) (lk st.heap 13) (lk st.heap 22) else .bad
def b_zqbh_4 : Code := loopBy Try.f116 4
theorem rnd_zqbh_4 (qH : Option Bool) (qI : Bool) (qA : List (Ty .evt)) (qB : Int) (qJ : Option Bool) (qK : Bool) (qC : List (Ty .step)) (qD : Int) (qE : Int) (qF : Int) (qG : Int) (qL : Option Bool) (qM : Bool) (qN : List (Ty .run)) (qO : Int) (qP : Int) (qQ : Int) (qR : Int) (qS : Int) (qT : Int) (qU : Bool) (qV : Bool) (qW : Int) (qX : Int) (qY : Int) (qZ : Int) (rA : Int) (rB : Int) (rC : Bool) (rD : Bool) (v : S.zqbh_4_V) : round2 cx_zqbh (hdI cx_zqbh (find []) [] none 0) 116 b_zqbh_4 [22] 23 [6, 7, 8, 9] (mk_zqbh_4 qH qI qA qB qJ qK qC qD qE qF qG qL qM qN qO qP qQ qR qS qT qU qV qW qX qY qZ rA rB rC rD v) = (S.zqbh_4_R qA qB qC qD qE qF qG v).go (roundOut (mk_zqbh_4 qH qI qA qB qJ qK qC qD qE qF qG qL qM qN qO qP qQ qR qS qT qU qV qW qX qY qZ rA rB rC rD) (ex_zqbh_4 qH qI qA qB qJ qK qC qD qE qF qG qL qM qN qO qP qQ qR qS qT qU qV qW qX qY qZ rA rB rC rD)) := by kernel_rfl
theorem bs_zqbh_4 : loopsOf b_zqbh_4 ++ loopsInl [] ++ loopsRf [] = [] := by kernel_rfl
theorem ci_zqbh_4 (qH : Option Bool) (qI : Bool) (qA : List (Ty .evt)) (qB : Int) (qJ : Option Bool) (qK : Bool) (qC : List (Ty .step)) (qD : Int) (qE : Int) (qF : Int) (qG : Int) (qL : Option Bool) (qM : Bool) (qN : List (Ty .run)) (qO : Int) (qP : Int) (qQ : Int) (qR : Int) (qS : Int) (qT : Int) (qU : Bool) (qV : Bool) (qW : Int) (qX : Int) (qY : Int) (qZ : Int) (rA : Int) (rB : Int) (rC : Bool) (rD : Bool) : ∀ v j v2, Lp (S.zqbh_4_r qA qB qC qD qE qF qG) v = some (j, v2) → Circles Try.prog cx_zqbh b_zqbh_4 (mk_zqbh_4 qH qI qA qB qJ qK qC qD qE qF qG qL qM qN qO qP qQ qR qS qT qU qV qW qX qY qZ rA rB rC rD v) (ex_zqbh_4 qH qI qA qB qJ qK qC qD qE qF qG qL qM qN qO qP qQ qR qS qT qU qV qW qX qY qZ rA rB rC rD j v2).1 (ex_zqbh_4 qH qI qA qB qJ qK qC qD qE qF qG qL qM qN qO qP qQ qR qS qT qU qV qW qX qY qZ rA rB rC rD j v2).2 :=
  loop_ok3 (L := find []) (n := 0) (hints := [(116, 4, { keep := [3, 6, 7, 8, 9, 25, 26, 27], acc := [(7, some 0, .run, 55)] })]) (cx_ok rfl) rdy_zqbh prs_zqbh bs_zqbh_4 nilB (fun v => (rnd_zqbh_4 qH qI qA qB qJ qK qC qD qE qF qG qL qM qN qO qP qQ qR qS qT qU qV qW qX qY qZ rA rB rC rD v).trans (DT.go_run _ _)) (by intro j v; unfold ex_zqbh_4; split <;> rfl)
theorem mke_zqbh_4 (qH : Option Bool) (qI : Bool) (qA : List (Ty .evt)) (qB : Int) (qJ : Option Bool) (qK : Bool) (qC : List (Ty .step)) (qD : Int) (qE : Int) (qF : Int) (qG : Int) (qL : Option Bool) (qM : Bool) (qN : List (Ty .run)) (qO : Int) (qP : Int) (qQ : Int) (qR : Int) (qS : Int) (qT : Int) (qU : Bool) (qV : Bool) (qW : Int) (qX : Int) (qY : Int) (qZ : Int) (rA : Int) (rB : Int) (rC : Bool) (rD : Bool) (v : S.zqbh_4_V) : mk_zqbh_4 qH qI qA qB qJ qK qC qD qE qF qG qL qM qN qO qP qQ qR qS qT qU qV qW qX qY qZ rA rB rC rD v = ⟨envOf 61 [(3, V.v false [C.ptr 0 0]), (6, V.v false [C.ptr 1 0]), (7, V.v false [C.ptr 2 0]), (8, V.v false [C.ptr 13 0]), (9, V.v false [C.d (.sc (.int .i64 v.t_9_0))]), (25, V.v false [C.d (.sl qH qI ET.evt qA)]), (26, V.v false [C.d (.sc (.int .i64 qB))]), (27, V.v false [C.d (.sc (.int .i64 v.t_27_0))])], heapOf 23 [(0, some
  (Blk.box 45
    [C.d (.sl qJ qK ET.step qC), C.d (.sc (.int .i64 qD)), C.d (.sc (.int .i64 qE)), C.d (.sc (.int .i64 qF)),
      C.d (.sc (.int .i64 qG))])), (1, some
  (Blk.box 157
    [C.d (.sl qL qM ET.run qN), C.d (.sc (.int .i64 qO)), C.d (.sc (.int .i64 qP)), C.d (.sc (.int .i64 qQ)),
      C.d (.sc (.int .i64 qR)), C.d (.sc (.int .i64 qS)), C.d (.sc (.int .i64 qT)), C.d (.sc (.bool qU)), C.d (.sc (.bool qV))])), (2, some
  (Blk.box 157
    [C.own 22 ET.run v.h_2_0f 0 v.h_2_0l, C.d (.sc (.int .i64 qW)), C.d (.sc (.int .i64 qX)), C.d (.sc (.int .i64 qY)),
      C.d (.sc (.int .i64 qZ)), C.d (.sc (.int .i64 rA)), C.d (.sc (.int .i64 rB)), C.d (.sc (.bool rC)), C.d (.sc (.bool rD))])), (13, some
  (Blk.box 55
    [C.d (.sc (.int .i64 v.h_13_0)), C.d (.sc (.int .i64 v.h_13_1)), C.d (.sc (.int .i64 v.h_13_2)), C.d (.sc (.int .i64 v.h_13_3)),
      C.d (.sc (.int .i64 v.h_13_4)), C.d (.sc (.int .i64 v.h_13_5)), C.d (.sc (.bool v.h_13_6))])), (22, some (Blk.arr 55 ET.run v.h_22))], 0⟩ := by kernel_rfl
theorem Ui_zqbh_4_e3 {x : V} {K : Tree} {z : Ex × St} (h : (U_zqbh_4_e3 x K).eval = some z) : x = V.v false [C.ptr 0 0] ∧ (K).eval = some z := by
  unfold U_zqbh_4_e3 at h
  split at h
  · exact ⟨rfl, h⟩
  · cases h
theorem Ui_zqbh_4_e6 {x : V} {K : Tree} {z : Ex × St} (h : (U_zqbh_4_e6 x K).eval = some z) : x = V.v false [C.ptr 1 0] ∧ (K).eval = some z := by
  unfold U_zqbh_4_e6 at h
  split at h
  · exact ⟨rfl, h⟩
  · cases h
theorem Ui_zqbh_4_e7 {x : V} {K : Tree} {z : Ex × St} (h : (U_zqbh_4_e7 x K).eval = some z) : x = V.v false [C.ptr 2 0] ∧ (K).eval = some z := by
  unfold U_zqbh_4_e7 at h
  split at h
  · exact ⟨rfl, h⟩
  · cases h
theorem Ui_zqbh_4_e8 {x : V} {K : Tree} {z : Ex × St} (h : (U_zqbh_4_e8 x K).eval = some z) : x = V.v false [C.ptr 13 0] ∧ (K).eval = some z := by
  unfold U_zqbh_4_e8 at h
  split at h
  · exact ⟨rfl, h⟩
  · cases h
theorem Ui_zqbh_4_e9 {x : V} {K : Int → Tree} {z : Ex × St} (h : (U_zqbh_4_e9 x K).eval = some z) : ∃ (t_9_0 : Int), x = V.v false [C.d (.sc (.int .i64 t_9_0))] ∧ (K t_9_0).eval = some z := by
  unfold U_zqbh_4_e9 at h
  split at h
  · exact ⟨_, rfl, h⟩
  · cases h
theorem Ui_zqbh_4_e25 {x : V} {K : (Option Bool) → Bool → (List (Ty .evt)) → Tree} {z : Ex × St} (h : (U_zqbh_4_e25 x K).eval = some z) : ∃ (qH : Option Bool) (qI : Bool) (qA : List (Ty .evt)), x = V.v false [C.d (.sl qH qI ET.evt qA)] ∧ (K qH qI qA).eval = some z := by
  unfold U_zqbh_4_e25 at h
  split at h
  · exact ⟨_, _, _, rfl, h⟩
  · cases h
theorem Ui_zqbh_4_e26 {x : V} {K : Int → Tree} {z : Ex × St} (h : (U_zqbh_4_e26 x K).eval = some z) : ∃ (qB : Int), x = V.v false [C.d (.sc (.int .i64 qB))] ∧ (K qB).eval = some z := by
  unfold U_zqbh_4_e26 at h
  split at h
  · exact ⟨_, rfl, h⟩
  · cases h
theorem Ui_zqbh_4_e27 {x : V} {K : Int → Tree} {z : Ex × St} (h : (U_zqbh_4_e27 x K).eval = some z) : ∃ (t_27_0 : Int), x = V.v false [C.d (.sc (.int .i64 t_27_0))] ∧ (K t_27_0).eval = some z := by
  unfold U_zqbh_4_e27 at h
  split at h
  · exact ⟨_, rfl, h⟩
  · cases h
theorem Ui_zqbh_4_h0 {x : Option Blk} {K : (Option Bool) → Bool → (List (Ty .step)) → Int → Int → Int → Int → Tree} {z : Ex × St} (h : (U_zqbh_4_h0 x K).eval = some z) : ∃ (qJ : Option Bool) (qK : Bool) (qC : List (Ty .step)) (qD : Int) (qE : Int) (qF : Int) (qG : Int), x = some (Blk.box 45 [C.d (.sl qJ qK ET.step qC), C.d (.sc (.int .i64 qD)), C.d (.sc (.int .i64 qE)), C.d (.sc (.int .i64 qF)), C.d (.sc (.int .i64 qG))]) ∧ (K qJ qK qC qD qE qF qG).eval = some z := by
  unfold U_zqbh_4_h0 at h
  split at h
  · exact ⟨_, _, _, _, _, _, _, rfl, h⟩
  · cases h
theorem Ui_zqbh_4_h1 {x : Option Blk} {K : (Option Bool) → Bool → (List (Ty .run)) → Int → Int → Int → Int → Int → Int → Bool → Bool → Tree} {z : Ex × St} (h : (U_zqbh_4_h1 x K).eval = some z) : ∃ (qL : Option Bool) (qM : Bool) (qN : List (Ty .run)) (qO : Int) (qP : Int) (qQ : Int) (qR : Int) (qS : Int) (qT : Int) (qU : Bool) (qV : Bool), x = some (Blk.box 157 [C.d (.sl qL qM ET.run qN), C.d (.sc (.int .i64 qO)), C.d (.sc (.int .i64 qP)), C.d (.sc (.int .i64 qQ)), C.d (.sc (.int .i64 qR)), C.d (.sc (.int .i64 qS)), C.d (.sc (.int .i64 qT)), C.d (.sc (.bool qU)), C.d (.sc (.bool qV))]) ∧ (K qL qM qN qO qP qQ qR qS qT qU qV).eval = some z := by
  unfold U_zqbh_4_h1 at h
  split at h
  · exact ⟨_, _, _, _, _, _, _, _, _, _, _, rfl, h⟩
  · cases h
theorem Ui_zqbh_4_h2 {x : Option Blk} {K : Bool → Nat → Int → Int → Int → Int → Int → Int → Bool → Bool → Tree} {z : Ex × St} (h : (U_zqbh_4_h2 x K).eval = some z) : ∃ (h_2_0f : Bool) (h_2_0l : Nat) (qW : Int) (qX : Int) (qY : Int) (qZ : Int) (rA : Int) (rB : Int) (rC : Bool) (rD : Bool), x = some (Blk.box 157 [C.own 22 ET.run h_2_0f 0 h_2_0l, C.d (.sc (.int .i64 qW)), C.d (.sc (.int .i64 qX)), C.d (.sc (.int .i64 qY)), C.d (.sc (.int .i64 qZ)), C.d (.sc (.int .i64 rA)), C.d (.sc (.int .i64 rB)), C.d (.sc (.bool rC)), C.d (.sc (.bool rD))]) ∧ (K h_2_0f h_2_0l qW qX qY qZ rA rB rC rD).eval = some z := by
  unfold U_zqbh_4_h2 at h
  split at h
  · exact ⟨_, _, _, _, _, _, _, _, _, _, rfl, h⟩
  · cases h
theorem Ui_zqbh_4_h13 {x : Option Blk} {K : Int → Int → Int → Int → Int → Int → Bool → Tree} {z : Ex × St} (h : (U_zqbh_4_h13 x K).eval = some z) : ∃ (h_13_0 : Int) (h_13_1 : Int) (h_13_2 : Int) (h_13_3 : Int) (h_13_4 : Int) (h_13_5 : Int) (h_13_6 : Bool), x = some (Blk.box 55 [C.d (.sc (.int .i64 h_13_0)), C.d (.sc (.int .i64 h_13_1)), C.d (.sc (.int .i64 h_13_2)), C.d (.sc (.int .i64 h_13_3)), C.d (.sc (.int .i64 h_13_4)), C.d (.sc (.int .i64 h_13_5)), C.d (.sc (.bool h_13_6))]) ∧ (K h_13_0 h_13_1 h_13_2 h_13_3 h_13_4 h_13_5 h_13_6).eval = some z := by
  unfold U_zqbh_4_h13 at h
  split at h
  · exact ⟨_, _, _, _, _, _, _, rfl, h⟩
  · cases h
theorem Ui_zqbh_4_h22 {x : Option Blk} {K : (List (Ty .run)) → Tree} {z : Ex × St} (h : (U_zqbh_4_h22 x K).eval = some z) : ∃ (h_22 : List (Ty .run)), x = some (Blk.arr 55 ET.run h_22) ∧ (K h_22).eval = some z := by
  unfold U_zqbh_4_h22 at h
  split at h
  · exact ⟨_, rfl, h⟩
  · cases h
theorem lo1_zqbh_4 (e3 : V) (e6 : V) (e7 : V) (e8 : V) (e9 : V) (e25 : V) (e26 : V) (e27 : V) (h0 : Option Blk) (h1 : Option Blk) (h2 : Option Blk) (h13 : Option Blk) (h22 : Option Blk) e st2 (h : (T1_zqbh_4 e3 e6 e7 e8 e9 e25 e26 e27 h0 h1 h2 h13 h22).eval = some (e, st2)) : Circles Try.prog cx_zqbh b_zqbh_4 ⟨envOf 61 [(3, e3), (6, e6), (7, e7), (8, e8), (9, e9), (25, e25), (26, e26), (27, e27)], heapOf 23 [(0, h0), (1, h1), (2, h2), (13, h13), (22, h22)], 0⟩ e st2 := by
  unfold T1_zqbh_4 at h
  obtain ⟨rfl, h⟩ := Ui_zqbh_4_e3 h
  obtain ⟨rfl, h⟩ := Ui_zqbh_4_e6 h
  obtain ⟨rfl, h⟩ := Ui_zqbh_4_e7 h
  obtain ⟨rfl, h⟩ := Ui_zqbh_4_e8 h
  obtain ⟨t_9_0, rfl, h⟩ := Ui_zqbh_4_e9 h
  obtain ⟨qH, qI, qA, rfl, h⟩ := Ui_zqbh_4_e25 h
  obtain ⟨qB, rfl, h⟩ := Ui_zqbh_4_e26 h
  obtain ⟨t_27_0, rfl, h⟩ := Ui_zqbh_4_e27 h
  obtain ⟨qJ, qK, qC, qD, qE, qF, qG, rfl, h⟩ := Ui_zqbh_4_h0 h
  obtain ⟨qL, qM, qN, qO, qP, qQ, qR, qS, qT, qU, qV, rfl, h⟩ := Ui_zqbh_4_h1 h
  obtain ⟨h_2_0f, h_2_0l, qW, qX, qY, qZ, rA, rB, rC, rD, rfl, h⟩ := Ui_zqbh_4_h2 h
  obtain ⟨h_13_0, h_13_1, h_13_2, h_13_3, h_13_4, h_13_5, h_13_6, rfl, h⟩ := Ui_zqbh_4_h13 h
  obtain ⟨h_22, rfl, h⟩ := Ui_zqbh_4_h22 h
  have := loop_tree (mk := mk_zqbh_4 qH qI qA qB qJ qK qC qD qE qF qG qL qM qN qO qP qQ qR qS qT qU qV qW qX qY qZ rA rB rC rD) (ci_zqbh_4 qH qI qA qB qJ qK qC qD qE qF qG qL qM qN qO qP qQ qR qS qT qU qV qW qX qY qZ rA rB rC rD) _ _ e st2 h
  rw [mke_zqbh_4] at this
  exact this
theorem lok_zqbh_4 : LoopOk Try.prog cx_zqbh b_zqbh_4 T_zqbh_4 := by
  intro st e st2 h
  unfold T_zqbh_4 at h
  cases hk : okSt 61 23 0 [0, 1, 2, 13, 22] st with
  | false => rw [hk] at h; cases h
  | true =>
    rw [hk] at h
    exact circles_keep (ks := [3, 6, 7, 8, 9, 25, 26, 27]) hk (lo1_zqbh_4 _ _ _ _ _ _ _ _ _ _ _ _ _ e st2 h)
structure S.zqbh_T where
  x0 : List (Ty .run)
  x1 : Bool
  x2 : Nat
  x3 : Int
  x4 : Int
  x5 : Int
  x6 : Int
  x7 : Int
  x8 : Int
  x9 : Bool
  x10 : Bool
  deriving Inhabited
def S.zqbh_R (a0_0 : List (Ty .step)) (a0_1 : Int) (a0_2 : Int) (a0_3 : Int) (a0_4 : Int) (a1 : List (Ty .evt)) (a2 : Int) : DT S.zqbh_T :=
let y0 : Nat := a1.length
let y1 : Ty ET.evt := a1.getD a2.toNat (dflt ET.evt)
let y2 : ByteArray := y1.name
let y3 : Int := y1.at_
let y4 : List Val := y1.v
let y5 : Int := xwrap IntKind.i64 (a2 + 1)
let y6 : List (Ty .evt) := sub a1 y5.toNat y0
let y7 : Int := (↑y6.length : Int)
let y8 : S.zqbv_T := S.zqbv_o a0_0 a0_2 a0_3 a0_4 y2 y3 y4 a2
let y9 : S.zqbh_4_V := { t_9_0 := y8.x7, t_27_0 := 0, h_2_0f := true, h_2_0l := 0, h_13_0 := y8.x0, h_13_1 := y8.x1, h_13_2 := y8.x2, h_13_3 := y8.x3, h_13_4 := y8.x4, h_13_5 := y8.x5, h_13_6 := y8.x6, h_22 := [] : S.zqbh_4_V }
let y10 : S.zqbh_4_V := S.zqbh_4_v y6 y7 a0_0 a0_1 a0_2 a0_3 a0_4 y9
let y11 : Int := y10.t_9_0
let y12 : Bool := xeqI y11 0
let y13 : Int := y10.h_13_0
let y14 : Int := y10.h_13_1
let y15 : Int := y10.h_13_2
let y16 : Int := y10.h_13_3
let y17 : Int := y10.h_13_4
let y18 : Int := y10.h_13_5
let y19 : Bool := y10.h_13_6
let y20 : Run := { first := y13, at_ := y14, step := y15, n := y16, many := y17, agg := y18, bad := y19 : Run }
let y21 : Nat := y10.h_2_0l
let y22 : List (Ty .run) := y10.h_22
let y23 : Nat := y21 + 1
let y24 : Bool := xdec (0 + 1 ≤ ((List.replicate 1 (dflt ET.run)).set 0 y20).length) && xdec (y21 ≤ y22.length) && xdec (y23 ≤ 1048576)
let y25 : List (Ty .run) := List.take y21 y22 ++ [y20]
let y26 : Bool := xeqI y11 2
let y27 : Bool := y10.h_2_0f
(.br (xdec (0 ≤ a2) && xdec (a2 < (↑y0 : Int)))
(.br (S.zqbv_is a0_0 a0_2 a0_3 a0_4 y2 y3 y4 a2)
(.br (xdec (0 ≤ y5) && xdec (y5 ≤ Int.ofNat y0) && true && true)
(.br (S.zqbh_4_j y6 y7 a0_0 a0_1 a0_2 a0_3 a0_4 y9 0)
(.br (y12)
(.br (y24)
(.leaf ⟨y25, false, y23, y13, y14, y15, y16, y17, y18, y19, y26⟩)
.fail)
(.leaf ⟨y22, y27, y21, y13, y14, y15, y16, y17, y18, y19, y26⟩))
(.br (S.zqbh_4_j y6 y7 a0_0 a0_1 a0_2 a0_3 a0_4 y9 1)
(.br (y12)
(.br (y24)
(.leaf ⟨y25, false, y23, y13, y14, y15, y16, y17, y18, y19, y26⟩)
.fail)
(.leaf ⟨y22, y27, y21, y13, y14, y15, y16, y17, y18, y19, y26⟩))
.fail))
.fail)
.fail)
.fail)
def S.zqbh (a0_0 : List (Ty .step)) (a0_1 : Int) (a0_2 : Int) (a0_3 : Int) (a0_4 : Int) (a1 : List (Ty .evt)) (a2 : Int) : Option S.zqbh_T := (S.zqbh_R a0_0 a0_1 a0_2 a0_3 a0_4 a1 a2).run
def S.zqbh_is (a0_0 : List (Ty .step)) (a0_1 : Int) (a0_2 : Int) (a0_3 : Int) (a0_4 : Int) (a1 : List (Ty .evt)) (a2 : Int) : Bool := (S.zqbh a0_0 a0_1 a0_2 a0_3 a0_4 a1 a2).isSome
def S.zqbh_o (a0_0 : List (Ty .step)) (a0_1 : Int) (a0_2 : Int) (a0_3 : Int) (a0_4 : Int) (a1 : List (Ty .evt)) (a2 : Int) : S.zqbh_T := (S.zqbh a0_0 a0_1 a0_2 a0_3 a0_4 a1 a2).getD default
def ret_zqbh (b : Bool) (r : S.zqbh_T) : Ret := ⟨b, some (55, (⟨ET.run, r.x0⟩ : (t : ET) × List (Ty t))), [(true,
    [C.own 0 ET.run r.x1 0 r.x2, C.d (.sc (.int .i64 r.x3)), C.d (.sc (.int .i64 r.x4)), C.d (.sc (.int .i64 r.x5)),
      C.d (.sc (.int .i64 r.x6)), C.d (.sc (.int .i64 r.x7)), C.d (.sc (.int .i64 r.x8)), C.d (.sc (.bool r.x9)), C.d (.sc (.bool r.x10))])]⟩
def g_zqbh : Con
  | [(true, [.sl a0_0n a0_0f .step a0_0, .sc (.int .i64 a0_1), .sc (.int .i64 a0_2), .sc (.int .i64 a0_3), .sc (.int .i64 a0_4)]), (false, [.sl a1n a1f .evt a1]), (false, [.sc (.int .i64 a2)])] => some (ret_zqbh (S.zqbh_is a0_0 a0_1 a0_2 a0_3 a0_4 a1 a2) (S.zqbh_o a0_0 a0_1 a0_2 a0_3 a0_4 a1 a2))
  | _ => none
theorem raw_zqbh (a0_0n : Option Bool) (a0_0f : Bool) (a0_0 : List (Ty .step)) (a0_1 : Int) (a0_2 : Int) (a0_3 : Int) (a0_4 : Int) (a1n : Option Bool) (a1f : Bool) (a1 : List (Ty .evt)) (a2 : Int) : evR4 cx_zqbh (hdT cx_zqbh (find [(4, T_zqbh_4)]) [] none 0) none Try.f116 116 (some 55) [(true, [.sl a0_0n a0_0f .step a0_0, .sc (.int .i64 a0_1), .sc (.int .i64 a0_2), .sc (.int .i64 a0_3), .sc (.int .i64 a0_4)]), (false, [.sl a1n a1f .evt a1]), (false, [.sc (.int .i64 a2)])] some = (S.zqbh_R a0_0 a0_1 a0_2 a0_3 a0_4 a1 a2).go (ret_zqbh true) := by kernel_rfl
theorem bs_zqbh : loopsIn Try.f116 [] ++ loopsRf [] = [b_zqbh_4] := by kernel_rfl
theorem zqbh_ok : Stands Try.prog tyTab 116 g_zqbh := by
  refine stands4 (L := find [(4, T_zqbh_4)]) (n := 0) (hints := [(116, 4, { keep := [3, 6, 7, 8, 9, 25, 26, 27], acc := [(7, some 0, .run, 55)] })]) (cx_ok rfl) rdy_zqbh prs_zqbh ⟨by kernel_rfl, by kernel_rfl, by kernel_rfl⟩ (rfsOk_none (by kernel_rfl)) bs_zqbh (consB (fun T h => by have e : T_zqbh_4 = T := Option.some.inj (show some T_zqbh_4 = some T from h); exact e ▸ lok_zqbh_4) nilB) (fun das r hG hr => ?_)
  unfold g_zqbh at hG
  split at hG
  · rename_i a0_0n a0_0f a0_0 a0_1 a0_2 a0_3 a0_4 a1n a1f a1 a2
    injection hG with hG; subst hG
    exact ⟨(some 55), true, win default ((raw_zqbh a0_0n a0_0f a0_0 a0_1 a0_2 a0_3 a0_4 a1n a1f a1 a2).trans (DT.go_run _ _)) hr⟩
  · cases hG
abbrev cx_zqah : Cx := mkCx2 tyTab [(118, g_zqbi)] [] [] []
theorem rdy_zqah : Ready Try.prog tyTab [(118, g_zqbi)] [] [] := ⟨consG2 zqbi_ok (noneG2), noneI2, noneF2⟩
structure S.zqah_T where
  x0 : Int
  x1 : Int
  x2 : Int
  x3 : Bool
  x4 : Bool
  deriving Inhabited
def S.zqah_R (a0_0 : List (Ty .run)) (a0_6 : Int) (a0_7 : Bool) (a0_8 : Bool) (a1 : Int) : DT S.zqah_T :=
(.br (xnot a0_8)
(.leaf ⟨0, 0, 0, false, false⟩)
(.leaf ⟨a1, xwrap IntKind.i64 (a1 + (↑a0_0.length : Int)), (S.zqbi_o a0_6 a0_7).x0, (S.zqbi_o a0_6 a0_7).x1, true⟩))
def S.zqah (a0_0 : List (Ty .run)) (a0_6 : Int) (a0_7 : Bool) (a0_8 : Bool) (a1 : Int) : Option S.zqah_T := (S.zqah_R a0_0 a0_6 a0_7 a0_8 a1).run
def S.zqah_is (a0_0 : List (Ty .run)) (a0_6 : Int) (a0_7 : Bool) (a0_8 : Bool) (a1 : Int) : Bool := (S.zqah a0_0 a0_6 a0_7 a0_8 a1).isSome
def S.zqah_o (a0_0 : List (Ty .run)) (a0_6 : Int) (a0_7 : Bool) (a0_8 : Bool) (a1 : Int) : S.zqah_T := (S.zqah a0_0 a0_6 a0_7 a0_8 a1).getD default
def ret_zqah (b : Bool) (r : S.zqah_T) : Ret := ⟨b, none, [(true, [C.d (.sc (.int .i64 r.x0)), C.d (.sc (.int .i64 r.x1)), C.d (.sc (.int .i64 r.x2)), C.d (.sc (.bool r.x3))]),
  (false, [C.d (.sc (.bool r.x4))])]⟩
def g_zqah : Con
  | [(true, [.sl a0_0n a0_0f .run a0_0, .sc (.int .i64 a0_1), .sc (.int .i64 a0_2), .sc (.int .i64 a0_3), .sc (.int .i64 a0_4), .sc (.int .i64 a0_5), .sc (.int .i64 a0_6), .sc (.bool a0_7), .sc (.bool a0_8)]), (false, [.sc (.int .i64 a1)]), (false, [.fn 118 [] []])] => some (ret_zqah (S.zqah_is a0_0 a0_6 a0_7 a0_8 a1) (S.zqah_o a0_0 a0_6 a0_7 a0_8 a1))
  | _ => none
theorem raw_zqah (a0_0n : Option Bool) (a0_0f : Bool) (a0_0 : List (Ty .run)) (a0_1 : Int) (a0_2 : Int) (a0_3 : Int) (a0_4 : Int) (a0_5 : Int) (a0_6 : Int) (a0_7 : Bool) (a0_8 : Bool) (a1 : Int) : evR2 cx_zqah (hdI cx_zqah (find []) [] none 0) none Try.f117 117 none [(true, [.sl a0_0n a0_0f .run a0_0, .sc (.int .i64 a0_1), .sc (.int .i64 a0_2), .sc (.int .i64 a0_3), .sc (.int .i64 a0_4), .sc (.int .i64 a0_5), .sc (.int .i64 a0_6), .sc (.bool a0_7), .sc (.bool a0_8)]), (false, [.sc (.int .i64 a1)]), (false, [.fn 118 [] []])] some = (S.zqah_R a0_0 a0_6 a0_7 a0_8 a1).go (ret_zqah true) := by kernel_rfl
theorem bs_zqah : loopsIn Try.f117 [] = [] := by kernel_rfl
theorem zqah_ok : Stands Try.prog tyTab 117 g_zqah := by
  refine stands3 (L := find []) (n := 0) (hints := []) (cx_ok rfl) rdy_zqah ⟨by kernel_rfl, by kernel_rfl, by kernel_rfl⟩ bs_zqah nilB (fun das r hG hr => ?_)
  unfold g_zqah at hG
  split at hG
  · rename_i a0_0n a0_0f a0_0 a0_1 a0_2 a0_3 a0_4 a0_5 a0_6 a0_7 a0_8 a1
    injection hG with hG; subst hG
    exact ⟨none, true, win default ((raw_zqah a0_0n a0_0f a0_0 a0_1 a0_2 a0_3 a0_4 a0_5 a0_6 a0_7 a0_8 a1).trans (DT.go_run _ _)) hr⟩
  · cases hG
abbrev cx_zqbu : Cx := mkCx2 tyTab [(116, g_zqbh), (117, g_zqah), (118, g_zqbi)] [] [] []
theorem rdy_zqbu : Ready Try.prog tyTab [(116, g_zqbh), (117, g_zqah), (118, g_zqbi)] [] [] := ⟨consG2 zqbh_ok (consG2 zqah_ok (consG2 zqbi_ok (noneG2))), noneI2, noneF2⟩
structure S.zqbu_T where
  x0 : Int
  x1 : Int
  x2 : Int
  x3 : Bool
  x4 : Bool
  deriving Inhabited
def S.zqbu_R (a0_0 : List (Ty .step)) (a0_1 : Int) (a0_2 : Int) (a0_3 : Int) (a0_4 : Int) (a1 : List (Ty .evt)) (a2 : Int) : DT S.zqbu_T :=
let y0 : S.zqbh_T := S.zqbh_o a0_0 a0_1 a0_2 a0_3 a0_4 a1 a2
let y1 : Nat := 0 + y0.x2
let y2 : List (Ty .run) := y0.x0
let y3 : List (Ty .run) := sub y2 0 y1
let y4 : Int := y0.x8
let y5 : Bool := y0.x9
let y6 : Bool := y0.x10
let y7 : S.zqah_T := S.zqah_o y3 y4 y5 y6 a2
(.br (xdec (a2 < 0))
(.leaf ⟨0, 0, 0, false, false⟩)
(.br (xdec (a2 ≥ (↑a1.length : Int)))
(.leaf ⟨0, 0, 0, false, false⟩)
(.br (S.zqbh_is a0_0 a0_1 a0_2 a0_3 a0_4 a1 a2)
(.br (xdec (y1 ≤ y2.length) && true && true && S.zqah_is y3 y4 y5 y6 a2)
(.leaf ⟨y7.x0, y7.x1, y7.x2, y7.x3, y7.x4⟩)
.fail)
.fail)))
def S.zqbu (a0_0 : List (Ty .step)) (a0_1 : Int) (a0_2 : Int) (a0_3 : Int) (a0_4 : Int) (a1 : List (Ty .evt)) (a2 : Int) : Option S.zqbu_T := (S.zqbu_R a0_0 a0_1 a0_2 a0_3 a0_4 a1 a2).run
def S.zqbu_is (a0_0 : List (Ty .step)) (a0_1 : Int) (a0_2 : Int) (a0_3 : Int) (a0_4 : Int) (a1 : List (Ty .evt)) (a2 : Int) : Bool := (S.zqbu a0_0 a0_1 a0_2 a0_3 a0_4 a1 a2).isSome
def S.zqbu_o (a0_0 : List (Ty .step)) (a0_1 : Int) (a0_2 : Int) (a0_3 : Int) (a0_4 : Int) (a1 : List (Ty .evt)) (a2 : Int) : S.zqbu_T := (S.zqbu a0_0 a0_1 a0_2 a0_3 a0_4 a1 a2).getD default
def ret_zqbu (b : Bool) (r : S.zqbu_T) : Ret := ⟨b, none, [(true, [C.d (.sc (.int .i64 r.x0)), C.d (.sc (.int .i64 r.x1)), C.d (.sc (.int .i64 r.x2)), C.d (.sc (.bool r.x3))]),
  (false, [C.d (.sc (.bool r.x4))])]⟩
def g_zqbu : Con
  | [(true, [.sl a0_0n a0_0f .step a0_0, .sc (.int .i64 a0_1), .sc (.int .i64 a0_2), .sc (.int .i64 a0_3), .sc (.int .i64 a0_4)]), (false, [.sl a1n a1f .evt a1]), (false, [.sc (.int .i64 a2)])] => some (ret_zqbu (S.zqbu_is a0_0 a0_1 a0_2 a0_3 a0_4 a1 a2) (S.zqbu_o a0_0 a0_1 a0_2 a0_3 a0_4 a1 a2))
  | _ => none
theorem raw_zqbu (a0_0n : Option Bool) (a0_0f : Bool) (a0_0 : List (Ty .step)) (a0_1 : Int) (a0_2 : Int) (a0_3 : Int) (a0_4 : Int) (a1n : Option Bool) (a1f : Bool) (a1 : List (Ty .evt)) (a2 : Int) : evR2 cx_zqbu (hdI cx_zqbu (find []) [] none 0) none Try.f76 76 none [(true, [.sl a0_0n a0_0f .step a0_0, .sc (.int .i64 a0_1), .sc (.int .i64 a0_2), .sc (.int .i64 a0_3), .sc (.int .i64 a0_4)]), (false, [.sl a1n a1f .evt a1]), (false, [.sc (.int .i64 a2)])] some = (S.zqbu_R a0_0 a0_1 a0_2 a0_3 a0_4 a1 a2).go (ret_zqbu true) := by kernel_rfl
theorem bs_zqbu : loopsIn Try.f76 [] = [] := by kernel_rfl
theorem zqbu_ok : Stands Try.prog tyTab 76 g_zqbu := by
  refine stands3 (L := find []) (n := 0) (hints := []) (cx_ok rfl) rdy_zqbu ⟨by kernel_rfl, by kernel_rfl, by kernel_rfl⟩ bs_zqbu nilB (fun das r hG hr => ?_)
  unfold g_zqbu at hG
  split at hG
  · rename_i a0_0n a0_0f a0_0 a0_1 a0_2 a0_3 a0_4 a1n a1f a1 a2
    injection hG with hG; subst hG
    exact ⟨none, true, win default ((raw_zqbu a0_0n a0_0f a0_0 a0_1 a0_2 a0_3 a0_4 a1n a1f a1 a2).trans (DT.go_run _ _)) hr⟩
  · cases hG
abbrev cx_zqbf : Cx := mkCx2 tyTab [(116, g_zqbh)] [] [] []
theorem rdy_zqbf : Ready Try.prog tyTab [(116, g_zqbh)] [] [] := ⟨consG2 zqbh_ok (noneG2), noneI2, noneF2⟩
structure S.zqbf_T where
  x0 : Bool
  deriving Inhabited
def S.zqbf_R (a0_0 : List (Ty .step)) (a0_1 : Int) (a0_2 : Int) (a0_3 : Int) (a0_4 : Int) (a1 : List (Ty .evt)) (a2 : Int) (a3 : Int) : DT S.zqbf_T :=
(.br (xdec (a2 < 0))
(.leaf ⟨false⟩)
(.br (xdec (a3 < a2))
(.leaf ⟨false⟩)
(.br (xdec (a3 ≥ (↑a1.length : Int)))
(.leaf ⟨false⟩)
(.br (S.zqbh_is a0_0 a0_1 a0_2 a0_3 a0_4 a1 a2)
(.leaf ⟨xdec (xwrap IntKind.i64 (a3 - a2) < (↑(S.zqbh_o a0_0 a0_1 a0_2 a0_3 a0_4 a1 a2).x2 : Int))⟩)
.fail))))
def S.zqbf (a0_0 : List (Ty .step)) (a0_1 : Int) (a0_2 : Int) (a0_3 : Int) (a0_4 : Int) (a1 : List (Ty .evt)) (a2 : Int) (a3 : Int) : Option S.zqbf_T := (S.zqbf_R a0_0 a0_1 a0_2 a0_3 a0_4 a1 a2 a3).run
def S.zqbf_is (a0_0 : List (Ty .step)) (a0_1 : Int) (a0_2 : Int) (a0_3 : Int) (a0_4 : Int) (a1 : List (Ty .evt)) (a2 : Int) (a3 : Int) : Bool := (S.zqbf a0_0 a0_1 a0_2 a0_3 a0_4 a1 a2 a3).isSome
def S.zqbf_o (a0_0 : List (Ty .step)) (a0_1 : Int) (a0_2 : Int) (a0_3 : Int) (a0_4 : Int) (a1 : List (Ty .evt)) (a2 : Int) (a3 : Int) : S.zqbf_T := (S.zqbf a0_0 a0_1 a0_2 a0_3 a0_4 a1 a2 a3).getD default
def ret_zqbf (b : Bool) (r : S.zqbf_T) : Ret := ⟨b, none, [(false, [C.d (.sc (.bool r.x0))])]⟩
def g_zqbf : Con
  | [(true, [.sl a0_0n a0_0f .step a0_0, .sc (.int .i64 a0_1), .sc (.int .i64 a0_2), .sc (.int .i64 a0_3), .sc (.int .i64 a0_4)]), (false, [.sl a1n a1f .evt a1]), (false, [.sc (.int .i64 a2)]), (false, [.sc (.int .i64 a3)])] => some (ret_zqbf (S.zqbf_is a0_0 a0_1 a0_2 a0_3 a0_4 a1 a2 a3) (S.zqbf_o a0_0 a0_1 a0_2 a0_3 a0_4 a1 a2 a3))
  | _ => none
theorem raw_zqbf (a0_0n : Option Bool) (a0_0f : Bool) (a0_0 : List (Ty .step)) (a0_1 : Int) (a0_2 : Int) (a0_3 : Int) (a0_4 : Int) (a1n : Option Bool) (a1f : Bool) (a1 : List (Ty .evt)) (a2 : Int) (a3 : Int) : evR2 cx_zqbf (hdI cx_zqbf (find []) [] none 0) none Try.f77 77 none [(true, [.sl a0_0n a0_0f .step a0_0, .sc (.int .i64 a0_1), .sc (.int .i64 a0_2), .sc (.int .i64 a0_3), .sc (.int .i64 a0_4)]), (false, [.sl a1n a1f .evt a1]), (false, [.sc (.int .i64 a2)]), (false, [.sc (.int .i64 a3)])] some = (S.zqbf_R a0_0 a0_1 a0_2 a0_3 a0_4 a1 a2 a3).go (ret_zqbf true) := by kernel_rfl
theorem bs_zqbf : loopsIn Try.f77 [] = [] := by kernel_rfl
theorem zqbf_ok : Stands Try.prog tyTab 77 g_zqbf := by
  refine stands3 (L := find []) (n := 0) (hints := []) (cx_ok rfl) rdy_zqbf ⟨by kernel_rfl, by kernel_rfl, by kernel_rfl⟩ bs_zqbf nilB (fun das r hG hr => ?_)
  unfold g_zqbf at hG
  split at hG
  · rename_i a0_0n a0_0f a0_0 a0_1 a0_2 a0_3 a0_4 a1n a1f a1 a2 a3
    injection hG with hG; subst hG
    exact ⟨none, true, win default ((raw_zqbf a0_0n a0_0f a0_0 a0_1 a0_2 a0_3 a0_4 a1n a1f a1 a2 a3).trans (DT.go_run _ _)) hr⟩
  · cases hG
abbrev cx_zqbg : Cx := mkCx2 tyTab [(116, g_zqbh)] [] [(75, 15, { keep := [2, 7, 8, 52, 53], acc := [] }), (75, 8, { keep := [1, 2, 3, 7, 8, 9, 10, 20, 21, 30, 31], acc := [] }), (75, 4, { keep := [1, 2, 3, 7, 8, 20, 21], acc := [] })] []
theorem rdy_zqbg : Ready Try.prog tyTab [(116, g_zqbh)] [] [] := ⟨consG2 zqbh_ok (noneG2), noneI2, noneF2⟩
structure S.zqbg_8_V where
  t_31_0 : Int
  h_4 : List (Ty .int)
def S.zqbg_8_R (t_7_0l : Nat) (t_9_0 : Int) (rE : Int) (v : S.zqbg_8_V) : DT (Option Nat × S.zqbg_8_V) :=
let y0 : Int := xwrap IntKind.i64 (t_9_0 + v.t_31_0)
let y1 : Bool := xdec (0 ≤ y0) && xdec (y0 < (↑t_7_0l : Int))
let y2 : Nat := 0 + y0.toNat
let y3 : Bool := xdec (y2 < v.h_4.length)
(.br (xdec (v.t_31_0 < rE))
(.br (y1)
(.br (y3)
(.br (y1)
(.br (y3)
(.leaf (none, ⟨xwrap IntKind.i64 (v.t_31_0 + 1), v.h_4.set y2 (xwrap IntKind.i64 (v.h_4.getD y2 (dflt ET.int) + 1))⟩))
.fail)
.fail)
.fail)
.fail)
(.leaf (some 0, v)))
def S.zqbg_8_r (t_7_0l : Nat) (t_9_0 : Int) (rE : Int) (v : S.zqbg_8_V) : Option (Option Nat × S.zqbg_8_V) := (S.zqbg_8_R t_7_0l t_9_0 rE v).run
def S.zqbg_8_j (t_7_0l : Nat) (t_9_0 : Int) (rE : Int) (v : S.zqbg_8_V) (j : Nat) : Bool := Lp_j (S.zqbg_8_r t_7_0l t_9_0 rE) v j
def S.zqbg_8_v (t_7_0l : Nat) (t_9_0 : Int) (rE : Int) (v : S.zqbg_8_V) : S.zqbg_8_V := Lp_v (S.zqbg_8_r t_7_0l t_9_0 rE) v
def mk_zqbg_8 (rF : Option Bool) (rG : Bool) (rH : List (Ty .evt)) (rI : Int) (t_7_0l : Nat) (t_8_0l : Nat) (t_9_0 : Int) (rJ : Int) (t_21_0 : Int) (rE : Int) (qJ : Option Bool) (qK : Bool) (qC : List (Ty .step)) (qD : Int) (qE : Int) (qF : Int) (qG : Int) (h_8 : List (Ty .bool)) (h_19 : List (Ty .run)) (rK : Bool) (h_20_0l : Nat) (rL : Int) (rM : Int) (rN : Int) (rO : Int) (rP : Int) (rQ : Int) (rR : Bool) (rS : Bool) (v : S.zqbg_8_V) : St := ⟨[V.any, V.v false [C.d (.sl rF rG ET.evt rH)], V.v false [C.d (.sc (.int .i64 rI))], V.v false [C.ptr 0 0], V.any, V.any, V.any,
  V.v false [C.own 4 ET.int true 0 t_7_0l], V.v false [C.own 8 ET.bool true 0 t_8_0l], V.v false [C.d (.sc (.int .i64 t_9_0))], V.v false [C.ptr 20 0], V.any, V.any,
  V.any, V.any, V.any, V.any, V.any, V.any, V.any, V.v false [C.d (.sc (.int .i64 rJ))], V.v false [C.d (.sc (.int .i64 t_21_0))], V.any, V.any, V.any,
  V.any, V.any, V.any, V.any, V.any, V.v false [C.d (.sc (.int .i64 rE))], V.v false [C.d (.sc (.int .i64 v.t_31_0))], V.any, V.any, V.any, V.any, V.any,
  V.any, V.any, V.any, V.any, V.any, V.any, V.any, V.any, V.any, V.any, V.any, V.any, V.any, V.any, V.any, V.any, V.any, V.any, V.any, V.any, V.any, V.any, V.any, V.any, V.any,
  V.any, V.any, V.any, V.any, V.any, V.any, V.any, V.any], [some
    (Blk.box 45
      [C.d (.sl qJ qK ET.step qC), C.d (.sc (.int .i64 qD)), C.d (.sc (.int .i64 qE)), C.d (.sc (.int .i64 qF)),
        C.d (.sc (.int .i64 qG))]),
  none, none, none, some (Blk.arr 3 ET.int v.h_4), none, none, none, some (Blk.arr 4 ET.bool h_8), none, none, none, none, none, none, none, none, none, none,
  some (Blk.arr 55 ET.run h_19),
  some
    (Blk.box 157
      [C.own 19 ET.run rK 0 h_20_0l, C.d (.sc (.int .i64 rL)), C.d (.sc (.int .i64 rM)), C.d (.sc (.int .i64 rN)),
        C.d (.sc (.int .i64 rO)), C.d (.sc (.int .i64 rP)), C.d (.sc (.int .i64 rQ)), C.d (.sc (.bool rR)),
        C.d (.sc (.bool rS))]),
  none, none, none, none, none], 0⟩
def ex_zqbg_8 (rF : Option Bool) (rG : Bool) (rH : List (Ty .evt)) (rI : Int) (t_7_0l : Nat) (t_8_0l : Nat) (t_9_0 : Int) (rJ : Int) (t_21_0 : Int) (rE : Int) (qJ : Option Bool) (qK : Bool) (qC : List (Ty .step)) (qD : Int) (qE : Int) (qF : Int) (qG : Int) (h_8 : List (Ty .bool)) (h_19 : List (Ty .run)) (rK : Bool) (h_20_0l : Nat) (rL : Int) (rM : Int) (rN : Int) (rO : Int) (rP : Int) (rQ : Int) (rR : Bool) (rS : Bool) (j : Nat) (v : S.zqbg_8_V) : Ex × St := match j with
  | 0 => (Ex.exit 2, ⟨[V.any, V.v false [C.d (.sl rF rG ET.evt rH)], V.v false [C.d (.sc (.int .i64 rI))], V.v false [C.ptr 0 0], V.any, V.any, V.any,
  V.v false [C.own 4 ET.int true 0 t_7_0l], V.v false [C.own 8 ET.bool true 0 t_8_0l], V.v false [C.d (.sc (.int .i64 t_9_0))], V.v false [C.ptr 20 0], V.any, V.any,
  V.any, V.any, V.any, V.any, V.any, V.any, V.any, V.v false [C.d (.sc (.int .i64 rJ))], V.v false [C.d (.sc (.int .i64 t_21_0))], V.any, V.any, V.any,
  V.any, V.any, V.any, V.any, V.any, V.any, V.any, V.any, V.any, V.any, V.any, V.any, V.any, V.any, V.any, V.any, V.any, V.any, V.any, V.any, V.any, V.any, V.any, V.any, V.any,
  V.any, V.any, V.any, V.any, V.any, V.any, V.any, V.any, V.any, V.any, V.any, V.any, V.any, V.any, V.any, V.any, V.any, V.any, V.any, V.any], [some
    (Blk.box 45
      [C.d (.sl qJ qK ET.step qC), C.d (.sc (.int .i64 qD)), C.d (.sc (.int .i64 qE)), C.d (.sc (.int .i64 qF)),
        C.d (.sc (.int .i64 qG))]),
  none, none, none, some (Blk.arr 3 ET.int v.h_4), none, none, none, some (Blk.arr 4 ET.bool h_8), none, none, none, none, none, none, none, none, none, none,
  some (Blk.arr 55 ET.run h_19),
  some
    (Blk.box 157
      [C.own 19 ET.run rK 0 h_20_0l, C.d (.sc (.int .i64 rL)), C.d (.sc (.int .i64 rM)), C.d (.sc (.int .i64 rN)),
        C.d (.sc (.int .i64 rO)), C.d (.sc (.int .i64 rP)), C.d (.sc (.int .i64 rQ)), C.d (.sc (.bool rR)),
        C.d (.sc (.bool rS))]),
  none, none, none, none, none, none], 0⟩)
  | _ => (.ret, ⟨[], [], 0⟩)
def T1_zqbg_8 : V → V → V → V → V → V → V → V → V → V → V → Option Blk → Option Blk → Option Blk → Option Blk → Option Blk → Tree
  | V.v false [C.d (.sl rF rG ET.evt rH)], V.v false [C.d (.sc (.int .i64 rI))], V.v false [C.ptr 0 0], V.v false [C.own 4 ET.int true 0 t_7_0l], V.v false [C.own 8 ET.bool true 0 t_8_0l], V.v false [C.d (.sc (.int .i64 t_9_0))], V.v false [C.ptr 20 0], V.v false [C.d (.sc (.int .i64 rJ))], V.v false [C.d (.sc (.int .i64 t_21_0))], V.v false [C.d (.sc (.int .i64 rE))], V.v false [C.d (.sc (.int .i64 t_31_0))], some (Blk.box 45 [C.d (.sl qJ qK ET.step qC), C.d (.sc (.int .i64 qD)), C.d (.sc (.int .i64 qE)), C.d (.sc (.int .i64 qF)), C.d (.sc (.int .i64 qG))]), some (Blk.arr 3 ET.int h_4), some (Blk.arr 4 ET.bool h_8), some (Blk.arr 55 ET.run h_19), some (Blk.box 157 [C.own 19 ET.run rK 0 h_20_0l, C.d (.sc (.int .i64 rL)), C.d (.sc (.int .i64 rM)), C.d (.sc (.int .i64 rN)), C.d (.sc (.int .i64 rO)), C.d (.sc (.int .i64 rP)), C.d (.sc (.int .i64 rQ)), C.d (.sc (.bool rR)), C.d (.sc (.bool rS))]) => exT (fun j => ex_zqbg_8 rF rG rH rI t_7_0l t_8_0l t_9_0 rJ t_21_0 rE qJ qK qC qD qE qF qG h_8 h_19 rK h_20_0l rL rM rN rO rP rQ rR rS j (S.zqbg_8_v t_7_0l t_9_0 rE ⟨t_31_0, h_4⟩)) (S.zqbg_8_j t_7_0l t_9_0 rE ⟨t_31_0, h_4⟩) [0]
  | _, _, _, _, _, _, _, _, _, _, _, _, _, _, _, _ => .bad
def T_zqbg_8 (st : St) : Tree := bif okSt 70 26 0 [0, 4, 8, 19, 20] st then T1_zqbg_8 (st.env.getD 1 .any) (st.env.getD 2 .any) (st.env.getD 3 .any) (st.env.getD 7 .any) (st.env.getD 8 .any) (st.env.getD 9 .any) (st.env.getD 10 .any) (st.env.getD 20 .any) (st.env.getD 21 .any) (st.env.getD 30 .any) (st.env.getD 31 .any) (lk st.heap 0) (lk st.heap 4) (lk st.heap 8) (lk st.heap 19) (lk st.heap 20) else .bad
def b_zqbg_8 : Code := loopBy Try.f75 8
theorem rnd_zqbg_8 (rF : Option Bool) (rG : Bool) (rH : List (Ty .evt)) (rI : Int) (t_7_0l : Nat) (t_8_0l : Nat) (t_9_0 : Int) (rJ : Int) (t_21_0 : Int) (rE : Int) (qJ : Option Bool) (qK : Bool) (qC : List (Ty .step)) (qD : Int) (qE : Int) (qF : Int) (qG : Int) (h_8 : List (Ty .bool)) (h_19 : List (Ty .run)) (rK : Bool) (h_20_0l : Nat) (rL : Int) (rM : Int) (rN : Int) (rO : Int) (rP : Int) (rQ : Int) (rR : Bool) (rS : Bool) (v : S.zqbg_8_V) : round2 cx_zqbg (hdI cx_zqbg (find []) [] none 0) 75 b_zqbg_8 [] 26 [1, 2, 3, 7, 8, 9, 10, 20, 21] (mk_zqbg_8 rF rG rH rI t_7_0l t_8_0l t_9_0 rJ t_21_0 rE qJ qK qC qD qE qF qG h_8 h_19 rK h_20_0l rL rM rN rO rP rQ rR rS v) = (S.zqbg_8_R t_7_0l t_9_0 rE v).go (roundOut (mk_zqbg_8 rF rG rH rI t_7_0l t_8_0l t_9_0 rJ t_21_0 rE qJ qK qC qD qE qF qG h_8 h_19 rK h_20_0l rL rM rN rO rP rQ rR rS) (ex_zqbg_8 rF rG rH rI t_7_0l t_8_0l t_9_0 rJ t_21_0 rE qJ qK qC qD qE qF qG h_8 h_19 rK h_20_0l rL rM rN rO rP rQ rR rS)) := by kernel_rfl
theorem bs_zqbg_8 : loopsOf b_zqbg_8 ++ loopsInl [] = [] := by kernel_rfl
theorem ci_zqbg_8 (rF : Option Bool) (rG : Bool) (rH : List (Ty .evt)) (rI : Int) (t_7_0l : Nat) (t_8_0l : Nat) (t_9_0 : Int) (rJ : Int) (t_21_0 : Int) (rE : Int) (qJ : Option Bool) (qK : Bool) (qC : List (Ty .step)) (qD : Int) (qE : Int) (qF : Int) (qG : Int) (h_8 : List (Ty .bool)) (h_19 : List (Ty .run)) (rK : Bool) (h_20_0l : Nat) (rL : Int) (rM : Int) (rN : Int) (rO : Int) (rP : Int) (rQ : Int) (rR : Bool) (rS : Bool) : ∀ v j v2, Lp (S.zqbg_8_r t_7_0l t_9_0 rE) v = some (j, v2) → Circles Try.prog cx_zqbg b_zqbg_8 (mk_zqbg_8 rF rG rH rI t_7_0l t_8_0l t_9_0 rJ t_21_0 rE qJ qK qC qD qE qF qG h_8 h_19 rK h_20_0l rL rM rN rO rP rQ rR rS v) (ex_zqbg_8 rF rG rH rI t_7_0l t_8_0l t_9_0 rJ t_21_0 rE qJ qK qC qD qE qF qG h_8 h_19 rK h_20_0l rL rM rN rO rP rQ rR rS j v2).1 (ex_zqbg_8 rF rG rH rI t_7_0l t_8_0l t_9_0 rJ t_21_0 rE qJ qK qC qD qE qF qG h_8 h_19 rK h_20_0l rL rM rN rO rP rQ rR rS j v2).2 :=
  loop_ok2 (L := find []) (n := 0) (hints := [(75, 15, { keep := [2, 7, 8, 52, 53], acc := [] }), (75, 8, { keep := [1, 2, 3, 7, 8, 9, 10, 20, 21, 30, 31], acc := [] }), (75, 4, { keep := [1, 2, 3, 7, 8, 20, 21], acc := [] })]) (cx_ok rfl) rdy_zqbg bs_zqbg_8 nilB (fun v => (rnd_zqbg_8 rF rG rH rI t_7_0l t_8_0l t_9_0 rJ t_21_0 rE qJ qK qC qD qE qF qG h_8 h_19 rK h_20_0l rL rM rN rO rP rQ rR rS v).trans (DT.go_run _ _)) (by intro j v; unfold ex_zqbg_8; split <;> rfl)
theorem mke_zqbg_8 (rF : Option Bool) (rG : Bool) (rH : List (Ty .evt)) (rI : Int) (t_7_0l : Nat) (t_8_0l : Nat) (t_9_0 : Int) (rJ : Int) (t_21_0 : Int) (rE : Int) (qJ : Option Bool) (qK : Bool) (qC : List (Ty .step)) (qD : Int) (qE : Int) (qF : Int) (qG : Int) (h_8 : List (Ty .bool)) (h_19 : List (Ty .run)) (rK : Bool) (h_20_0l : Nat) (rL : Int) (rM : Int) (rN : Int) (rO : Int) (rP : Int) (rQ : Int) (rR : Bool) (rS : Bool) (v : S.zqbg_8_V) : mk_zqbg_8 rF rG rH rI t_7_0l t_8_0l t_9_0 rJ t_21_0 rE qJ qK qC qD qE qF qG h_8 h_19 rK h_20_0l rL rM rN rO rP rQ rR rS v = ⟨envOf 70 [(1, V.v false [C.d (.sl rF rG ET.evt rH)]), (2, V.v false [C.d (.sc (.int .i64 rI))]), (3, V.v false [C.ptr 0 0]), (7, V.v false [C.own 4 ET.int true 0 t_7_0l]), (8, V.v false [C.own 8 ET.bool true 0 t_8_0l]), (9, V.v false [C.d (.sc (.int .i64 t_9_0))]), (10, V.v false [C.ptr 20 0]), (20, V.v false [C.d (.sc (.int .i64 rJ))]), (21, V.v false [C.d (.sc (.int .i64 t_21_0))]), (30, V.v false [C.d (.sc (.int .i64 rE))]), (31, V.v false [C.d (.sc (.int .i64 v.t_31_0))])], heapOf 26 [(0, some
  (Blk.box 45
    [C.d (.sl qJ qK ET.step qC), C.d (.sc (.int .i64 qD)), C.d (.sc (.int .i64 qE)), C.d (.sc (.int .i64 qF)),
      C.d (.sc (.int .i64 qG))])), (4, some (Blk.arr 3 ET.int v.h_4)), (8, some (Blk.arr 4 ET.bool h_8)), (19, some (Blk.arr 55 ET.run h_19)), (20, some
  (Blk.box 157
    [C.own 19 ET.run rK 0 h_20_0l, C.d (.sc (.int .i64 rL)), C.d (.sc (.int .i64 rM)), C.d (.sc (.int .i64 rN)),
      C.d (.sc (.int .i64 rO)), C.d (.sc (.int .i64 rP)), C.d (.sc (.int .i64 rQ)), C.d (.sc (.bool rR)),
      C.d (.sc (.bool rS))]))], 0⟩ := by kernel_rfl
theorem lo1_zqbg_8 (e1 : V) (e2 : V) (e3 : V) (e7 : V) (e8 : V) (e9 : V) (e10 : V) (e20 : V) (e21 : V) (e30 : V) (e31 : V) (h0 : Option Blk) (h4 : Option Blk) (h8 : Option Blk) (h19 : Option Blk) (h20 : Option Blk) e st2 (h : (T1_zqbg_8 e1 e2 e3 e7 e8 e9 e10 e20 e21 e30 e31 h0 h4 h8 h19 h20).eval = some (e, st2)) : Circles Try.prog cx_zqbg b_zqbg_8 ⟨envOf 70 [(1, e1), (2, e2), (3, e3), (7, e7), (8, e8), (9, e9), (10, e10), (20, e20), (21, e21), (30, e30), (31, e31)], heapOf 26 [(0, h0), (4, h4), (8, h8), (19, h19), (20, h20)], 0⟩ e st2 := by
  unfold T1_zqbg_8 at h
  split at h
  · have := loop_tree (mk := mk_zqbg_8 _ _ _ _ _ _ _ _ _ _ _ _ _ _ _ _ _ _ _ _ _ _ _ _ _ _ _ _ _) (ci_zqbg_8 _ _ _ _ _ _ _ _ _ _ _ _ _ _ _ _ _ _ _ _ _ _ _ _ _ _ _ _ _) _ _ e st2 h
    rw [mke_zqbg_8] at this
    exact this
  · cases h
theorem lok_zqbg_8 : LoopOk Try.prog cx_zqbg b_zqbg_8 T_zqbg_8 := by
  intro st e st2 h
  unfold T_zqbg_8 at h
  cases hk : okSt 70 26 0 [0, 4, 8, 19, 20] st with
  | false => rw [hk] at h; cases h
  | true =>
    rw [hk] at h
    exact circles_keep (ks := [1, 2, 3, 7, 8, 9, 10, 20, 21, 30, 31]) hk (lo1_zqbg_8 _ _ _ _ _ _ _ _ _ _ _ _ _ _ _ _ e st2 h)
structure S.zqbg_4_V where
  t_21_0 : Int
  h_4 : List (Ty .int)
  h_8 : List (Ty .bool)
def S.zqbg_4_R (rH : List (Ty .evt)) (t_7_0l : Nat) (t_8_0l : Nat) (rJ : Int) (qC : List (Ty .step)) (qD : Int) (qE : Int) (qF : Int) (qG : Int) (v : S.zqbg_4_V) : DT (Option Nat × S.zqbg_4_V) :=
let y0 : Int := (↑(S.zqbh_o qC qD qE qF qG rH v.t_21_0).x2 : Int)
let y1 : S.zqbg_8_V := { t_31_0 := 0, h_4 := v.h_4 : S.zqbg_8_V }
let y2 : Nat := 0 + v.t_21_0.toNat
(.br (xdec (v.t_21_0 < rJ))
(.br (S.zqbh_is qC qD qE qF qG rH v.t_21_0)
(.br (S.zqbg_8_j t_7_0l v.t_21_0 y0 y1 0)
(.br (xdec (0 ≤ v.t_21_0) && xdec (v.t_21_0 < (↑t_8_0l : Int)))
(.br (xdec (y2 < v.h_8.length))
(.leaf (none, ⟨xwrap IntKind.i64 (v.t_21_0 + 1), (S.zqbg_8_v t_7_0l v.t_21_0 y0 y1).h_4, v.h_8.set y2 (xdec (y0 > 0))⟩))
.fail)
.fail)
.fail)
.fail)
(.leaf (some 0, v)))
def S.zqbg_4_r (rH : List (Ty .evt)) (t_7_0l : Nat) (t_8_0l : Nat) (rJ : Int) (qC : List (Ty .step)) (qD : Int) (qE : Int) (qF : Int) (qG : Int) (v : S.zqbg_4_V) : Option (Option Nat × S.zqbg_4_V) := (S.zqbg_4_R rH t_7_0l t_8_0l rJ qC qD qE qF qG v).run
def S.zqbg_4_j (rH : List (Ty .evt)) (t_7_0l : Nat) (t_8_0l : Nat) (rJ : Int) (qC : List (Ty .step)) (qD : Int) (qE : Int) (qF : Int) (qG : Int) (v : S.zqbg_4_V) (j : Nat) : Bool := Lp_j (S.zqbg_4_r rH t_7_0l t_8_0l rJ qC qD qE qF qG) v j
def S.zqbg_4_v (rH : List (Ty .evt)) (t_7_0l : Nat) (t_8_0l : Nat) (rJ : Int) (qC : List (Ty .step)) (qD : Int) (qE : Int) (qF : Int) (qG : Int) (v : S.zqbg_4_V) : S.zqbg_4_V := Lp_v (S.zqbg_4_r rH t_7_0l t_8_0l rJ qC qD qE qF qG) v
def mk_zqbg_4 (rF : Option Bool) (rG : Bool) (rH : List (Ty .evt)) (rI : Int) (t_7_0l : Nat) (t_8_0l : Nat) (rJ : Int) (qJ : Option Bool) (qK : Bool) (qC : List (Ty .step)) (qD : Int) (qE : Int) (qF : Int) (qG : Int) (v : S.zqbg_4_V) : St := ⟨[V.any, V.v false [C.d (.sl rF rG ET.evt rH)], V.v false [C.d (.sc (.int .i64 rI))], V.v false [C.ptr 0 0], V.any, V.any, V.any,
  V.v false [C.own 4 ET.int true 0 t_7_0l], V.v false [C.own 8 ET.bool true 0 t_8_0l], V.any, V.any, V.any, V.any, V.any, V.any, V.any, V.any, V.any, V.any, V.any,
  V.v false [C.d (.sc (.int .i64 rJ))], V.v false [C.d (.sc (.int .i64 v.t_21_0))], V.any, V.any, V.any, V.any, V.any, V.any, V.any, V.any, V.any, V.any,
  V.any, V.any, V.any, V.any, V.any, V.any, V.any, V.any, V.any, V.any, V.any, V.any, V.any, V.any, V.any, V.any, V.any, V.any, V.any, V.any, V.any, V.any, V.any, V.any, V.any,
  V.any, V.any, V.any, V.any, V.any, V.any, V.any, V.any, V.any, V.any, V.any, V.any, V.any], [some
    (Blk.box 45
      [C.d (.sl qJ qK ET.step qC), C.d (.sc (.int .i64 qD)), C.d (.sc (.int .i64 qE)), C.d (.sc (.int .i64 qF)),
        C.d (.sc (.int .i64 qG))]),
  none, none, none, some (Blk.arr 3 ET.int v.h_4), none, none, none, some (Blk.arr 4 ET.bool v.h_8), none, none, none, none], 0⟩
def ex_zqbg_4 (rF : Option Bool) (rG : Bool) (rH : List (Ty .evt)) (rI : Int) (t_7_0l : Nat) (t_8_0l : Nat) (rJ : Int) (qJ : Option Bool) (qK : Bool) (qC : List (Ty .step)) (qD : Int) (qE : Int) (qF : Int) (qG : Int) (j : Nat) (v : S.zqbg_4_V) : Ex × St := match j with
  | 0 => (Ex.exit 0, ⟨[V.any, V.v false [C.d (.sl rF rG ET.evt rH)], V.v false [C.d (.sc (.int .i64 rI))], V.any, V.any, V.any, V.any, V.v false [C.own 4 ET.int true 0 t_7_0l],
  V.v false [C.own 8 ET.bool true 0 t_8_0l], V.any, V.any, V.any, V.any, V.any, V.any, V.any, V.any, V.any, V.any, V.any, V.any, V.any, V.any, V.any, V.any, V.any, V.any, V.any,
  V.any, V.any, V.any, V.any, V.any, V.any, V.any, V.any, V.any, V.any, V.any, V.any, V.any, V.any, V.any, V.any, V.any, V.any, V.any, V.any, V.any, V.any, V.any, V.any, V.any,
  V.any, V.any, V.any, V.any, V.any, V.any, V.any, V.any, V.any, V.any, V.any, V.any, V.any, V.any, V.any, V.any, V.any], [some
    (Blk.box 45
      [C.d (.sl qJ qK ET.step qC), C.d (.sc (.int .i64 qD)), C.d (.sc (.int .i64 qE)), C.d (.sc (.int .i64 qF)),
        C.d (.sc (.int .i64 qG))]),
  none, none, none, some (Blk.arr 3 ET.int v.h_4), none, none, none, some (Blk.arr 4 ET.bool v.h_8), none, none, none, none, none], 0⟩)
  | _ => (.ret, ⟨[], [], 0⟩)
def T1_zqbg_4 : V → V → V → V → V → V → V → Option Blk → Option Blk → Option Blk → Tree
  | V.v false [C.d (.sl rF rG ET.evt rH)], V.v false [C.d (.sc (.int .i64 rI))], V.v false [C.ptr 0 0], V.v false [C.own 4 ET.int true 0 t_7_0l], V.v false [C.own 8 ET.bool true 0 t_8_0l], V.v false [C.d (.sc (.int .i64 rJ))], V.v false [C.d (.sc (.int .i64 t_21_0))], some (Blk.box 45 [C.d (.sl qJ qK ET.step qC), C.d (.sc (.int .i64 qD)), C.d (.sc (.int .i64 qE)), C.d (.sc (.int .i64 qF)), C.d (.sc (.int .i64 qG))]), some (Blk.arr 3 ET.int h_4), some (Blk.arr 4 ET.bool h_8) => exT (fun j => ex_zqbg_4 rF rG rH rI t_7_0l t_8_0l rJ qJ qK qC qD qE qF qG j (S.zqbg_4_v rH t_7_0l t_8_0l rJ qC qD qE qF qG ⟨t_21_0, h_4, h_8⟩)) (S.zqbg_4_j rH t_7_0l t_8_0l rJ qC qD qE qF qG ⟨t_21_0, h_4, h_8⟩) [0]
  | _, _, _, _, _, _, _, _, _, _ => .bad
def T_zqbg_4 (st : St) : Tree := bif okSt 70 13 0 [0, 4, 8] st then T1_zqbg_4 (st.env.getD 1 .any) (st.env.getD 2 .any) (st.env.getD 3 .any) (st.env.getD 7 .any) (st.env.getD 8 .any) (st.env.getD 20 .any) (st.env.getD 21 .any) (lk st.heap 0) (lk st.heap 4) (lk st.heap 8) else .bad
def b_zqbg_4 : Code := loopBy Try.f75 4
theorem rnd_zqbg_4 (rF : Option Bool) (rG : Bool) (rH : List (Ty .evt)) (rI : Int) (t_7_0l : Nat) (t_8_0l : Nat) (rJ : Int) (qJ : Option Bool) (qK : Bool) (qC : List (Ty .step)) (qD : Int) (qE : Int) (qF : Int) (qG : Int) (v : S.zqbg_4_V) : round2 cx_zqbg (hdI cx_zqbg (find [(8, T_zqbg_8)]) [] none 0) 75 b_zqbg_4 [] 13 [1, 2, 7, 8] (mk_zqbg_4 rF rG rH rI t_7_0l t_8_0l rJ qJ qK qC qD qE qF qG v) = (S.zqbg_4_R rH t_7_0l t_8_0l rJ qC qD qE qF qG v).go (roundOut (mk_zqbg_4 rF rG rH rI t_7_0l t_8_0l rJ qJ qK qC qD qE qF qG) (ex_zqbg_4 rF rG rH rI t_7_0l t_8_0l rJ qJ qK qC qD qE qF qG)) := by kernel_rfl
theorem bs_zqbg_4 : loopsOf b_zqbg_4 ++ loopsInl [] = [b_zqbg_8] := by kernel_rfl
theorem ci_zqbg_4 (rF : Option Bool) (rG : Bool) (rH : List (Ty .evt)) (rI : Int) (t_7_0l : Nat) (t_8_0l : Nat) (rJ : Int) (qJ : Option Bool) (qK : Bool) (qC : List (Ty .step)) (qD : Int) (qE : Int) (qF : Int) (qG : Int) : ∀ v j v2, Lp (S.zqbg_4_r rH t_7_0l t_8_0l rJ qC qD qE qF qG) v = some (j, v2) → Circles Try.prog cx_zqbg b_zqbg_4 (mk_zqbg_4 rF rG rH rI t_7_0l t_8_0l rJ qJ qK qC qD qE qF qG v) (ex_zqbg_4 rF rG rH rI t_7_0l t_8_0l rJ qJ qK qC qD qE qF qG j v2).1 (ex_zqbg_4 rF rG rH rI t_7_0l t_8_0l rJ qJ qK qC qD qE qF qG j v2).2 :=
  loop_ok2 (L := find [(8, T_zqbg_8)]) (n := 0) (hints := [(75, 15, { keep := [2, 7, 8, 52, 53], acc := [] }), (75, 8, { keep := [1, 2, 3, 7, 8, 9, 10, 20, 21, 30, 31], acc := [] }), (75, 4, { keep := [1, 2, 3, 7, 8, 20, 21], acc := [] })]) (cx_ok rfl) rdy_zqbg bs_zqbg_4 (consB (fun T h => by have e : T_zqbg_8 = T := Option.some.inj (show some T_zqbg_8 = some T from h); exact e ▸ lok_zqbg_8) nilB) (fun v => (rnd_zqbg_4 rF rG rH rI t_7_0l t_8_0l rJ qJ qK qC qD qE qF qG v).trans (DT.go_run _ _)) (by intro j v; unfold ex_zqbg_4; split <;> rfl)
theorem mke_zqbg_4 (rF : Option Bool) (rG : Bool) (rH : List (Ty .evt)) (rI : Int) (t_7_0l : Nat) (t_8_0l : Nat) (rJ : Int) (qJ : Option Bool) (qK : Bool) (qC : List (Ty .step)) (qD : Int) (qE : Int) (qF : Int) (qG : Int) (v : S.zqbg_4_V) : mk_zqbg_4 rF rG rH rI t_7_0l t_8_0l rJ qJ qK qC qD qE qF qG v = ⟨envOf 70 [(1, V.v false [C.d (.sl rF rG ET.evt rH)]), (2, V.v false [C.d (.sc (.int .i64 rI))]), (3, V.v false [C.ptr 0 0]), (7, V.v false [C.own 4 ET.int true 0 t_7_0l]), (8, V.v false [C.own 8 ET.bool true 0 t_8_0l]), (20, V.v false [C.d (.sc (.int .i64 rJ))]), (21, V.v false [C.d (.sc (.int .i64 v.t_21_0))])], heapOf 13 [(0, some
  (Blk.box 45
    [C.d (.sl qJ qK ET.step qC), C.d (.sc (.int .i64 qD)), C.d (.sc (.int .i64 qE)), C.d (.sc (.int .i64 qF)),
      C.d (.sc (.int .i64 qG))])), (4, some (Blk.arr 3 ET.int v.h_4)), (8, some (Blk.arr 4 ET.bool v.h_8))], 0⟩ := by kernel_rfl
theorem lo1_zqbg_4 (e1 : V) (e2 : V) (e3 : V) (e7 : V) (e8 : V) (e20 : V) (e21 : V) (h0 : Option Blk) (h4 : Option Blk) (h8 : Option Blk) e st2 (h : (T1_zqbg_4 e1 e2 e3 e7 e8 e20 e21 h0 h4 h8).eval = some (e, st2)) : Circles Try.prog cx_zqbg b_zqbg_4 ⟨envOf 70 [(1, e1), (2, e2), (3, e3), (7, e7), (8, e8), (20, e20), (21, e21)], heapOf 13 [(0, h0), (4, h4), (8, h8)], 0⟩ e st2 := by
  unfold T1_zqbg_4 at h
  split at h
  · have := loop_tree (mk := mk_zqbg_4 _ _ _ _ _ _ _ _ _ _ _ _ _ _) (ci_zqbg_4 _ _ _ _ _ _ _ _ _ _ _ _ _ _) _ _ e st2 h
    rw [mke_zqbg_4] at this
    exact this
  · cases h
theorem lok_zqbg_4 : LoopOk Try.prog cx_zqbg b_zqbg_4 T_zqbg_4 := by
  intro st e st2 h
  unfold T_zqbg_4 at h
  cases hk : okSt 70 13 0 [0, 4, 8] st with
  | false => rw [hk] at h; cases h
  | true =>
    rw [hk] at h
    exact circles_keep (ks := [1, 2, 3, 7, 8, 20, 21]) hk (lo1_zqbg_4 _ _ _ _ _ _ _ _ _ _ e st2 h)
structure S.zqbg_15_V where
  t_53_0 : Int
def S.zqbg_15_R (rI : Int) (t_7_0l : Nat) (t_8_0l : Nat) (rT : Int) (h_4 : List (Ty .int)) (h_8 : List (Ty .bool)) (v : S.zqbg_15_V) : DT (Option Nat × S.zqbg_15_V) :=
let y0 : Bool := xdec (0 ≤ v.t_53_0)
let y1 : Nat := 0 + v.t_53_0.toNat
let y2 : Int := xwrap IntKind.i64 (v.t_53_0 + 1)
(.br (xdec (v.t_53_0 < rT))
(.br (y0 && xdec (v.t_53_0 < (↑t_8_0l : Int)))
(.br (xdec (y1 < h_8.length))
(.br (h_8.getD y1 (dflt ET.bool))
(.br (y0 && xdec (v.t_53_0 < (↑t_7_0l : Int)))
(.br (xdec (y1 < h_4.length))
(.br (xdec (h_4.getD y1 (dflt ET.int) > rI))
(.leaf (some 0, v))
(.leaf (none, ⟨y2⟩)))
.fail)
.fail)
(.leaf (none, ⟨y2⟩)))
.fail)
.fail)
(.leaf (some 1, v)))
def S.zqbg_15_r (rI : Int) (t_7_0l : Nat) (t_8_0l : Nat) (rT : Int) (h_4 : List (Ty .int)) (h_8 : List (Ty .bool)) (v : S.zqbg_15_V) : Option (Option Nat × S.zqbg_15_V) := (S.zqbg_15_R rI t_7_0l t_8_0l rT h_4 h_8 v).run
def S.zqbg_15_j (rI : Int) (t_7_0l : Nat) (t_8_0l : Nat) (rT : Int) (h_4 : List (Ty .int)) (h_8 : List (Ty .bool)) (v : S.zqbg_15_V) (j : Nat) : Bool := Lp_j (S.zqbg_15_r rI t_7_0l t_8_0l rT h_4 h_8) v j
def S.zqbg_15_v (rI : Int) (t_7_0l : Nat) (t_8_0l : Nat) (rT : Int) (h_4 : List (Ty .int)) (h_8 : List (Ty .bool)) (v : S.zqbg_15_V) : S.zqbg_15_V := Lp_v (S.zqbg_15_r rI t_7_0l t_8_0l rT h_4 h_8) v
def mk_zqbg_15 (rI : Int) (t_7_0l : Nat) (t_8_0l : Nat) (rT : Int) (qJ : Option Bool) (qK : Bool) (qC : List (Ty .step)) (qD : Int) (qE : Int) (qF : Int) (qG : Int) (h_4 : List (Ty .int)) (h_8 : List (Ty .bool)) (v : S.zqbg_15_V) : St := ⟨[V.any, V.any, V.v false [C.d (.sc (.int .i64 rI))], V.any, V.any, V.any, V.any, V.v false [C.own 4 ET.int true 0 t_7_0l], V.v false [C.own 8 ET.bool true 0 t_8_0l],
  V.any, V.any, V.any, V.any, V.any, V.any, V.any, V.any, V.any, V.any, V.any, V.any, V.any, V.any, V.any, V.any, V.any, V.any, V.any, V.any, V.any, V.any, V.any, V.any, V.any,
  V.any, V.any, V.any, V.any, V.any, V.any, V.any, V.any, V.any, V.any, V.any, V.any, V.any, V.any, V.any, V.any, V.any, V.any, V.v false [C.d (.sc (.int .i64 rT))],
  V.v false [C.d (.sc (.int .i64 v.t_53_0))], V.any, V.any, V.any, V.any, V.any, V.any, V.any, V.any, V.any, V.any, V.any, V.any, V.any, V.any, V.any, V.any], [some
    (Blk.box 45
      [C.d (.sl qJ qK ET.step qC), C.d (.sc (.int .i64 qD)), C.d (.sc (.int .i64 qE)), C.d (.sc (.int .i64 qF)),
        C.d (.sc (.int .i64 qG))]),
  none, none, none, some (Blk.arr 3 ET.int h_4), none, none, none, some (Blk.arr 4 ET.bool h_8), none, none, none, none, none, none, none, none], 0⟩
def ex_zqbg_15 (rI : Int) (t_7_0l : Nat) (t_8_0l : Nat) (rT : Int) (qJ : Option Bool) (qK : Bool) (qC : List (Ty .step)) (qD : Int) (qE : Int) (qF : Int) (qG : Int) (h_4 : List (Ty .int)) (h_8 : List (Ty .bool)) (j : Nat) (v : S.zqbg_15_V) : Ex × St := match j with
  | 0 => (Ex.ret, ⟨[V.any, V.any, V.any, V.any, V.any, V.any, V.v false [C.d (.sc (.int .i64 v.t_53_0))], V.any, V.any, V.any, V.any, V.any, V.any, V.any, V.any, V.any, V.any, V.any, V.any,
  V.any, V.any, V.any, V.any, V.any, V.any, V.any, V.any, V.any, V.any, V.any, V.any, V.any, V.any, V.any, V.any, V.any, V.any, V.any, V.any, V.any, V.any, V.any, V.any, V.any,
  V.any, V.any, V.any, V.any, V.any, V.any, V.any, V.any, V.any, V.any, V.any, V.any, V.any, V.any, V.any, V.any, V.any, V.any, V.any, V.any, V.any, V.any, V.any, V.any, V.any,
  V.any], [some
    (Blk.box 45
      [C.d (.sl qJ qK ET.step qC), C.d (.sc (.int .i64 qD)), C.d (.sc (.int .i64 qE)), C.d (.sc (.int .i64 qF)),
        C.d (.sc (.int .i64 qG))]),
  none, none, none, some (Blk.arr 3 ET.int h_4), none, none, none, some (Blk.arr 4 ET.bool h_8), none, none, none, none, none, none, none, none, none, none, none, none, none, none,
  none, none, none, none, none, none, none, none, none, none, none], 0⟩)
  | 1 => (Ex.exit 4, ⟨[V.any, V.any, V.any, V.any, V.any, V.any, V.any, V.any, V.any, V.any, V.any, V.any, V.any, V.any, V.any, V.any, V.any, V.any, V.any, V.any, V.any, V.any, V.any, V.any, V.any,
  V.any, V.any, V.any, V.any, V.any, V.any, V.any, V.any, V.any, V.any, V.any, V.any, V.any, V.any, V.any, V.any, V.any, V.any, V.any, V.any, V.any, V.any, V.any, V.any, V.any,
  V.any, V.any, V.any, V.any, V.any, V.any, V.any, V.any, V.any, V.any, V.any, V.any, V.any, V.any, V.any, V.any, V.any, V.any, V.any, V.any], [some
    (Blk.box 45
      [C.d (.sl qJ qK ET.step qC), C.d (.sc (.int .i64 qD)), C.d (.sc (.int .i64 qE)), C.d (.sc (.int .i64 qF)),
        C.d (.sc (.int .i64 qG))]),
  none, none, none, some (Blk.arr 3 ET.int h_4), none, none, none, some (Blk.arr 4 ET.bool h_8), none, none, none, none, none, none, none, none, none], 0⟩)
  | _ => (.ret, ⟨[], [], 0⟩)
def T1_zqbg_15 : V → V → V → V → V → Option Blk → Option Blk → Option Blk → Tree
  | V.v false [C.d (.sc (.int .i64 rI))], V.v false [C.own 4 ET.int true 0 t_7_0l], V.v false [C.own 8 ET.bool true 0 t_8_0l], V.v false [C.d (.sc (.int .i64 rT))], V.v false [C.d (.sc (.int .i64 t_53_0))], some (Blk.box 45 [C.d (.sl qJ qK ET.step qC), C.d (.sc (.int .i64 qD)), C.d (.sc (.int .i64 qE)), C.d (.sc (.int .i64 qF)), C.d (.sc (.int .i64 qG))]), some (Blk.arr 3 ET.int h_4), some (Blk.arr 4 ET.bool h_8) => exT (fun j => ex_zqbg_15 rI t_7_0l t_8_0l rT qJ qK qC qD qE qF qG h_4 h_8 j (S.zqbg_15_v rI t_7_0l t_8_0l rT h_4 h_8 ⟨t_53_0⟩)) (S.zqbg_15_j rI t_7_0l t_8_0l rT h_4 h_8 ⟨t_53_0⟩) [0, 1]
  | _, _, _, _, _, _, _, _ => .bad
def T_zqbg_15 (st : St) : Tree := bif okSt 70 17 0 [0, 4, 8] st then T1_zqbg_15 (st.env.getD 2 .any) (st.env.getD 7 .any) (st.env.getD 8 .any) (st.env.getD 52 .any) (st.env.getD 53 .any) (lk st.heap 0) (lk st.heap 4) (lk st.heap 8) else .bad
def b_zqbg_15 : Code := loopBy Try.f75 15
theorem rnd_zqbg_15 (rI : Int) (t_7_0l : Nat) (t_8_0l : Nat) (rT : Int) (qJ : Option Bool) (qK : Bool) (qC : List (Ty .step)) (qD : Int) (qE : Int) (qF : Int) (qG : Int) (h_4 : List (Ty .int)) (h_8 : List (Ty .bool)) (v : S.zqbg_15_V) : round2 cx_zqbg (hdI cx_zqbg (find [(8, T_zqbg_8), (4, T_zqbg_4)]) [] none 0) 75 b_zqbg_15 [] 17 [6] (mk_zqbg_15 rI t_7_0l t_8_0l rT qJ qK qC qD qE qF qG h_4 h_8 v) = (S.zqbg_15_R rI t_7_0l t_8_0l rT h_4 h_8 v).go (roundOut (mk_zqbg_15 rI t_7_0l t_8_0l rT qJ qK qC qD qE qF qG h_4 h_8) (ex_zqbg_15 rI t_7_0l t_8_0l rT qJ qK qC qD qE qF qG h_4 h_8)) := by kernel_rfl
theorem bs_zqbg_15 : loopsOf b_zqbg_15 ++ loopsInl [] = [] := by kernel_rfl
theorem ci_zqbg_15 (rI : Int) (t_7_0l : Nat) (t_8_0l : Nat) (rT : Int) (qJ : Option Bool) (qK : Bool) (qC : List (Ty .step)) (qD : Int) (qE : Int) (qF : Int) (qG : Int) (h_4 : List (Ty .int)) (h_8 : List (Ty .bool)) : ∀ v j v2, Lp (S.zqbg_15_r rI t_7_0l t_8_0l rT h_4 h_8) v = some (j, v2) → Circles Try.prog cx_zqbg b_zqbg_15 (mk_zqbg_15 rI t_7_0l t_8_0l rT qJ qK qC qD qE qF qG h_4 h_8 v) (ex_zqbg_15 rI t_7_0l t_8_0l rT qJ qK qC qD qE qF qG h_4 h_8 j v2).1 (ex_zqbg_15 rI t_7_0l t_8_0l rT qJ qK qC qD qE qF qG h_4 h_8 j v2).2 :=
  loop_ok2 (L := find [(8, T_zqbg_8), (4, T_zqbg_4)]) (n := 0) (hints := [(75, 15, { keep := [2, 7, 8, 52, 53], acc := [] }), (75, 8, { keep := [1, 2, 3, 7, 8, 9, 10, 20, 21, 30, 31], acc := [] }), (75, 4, { keep := [1, 2, 3, 7, 8, 20, 21], acc := [] })]) (cx_ok rfl) rdy_zqbg bs_zqbg_15 nilB (fun v => (rnd_zqbg_15 rI t_7_0l t_8_0l rT qJ qK qC qD qE qF qG h_4 h_8 v).trans (DT.go_run _ _)) (by intro j v; unfold ex_zqbg_15; split <;> rfl)
theorem mke_zqbg_15 (rI : Int) (t_7_0l : Nat) (t_8_0l : Nat) (rT : Int) (qJ : Option Bool) (qK : Bool) (qC : List (Ty .step)) (qD : Int) (qE : Int) (qF : Int) (qG : Int) (h_4 : List (Ty .int)) (h_8 : List (Ty .bool)) (v : S.zqbg_15_V) : mk_zqbg_15 rI t_7_0l t_8_0l rT qJ qK qC qD qE qF qG h_4 h_8 v = ⟨envOf 70 [(2, V.v false [C.d (.sc (.int .i64 rI))]), (7, V.v false [C.own 4 ET.int true 0 t_7_0l]), (8, V.v false [C.own 8 ET.bool true 0 t_8_0l]), (52, V.v false [C.d (.sc (.int .i64 rT))]), (53, V.v false [C.d (.sc (.int .i64 v.t_53_0))])], heapOf 17 [(0, some
  (Blk.box 45
    [C.d (.sl qJ qK ET.step qC), C.d (.sc (.int .i64 qD)), C.d (.sc (.int .i64 qE)), C.d (.sc (.int .i64 qF)),
      C.d (.sc (.int .i64 qG))])), (4, some (Blk.arr 3 ET.int h_4)), (8, some (Blk.arr 4 ET.bool h_8))], 0⟩ := by kernel_rfl
theorem lo1_zqbg_15 (e2 : V) (e7 : V) (e8 : V) (e52 : V) (e53 : V) (h0 : Option Blk) (h4 : Option Blk) (h8 : Option Blk) e st2 (h : (T1_zqbg_15 e2 e7 e8 e52 e53 h0 h4 h8).eval = some (e, st2)) : Circles Try.prog cx_zqbg b_zqbg_15 ⟨envOf 70 [(2, e2), (7, e7), (8, e8), (52, e52), (53, e53)], heapOf 17 [(0, h0), (4, h4), (8, h8)], 0⟩ e st2 := by
  unfold T1_zqbg_15 at h
  split at h
  · have := loop_tree (mk := mk_zqbg_15 _ _ _ _ _ _ _ _ _ _ _ _ _) (ci_zqbg_15 _ _ _ _ _ _ _ _ _ _ _ _ _) _ _ e st2 h
    rw [mke_zqbg_15] at this
    exact this
  · cases h
theorem lok_zqbg_15 : LoopOk Try.prog cx_zqbg b_zqbg_15 T_zqbg_15 := by
  intro st e st2 h
  unfold T_zqbg_15 at h
  cases hk : okSt 70 17 0 [0, 4, 8] st with
  | false => rw [hk] at h; cases h
  | true =>
    rw [hk] at h
    exact circles_keep (ks := [2, 7, 8, 52, 53]) hk (lo1_zqbg_15 _ _ _ _ _ _ _ _ e st2 h)
structure S.zqbg_T where
  x0 : Int
  deriving Inhabited
def S.zqbg_R (a0_0 : List (Ty .step)) (a0_1 : Int) (a0_2 : Int) (a0_3 : Int) (a0_4 : Int) (a1 : List (Ty .evt)) (a2 : Int) : DT S.zqbg_T :=
let y0 : Int := (↑a1.length : Int)
let y1 : Bool := xdec (0 ≤ y0) && xdec (y0 ≤ 1048576) && xeqI y0 y0
let y2 : Nat := y0.toNat
let y3 : S.zqbg_4_V := { t_21_0 := 0, h_4 := List.replicate y2 (dflt ET.int), h_8 := List.replicate y2 (dflt ET.bool) : S.zqbg_4_V }
let y4 : S.zqbg_4_V := S.zqbg_4_v a1 y2 y2 y0 a0_0 a0_1 a0_2 a0_3 a0_4 y3
let y5 : List (Ty .int) := y4.h_4
let y6 : List (Ty .bool) := y4.h_8
let y7 : S.zqbg_15_V := { t_53_0 := 0 : S.zqbg_15_V }
(.br (y1)
(.br (y1)
(.br (S.zqbg_4_j a1 y2 y2 y0 a0_0 a0_1 a0_2 a0_3 a0_4 y3 0)
(.br (S.zqbg_15_j a2 y2 y2 y0 y5 y6 y7 0)
(.leaf ⟨(S.zqbg_15_v a2 y2 y2 y0 y5 y6 y7).t_53_0⟩)
(.br (S.zqbg_15_j a2 y2 y2 y0 y5 y6 y7 1)
(.leaf ⟨-1⟩)
.fail))
.fail)
.fail)
.fail)
def S.zqbg (a0_0 : List (Ty .step)) (a0_1 : Int) (a0_2 : Int) (a0_3 : Int) (a0_4 : Int) (a1 : List (Ty .evt)) (a2 : Int) : Option S.zqbg_T := (S.zqbg_R a0_0 a0_1 a0_2 a0_3 a0_4 a1 a2).run
def S.zqbg_is (a0_0 : List (Ty .step)) (a0_1 : Int) (a0_2 : Int) (a0_3 : Int) (a0_4 : Int) (a1 : List (Ty .evt)) (a2 : Int) : Bool := (S.zqbg a0_0 a0_1 a0_2 a0_3 a0_4 a1 a2).isSome
def S.zqbg_o (a0_0 : List (Ty .step)) (a0_1 : Int) (a0_2 : Int) (a0_3 : Int) (a0_4 : Int) (a1 : List (Ty .evt)) (a2 : Int) : S.zqbg_T := (S.zqbg a0_0 a0_1 a0_2 a0_3 a0_4 a1 a2).getD default
def ret_zqbg (b : Bool) (r : S.zqbg_T) : Ret := ⟨b, none, [(false, [C.d (.sc (.int .i64 r.x0))])]⟩
def g_zqbg : Con
  | [(true, [.sl a0_0n a0_0f .step a0_0, .sc (.int .i64 a0_1), .sc (.int .i64 a0_2), .sc (.int .i64 a0_3), .sc (.int .i64 a0_4)]), (false, [.sl a1n a1f .evt a1]), (false, [.sc (.int .i64 a2)])] => some (ret_zqbg (S.zqbg_is a0_0 a0_1 a0_2 a0_3 a0_4 a1 a2) (S.zqbg_o a0_0 a0_1 a0_2 a0_3 a0_4 a1 a2))
  | _ => none
theorem raw_zqbg (a0_0n : Option Bool) (a0_0f : Bool) (a0_0 : List (Ty .step)) (a0_1 : Int) (a0_2 : Int) (a0_3 : Int) (a0_4 : Int) (a1n : Option Bool) (a1f : Bool) (a1 : List (Ty .evt)) (a2 : Int) : evR2 cx_zqbg (hdI cx_zqbg (find [(8, T_zqbg_8), (4, T_zqbg_4), (15, T_zqbg_15)]) [] none 0) none Try.f75 75 none [(true, [.sl a0_0n a0_0f .step a0_0, .sc (.int .i64 a0_1), .sc (.int .i64 a0_2), .sc (.int .i64 a0_3), .sc (.int .i64 a0_4)]), (false, [.sl a1n a1f .evt a1]), (false, [.sc (.int .i64 a2)])] some = (S.zqbg_R a0_0 a0_1 a0_2 a0_3 a0_4 a1 a2).go (ret_zqbg true) := by kernel_rfl
theorem bs_zqbg : loopsIn Try.f75 [] = [b_zqbg_4, b_zqbg_15] := by kernel_rfl
theorem zqbg_ok : Stands Try.prog tyTab 75 g_zqbg := by
  refine stands3 (L := find [(8, T_zqbg_8), (4, T_zqbg_4), (15, T_zqbg_15)]) (n := 0) (hints := [(75, 15, { keep := [2, 7, 8, 52, 53], acc := [] }), (75, 8, { keep := [1, 2, 3, 7, 8, 9, 10, 20, 21, 30, 31], acc := [] }), (75, 4, { keep := [1, 2, 3, 7, 8, 20, 21], acc := [] })]) (cx_ok rfl) rdy_zqbg ⟨by kernel_rfl, by kernel_rfl, by kernel_rfl⟩ bs_zqbg (consB (fun T h => by have e : T_zqbg_4 = T := Option.some.inj (show some T_zqbg_4 = some T from h); exact e ▸ lok_zqbg_4) (consB (fun T h => by have e : T_zqbg_15 = T := Option.some.inj (show some T_zqbg_15 = some T from h); exact e ▸ lok_zqbg_15) nilB)) (fun das r hG hr => ?_)
  unfold g_zqbg at hG
  split at hG
  · rename_i a0_0n a0_0f a0_0 a0_1 a0_2 a0_3 a0_4 a1n a1f a1 a2
    injection hG with hG; subst hG
    exact ⟨none, true, win default ((raw_zqbg a0_0n a0_0f a0_0 a0_1 a0_2 a0_3 a0_4 a1n a1f a1 a2).trans (DT.go_run _ _)) hr⟩
  · cases hG
abbrev cx_zqav : Cx := mkCx2 tyTab [] [] [] []
theorem rdy_zqav : Ready Try.prog tyTab [] [] [] := ⟨noneG2, noneI2, noneF2⟩
structure S.zqav_T where
  x0 : Option Bool
  x1 : Bool
  x2 : List (Ty .evt)
  x3 : Option Bool
  x4 : Bool
  x5 : List (Ty .step)
  x6 : Int
  x7 : Int
  x8 : Int
  x9 : Int
  deriving Inhabited
def S.zqav_R (a0_0n : Option Bool) (a0_0f : Bool) (a0_0 : List (Ty .step)) (a0_1 : Int) (a0_2 : Int) (a0_3 : Int) (a0_4 : Int) (a1n : Option Bool) (a1f : Bool) (a1 : List (Ty .evt)) : DT S.zqav_T :=
(.leaf ⟨a1n, a1f, a1, a0_0n, a0_0f, a0_0, a0_1, a0_2, a0_3, a0_4⟩)
def S.zqav (a0_0n : Option Bool) (a0_0f : Bool) (a0_0 : List (Ty .step)) (a0_1 : Int) (a0_2 : Int) (a0_3 : Int) (a0_4 : Int) (a1n : Option Bool) (a1f : Bool) (a1 : List (Ty .evt)) : Option S.zqav_T := (S.zqav_R a0_0n a0_0f a0_0 a0_1 a0_2 a0_3 a0_4 a1n a1f a1).run
def S.zqav_is (a0_0n : Option Bool) (a0_0f : Bool) (a0_0 : List (Ty .step)) (a0_1 : Int) (a0_2 : Int) (a0_3 : Int) (a0_4 : Int) (a1n : Option Bool) (a1f : Bool) (a1 : List (Ty .evt)) : Bool := (S.zqav a0_0n a0_0f a0_0 a0_1 a0_2 a0_3 a0_4 a1n a1f a1).isSome
def S.zqav_o (a0_0n : Option Bool) (a0_0f : Bool) (a0_0 : List (Ty .step)) (a0_1 : Int) (a0_2 : Int) (a0_3 : Int) (a0_4 : Int) (a1n : Option Bool) (a1f : Bool) (a1 : List (Ty .evt)) : S.zqav_T := (S.zqav a0_0n a0_0f a0_0 a0_1 a0_2 a0_3 a0_4 a1n a1f a1).getD default
def ret_zqav (b : Bool) (r : S.zqav_T) : Ret := ⟨b, none, [(false,
    [C.d
        (D.fn 140 []
          [[D.sl r.x0 r.x1 ET.evt r.x2],
            [D.sl r.x3 r.x4 ET.step r.x5, D.sc (Sc.int IntKind.i64 r.x6), D.sc (Sc.int IntKind.i64 r.x7), D.sc (Sc.int IntKind.i64 r.x8), D.sc (Sc.int IntKind.i64 r.x9)]])])]⟩
def g_zqav : Con
  | [(true, [.sl a0_0n a0_0f .step a0_0, .sc (.int .i64 a0_1), .sc (.int .i64 a0_2), .sc (.int .i64 a0_3), .sc (.int .i64 a0_4)]), (false, [.sl a1n a1f .evt a1])] => some (ret_zqav (S.zqav_is a0_0n a0_0f a0_0 a0_1 a0_2 a0_3 a0_4 a1n a1f a1) (S.zqav_o a0_0n a0_0f a0_0 a0_1 a0_2 a0_3 a0_4 a1n a1f a1))
  | _ => none
theorem raw_zqav (a0_0n : Option Bool) (a0_0f : Bool) (a0_0 : List (Ty .step)) (a0_1 : Int) (a0_2 : Int) (a0_3 : Int) (a0_4 : Int) (a1n : Option Bool) (a1f : Bool) (a1 : List (Ty .evt)) : evR2 cx_zqav (hdI cx_zqav (find []) [] none 0) none Try.f112 112 none [(true, [.sl a0_0n a0_0f .step a0_0, .sc (.int .i64 a0_1), .sc (.int .i64 a0_2), .sc (.int .i64 a0_3), .sc (.int .i64 a0_4)]), (false, [.sl a1n a1f .evt a1])] some = (S.zqav_R a0_0n a0_0f a0_0 a0_1 a0_2 a0_3 a0_4 a1n a1f a1).go (ret_zqav true) := by kernel_rfl
theorem bs_zqav : loopsIn Try.f112 [] = [] := by kernel_rfl
theorem zqav_ok : Stands Try.prog tyTab 112 g_zqav := by
  refine stands3 (L := find []) (n := 0) (hints := []) (cx_ok rfl) rdy_zqav ⟨by kernel_rfl, by kernel_rfl, by kernel_rfl⟩ bs_zqav nilB (fun das r hG hr => ?_)
  unfold g_zqav at hG
  split at hG
  · rename_i a0_0n a0_0f a0_0 a0_1 a0_2 a0_3 a0_4 a1n a1f a1
    injection hG with hG; subst hG
    exact ⟨none, true, win default ((raw_zqav a0_0n a0_0f a0_0 a0_1 a0_2 a0_3 a0_4 a1n a1f a1).trans (DT.go_run _ _)) hr⟩
  · cases hG
end
end Go.Eng
