/- Contracts, laid by program. -/
import Derived.Test.YtbjeikmkngcjlaaZG1
set_option linter.unusedVariables false
set_option linter.unusedSimpArgs false
namespace Go.Eng
noncomputable section
open Go Go.Eng Go.Proofs Go.Eng.Tab
abbrev cx_zqbl : Cx := mkCx2 tyTab [] [] [] []
theorem rdy_zqbl : Ready Try.prog tyTab [] [] [] := ⟨noneG2, noneI2, noneF2⟩
structure S.zqbl_T where
  x0 : Thing
  deriving Inhabited
def S.zqbl_R (a0_0 : Int) (a0_1 : Int) (a0_2 : ByteArray) : DT S.zqbl_T :=
let y0 : Bool := xeqI a0_0 0
let y1 : Thing := Thing.one 3 (Sc.int IntKind.i64 a0_1)
let y2 : Bool := xeqI a0_0 1
let y3 : Bool := xdec (IntKind.u64.wrap a0_1 < 2)
let y4 : Thing := Thing.one 4 (Sc.bool (xeqI a0_1 1))
let y5 : Bool := xeqI a0_0 2
let y6 : Bool := xeqI a0_1 0
let y7 : Bool := xdec ((↑a0_2.size : Int) ≤ 40)
let y8 : Thing := Thing.one 9 (Sc.str a0_2)
let y9 : Bool := xeqI a0_0 3
let y10 : Bool := xdec (a0_1 ≥ 0)
let y11 : Bool := xdec (a0_1 ≤ 1125899906842624)
let y12 : Thing := Thing.one 211 (Sc.int IntKind.i64 a0_1)
(.br (xneI a0_0 2)
(.br (xnot (xdec (a0_2 = { data := { toList := [] : Array UInt8 } : ByteArray })))
(.leaf ⟨Thing.nil⟩)
(.br (y0)
(.leaf ⟨y1⟩)
(.br (y2)
(.br (y3)
(.leaf ⟨y4⟩)
(.br (y5)
(.br (y6)
(.br (y7)
(.leaf ⟨y8⟩)
(.br (y9)
(.br (y10)
(.br (y11)
(.leaf ⟨y12⟩)
(.leaf ⟨Thing.nil⟩))
(.leaf ⟨Thing.nil⟩))
(.leaf ⟨Thing.nil⟩)))
(.br (y9)
(.br (y10)
(.br (y11)
(.leaf ⟨y12⟩)
(.leaf ⟨Thing.nil⟩))
(.leaf ⟨Thing.nil⟩))
(.leaf ⟨Thing.nil⟩)))
(.br (y9)
(.br (y10)
(.br (y11)
(.leaf ⟨y12⟩)
(.leaf ⟨Thing.nil⟩))
(.leaf ⟨Thing.nil⟩))
(.leaf ⟨Thing.nil⟩))))
(.br (y5)
(.br (y6)
(.br (y7)
(.leaf ⟨y8⟩)
(.br (y9)
(.br (y10)
(.br (y11)
(.leaf ⟨y12⟩)
(.leaf ⟨Thing.nil⟩))
(.leaf ⟨Thing.nil⟩))
(.leaf ⟨Thing.nil⟩)))
(.br (y9)
(.br (y10)
(.br (y11)
(.leaf ⟨y12⟩)
(.leaf ⟨Thing.nil⟩))
(.leaf ⟨Thing.nil⟩))
(.leaf ⟨Thing.nil⟩)))
(.br (y9)
(.br (y10)
(.br (y11)
(.leaf ⟨y12⟩)
(.leaf ⟨Thing.nil⟩))
(.leaf ⟨Thing.nil⟩))
(.leaf ⟨Thing.nil⟩))))))
(.br (y0)
(.leaf ⟨y1⟩)
(.br (y2)
(.br (y3)
(.leaf ⟨y4⟩)
(.br (y5)
(.br (y6)
(.br (y7)
(.leaf ⟨y8⟩)
(.br (y9)
(.br (y10)
(.br (y11)
(.leaf ⟨y12⟩)
(.leaf ⟨Thing.nil⟩))
(.leaf ⟨Thing.nil⟩))
(.leaf ⟨Thing.nil⟩)))
(.br (y9)
(.br (y10)
(.br (y11)
(.leaf ⟨y12⟩)
(.leaf ⟨Thing.nil⟩))
(.leaf ⟨Thing.nil⟩))
(.leaf ⟨Thing.nil⟩)))
(.br (y9)
(.br (y10)
(.br (y11)
(.leaf ⟨y12⟩)
(.leaf ⟨Thing.nil⟩))
(.leaf ⟨Thing.nil⟩))
(.leaf ⟨Thing.nil⟩))))
(.br (y5)
(.br (y6)
(.br (y7)
(.leaf ⟨y8⟩)
(.br (y9)
(.br (y10)
(.br (y11)
(.leaf ⟨y12⟩)
(.leaf ⟨Thing.nil⟩))
(.leaf ⟨Thing.nil⟩))
(.leaf ⟨Thing.nil⟩)))
(.br (y9)
(.br (y10)
(.br (y11)
(.leaf ⟨y12⟩)
(.leaf ⟨Thing.nil⟩))
(.leaf ⟨Thing.nil⟩))
(.leaf ⟨Thing.nil⟩)))
(.br (y9)
(.br (y10)
(.br (y11)
(.leaf ⟨y12⟩)
(.leaf ⟨Thing.nil⟩))
(.leaf ⟨Thing.nil⟩))
(.leaf ⟨Thing.nil⟩))))))
def S.zqbl (a0_0 : Int) (a0_1 : Int) (a0_2 : ByteArray) : Option S.zqbl_T := (S.zqbl_R a0_0 a0_1 a0_2).run
def S.zqbl_is (a0_0 : Int) (a0_1 : Int) (a0_2 : ByteArray) : Bool := (S.zqbl a0_0 a0_1 a0_2).isSome
def S.zqbl_o (a0_0 : Int) (a0_1 : Int) (a0_2 : ByteArray) : S.zqbl_T := (S.zqbl a0_0 a0_1 a0_2).getD default
def ret_zqbl (b : Bool) (r : S.zqbl_T) : Ret := ⟨b, none, [(false, [C.d (D.th r.x0)])]⟩
def g_zqbl : Con
  | [(true, [.sc (.int .i64 a0_0), .sc (.int .i64 a0_1), .sc (.str a0_2)])] => some (ret_zqbl (S.zqbl_is a0_0 a0_1 a0_2) (S.zqbl_o a0_0 a0_1 a0_2))
  | _ => none
theorem raw_zqbl (a0_0 : Int) (a0_1 : Int) (a0_2 : ByteArray) : evR2 cx_zqbl (hdI cx_zqbl (find []) [] none 0) none Try.f163 163 none [(true, [.sc (.int .i64 a0_0), .sc (.int .i64 a0_1), .sc (.str a0_2)])] some = (S.zqbl_R a0_0 a0_1 a0_2).go (ret_zqbl true) := by kernel_rfl
theorem bs_zqbl : loopsIn Try.f163 [] = [] := by kernel_rfl
theorem zqbl_ok : Stands Try.prog tyTab 163 g_zqbl := by
  refine stands3 (L := find []) (n := 0) (hints := []) (cx_ok rfl) rdy_zqbl ⟨by kernel_rfl, by kernel_rfl, by kernel_rfl⟩ bs_zqbl nilB (fun das r hG hr => ?_)
  unfold g_zqbl at hG
  split at hG
  · rename_i a0_0 a0_1 a0_2
    injection hG with hG; subst hG
    exact ⟨none, true, win default ((raw_zqbl a0_0 a0_1 a0_2).trans (DT.go_run _ _)) hr⟩
  · cases hG
abbrev cx_zqbz : Cx := mkCx2 tyTab [(163, g_zqbl)] [] [] []
theorem rdy_zqbz : Ready Try.prog tyTab [(163, g_zqbl)] [] [] := ⟨consG2 zqbl_ok (noneG2), noneI2, noneF2⟩
structure S.zqbz_T where
  x0 : Bool
  deriving Inhabited
def S.zqbz_R (a0_0 : Int) (a0_1 : Int) (a0_2 : ByteArray) : DT S.zqbz_T :=
(.br (S.zqbl_is a0_0 a0_1 a0_2)
(.leaf ⟨bif (S.zqbl_o a0_0 a0_1 a0_2).x0.isNil then false else true⟩)
.fail)
def S.zqbz (a0_0 : Int) (a0_1 : Int) (a0_2 : ByteArray) : Option S.zqbz_T := (S.zqbz_R a0_0 a0_1 a0_2).run
def S.zqbz_is (a0_0 : Int) (a0_1 : Int) (a0_2 : ByteArray) : Bool := (S.zqbz a0_0 a0_1 a0_2).isSome
def S.zqbz_o (a0_0 : Int) (a0_1 : Int) (a0_2 : ByteArray) : S.zqbz_T := (S.zqbz a0_0 a0_1 a0_2).getD default
def ret_zqbz (b : Bool) (r : S.zqbz_T) : Ret := ⟨b, none, [(false, [C.d (.sc (.bool r.x0))])]⟩
def g_zqbz : Con
  | [(true, [.sc (.int .i64 a0_0), .sc (.int .i64 a0_1), .sc (.str a0_2)])] => some (ret_zqbz (S.zqbz_is a0_0 a0_1 a0_2) (S.zqbz_o a0_0 a0_1 a0_2))
  | _ => none
theorem raw_zqbz (a0_0 : Int) (a0_1 : Int) (a0_2 : ByteArray) : evR2 cx_zqbz (hdI cx_zqbz (find []) [] none 0) none Try.f147 147 none [(true, [.sc (.int .i64 a0_0), .sc (.int .i64 a0_1), .sc (.str a0_2)])] some = (S.zqbz_R a0_0 a0_1 a0_2).go (ret_zqbz true) := by kernel_rfl
theorem bs_zqbz : loopsIn Try.f147 [] = [] := by kernel_rfl
theorem zqbz_ok : Stands Try.prog tyTab 147 g_zqbz := by
  refine stands3 (L := find []) (n := 0) (hints := []) (cx_ok rfl) rdy_zqbz ⟨by kernel_rfl, by kernel_rfl, by kernel_rfl⟩ bs_zqbz nilB (fun das r hG hr => ?_)
  unfold g_zqbz at hG
  split at hG
  · rename_i a0_0 a0_1 a0_2
    injection hG with hG; subst hG
    exact ⟨none, true, win default ((raw_zqbz a0_0 a0_1 a0_2).trans (DT.go_run _ _)) hr⟩
  · cases hG
abbrev cx_zqax : Cx := mkCx2 tyTab [(147, g_zqbz)] [] [] []
theorem rdy_zqax : Ready Try.prog tyTab [(147, g_zqbz)] [] [] := ⟨consG2 zqbz_ok (noneG2), noneI2, noneF2⟩
structure S.zqax_T where
  x0 : Bool
  deriving Inhabited
def S.zqax_R (a0_0 : Int) (a0_1 : Int) (a0_2 : ByteArray) : DT S.zqax_T :=
(.br (S.zqbz_is a0_0 a0_1 a0_2)
(.leaf ⟨xnot (S.zqbz_o a0_0 a0_1 a0_2).x0⟩)
.fail)
def S.zqax (a0_0 : Int) (a0_1 : Int) (a0_2 : ByteArray) : Option S.zqax_T := (S.zqax_R a0_0 a0_1 a0_2).run
def S.zqax_is (a0_0 : Int) (a0_1 : Int) (a0_2 : ByteArray) : Bool := (S.zqax a0_0 a0_1 a0_2).isSome
def S.zqax_o (a0_0 : Int) (a0_1 : Int) (a0_2 : ByteArray) : S.zqax_T := (S.zqax a0_0 a0_1 a0_2).getD default
def ret_zqax (b : Bool) (r : S.zqax_T) : Ret := ⟨b, none, [(false, [C.d (.sc (.bool r.x0))])]⟩
def g_zqax : Con
  | [(true, [.sc (.int .i64 a0_0), .sc (.int .i64 a0_1), .sc (.str a0_2)])] => some (ret_zqax (S.zqax_is a0_0 a0_1 a0_2) (S.zqax_o a0_0 a0_1 a0_2))
  | _ => none
theorem raw_zqax (a0_0 : Int) (a0_1 : Int) (a0_2 : ByteArray) : evR2 cx_zqax (hdI cx_zqax (find []) [] none 0) none Try.f149 149 none [(true, [.sc (.int .i64 a0_0), .sc (.int .i64 a0_1), .sc (.str a0_2)])] some = (S.zqax_R a0_0 a0_1 a0_2).go (ret_zqax true) := by kernel_rfl
theorem bs_zqax : loopsIn Try.f149 [] = [] := by kernel_rfl
theorem zqax_ok : Stands Try.prog tyTab 149 g_zqax := by
  refine stands3 (L := find []) (n := 0) (hints := []) (cx_ok rfl) rdy_zqax ⟨by kernel_rfl, by kernel_rfl, by kernel_rfl⟩ bs_zqax nilB (fun das r hG hr => ?_)
  unfold g_zqax at hG
  split at hG
  · rename_i a0_0 a0_1 a0_2
    injection hG with hG; subst hG
    exact ⟨none, true, win default ((raw_zqax a0_0 a0_1 a0_2).trans (DT.go_run _ _)) hr⟩
  · cases hG
abbrev cx_zqaj : Cx := mkCx2 tyTab [(149, g_zqax)] [] [(165, 2, { keep := [0, 1, 7, 8], acc := [] })] []
theorem rdy_zqaj : Ready Try.prog tyTab [(149, g_zqax)] [] [] := ⟨consG2 zqax_ok (noneG2), noneI2, noneF2⟩
structure S.zqaj_2_V where
  t_8_0 : Int
def S.zqaj_2_R (qA : List (Ty .val)) (qB : Int) (v : S.zqaj_2_V) : DT (Option Nat × S.zqaj_2_V) :=
let y0 : Ty ET.val := qA.getD v.t_8_0.toNat (dflt ET.val)
let y1 : Int := y0.kind
let y2 : Int := y0.n
let y3 : ByteArray := y0.s
(.br (xdec (v.t_8_0 < qB))
(.br (xdec (0 ≤ v.t_8_0) && xdec (v.t_8_0 < (↑qA.length : Int)))
(.br (S.zqax_is y1 y2 y3)
(.br ((S.zqax_o y1 y2 y3).x0)
(.leaf (some 0, v))
(.leaf (none, ⟨xwrap IntKind.i64 (v.t_8_0 + 1)⟩)))
.fail)
.fail)
(.leaf (some 1, v)))
def S.zqaj_2_r (qA : List (Ty .val)) (qB : Int) (v : S.zqaj_2_V) : Option (Option Nat × S.zqaj_2_V) := (S.zqaj_2_R qA qB v).run
def S.zqaj_2_j (qA : List (Ty .val)) (qB : Int) (v : S.zqaj_2_V) (j : Nat) : Bool := Lp_j (S.zqaj_2_r qA qB) v j
def S.zqaj_2_v (qA : List (Ty .val)) (qB : Int) (v : S.zqaj_2_V) : S.zqaj_2_V := Lp_v (S.zqaj_2_r qA qB) v
def mk_zqaj_2 (qC : Option Bool) (qD : Bool) (qA : List (Ty .val)) (qB : Int) (v : S.zqaj_2_V) : St := ⟨[V.v false [C.d (.sl qC qD ET.val qA)], V.v false [C.d (D.fn 149 [] [])], V.any, V.any, V.any, V.any, V.any, V.v false [C.d (.sc (.int .i64 qB))],
  V.v false [C.d (.sc (.int .i64 v.t_8_0))], V.any, V.any, V.any, V.any, V.any, V.any, V.any, V.any, V.any, V.any], [none, none, none, none], 0⟩
def ex_zqaj_2 (qC : Option Bool) (qD : Bool) (qA : List (Ty .val)) (qB : Int) (j : Nat) (v : S.zqaj_2_V) : Ex × St := match j with
  | 0 => (Ex.ret, ⟨[V.any, V.any, V.any, V.any, V.v false [C.d (.sc (.int .i64 v.t_8_0))], V.any, V.any, V.any, V.any, V.any, V.any, V.any, V.any, V.any, V.any, V.any, V.any, V.any, V.any], [none, none, none, none, none, none, none, none, none, none, none, none, none, none, none], 0⟩)
  | 1 => (Ex.exit 0, ⟨[V.any, V.any, V.any, V.any, V.any, V.any, V.any, V.any, V.any, V.any, V.any, V.any, V.any, V.any, V.any, V.any, V.any, V.any, V.any], [none, none, none, none, none], 0⟩)
  | _ => (.ret, ⟨[], [], 0⟩)
def T1_zqaj_2 : V → V → V → V → Tree
  | V.v false [C.d (.sl qC qD ET.val qA)], V.v false [C.d (D.fn 149 [] [])], V.v false [C.d (.sc (.int .i64 qB))], V.v false [C.d (.sc (.int .i64 t_8_0))] => exT (fun j => ex_zqaj_2 qC qD qA qB j (S.zqaj_2_v qA qB ⟨t_8_0⟩)) (S.zqaj_2_j qA qB ⟨t_8_0⟩) [0, 1]
  | _, _, _, _ => .bad
def T_zqaj_2 (st : St) : Tree := bif okSt 19 4 0 [] st then T1_zqaj_2 (st.env.getD 0 .any) (st.env.getD 1 .any) (st.env.getD 7 .any) (st.env.getD 8 .any) else .bad
def b_zqaj_2 : Code := loopBy Try.f165 2
theorem rnd_zqaj_2 (qC : Option Bool) (qD : Bool) (qA : List (Ty .val)) (qB : Int) (v : S.zqaj_2_V) : round2 cx_zqaj (hdI cx_zqaj (find []) [] none 0) 165 b_zqaj_2 [] 4 [4] (mk_zqaj_2 qC qD qA qB v) = (S.zqaj_2_R qA qB v).go (roundOut (mk_zqaj_2 qC qD qA qB) (ex_zqaj_2 qC qD qA qB)) := by kernel_rfl
theorem bs_zqaj_2 : loopsOf b_zqaj_2 ++ loopsInl [] = [] := by kernel_rfl
theorem ci_zqaj_2 (qC : Option Bool) (qD : Bool) (qA : List (Ty .val)) (qB : Int) : ∀ v j v2, Lp (S.zqaj_2_r qA qB) v = some (j, v2) → Circles Try.prog cx_zqaj b_zqaj_2 (mk_zqaj_2 qC qD qA qB v) (ex_zqaj_2 qC qD qA qB j v2).1 (ex_zqaj_2 qC qD qA qB j v2).2 :=
  loop_ok2 (L := find []) (n := 0) (hints := [(165, 2, { keep := [0, 1, 7, 8], acc := [] })]) (cx_ok rfl) rdy_zqaj bs_zqaj_2 nilB (fun v => (rnd_zqaj_2 qC qD qA qB v).trans (DT.go_run _ _)) (by intro j v; unfold ex_zqaj_2; split <;> rfl)
theorem mke_zqaj_2 (qC : Option Bool) (qD : Bool) (qA : List (Ty .val)) (qB : Int) (v : S.zqaj_2_V) : mk_zqaj_2 qC qD qA qB v = ⟨envOf 19 [(0, V.v false [C.d (.sl qC qD ET.val qA)]), (1, V.v false [C.d (D.fn 149 [] [])]), (7, V.v false [C.d (.sc (.int .i64 qB))]), (8, V.v false [C.d (.sc (.int .i64 v.t_8_0))])], heapOf 4 [], 0⟩ := by kernel_rfl
theorem lo1_zqaj_2 (e0 : V) (e1 : V) (e7 : V) (e8 : V)  e st2 (h : (T1_zqaj_2 e0 e1 e7 e8).eval = some (e, st2)) : Circles Try.prog cx_zqaj b_zqaj_2 ⟨envOf 19 [(0, e0), (1, e1), (7, e7), (8, e8)], heapOf 4 [], 0⟩ e st2 := by
  unfold T1_zqaj_2 at h
  split at h
  · have := loop_tree (mk := mk_zqaj_2 _ _ _ _) (ci_zqaj_2 _ _ _ _) _ _ e st2 h
    rw [mke_zqaj_2] at this
    exact this
  · cases h
theorem lok_zqaj_2 : LoopOk Try.prog cx_zqaj b_zqaj_2 T_zqaj_2 := by
  intro st e st2 h
  unfold T_zqaj_2 at h
  cases hk : okSt 19 4 0 [] st with
  | false => rw [hk] at h; cases h
  | true =>
    rw [hk] at h
    exact circles_keep (ks := [0, 1, 7, 8]) hk (lo1_zqaj_2 _ _ _ _ e st2 h)
structure S.zqaj_T where
  x0 : Int
  deriving Inhabited
def S.zqaj_R (a0 : List (Ty .val)) : DT S.zqaj_T :=
let y0 : Int := (↑a0.length : Int)
let y1 : S.zqaj_2_V := { t_8_0 := 0 : S.zqaj_2_V }
(.br (S.zqaj_2_j a0 y0 y1 0)
(.leaf ⟨(S.zqaj_2_v a0 y0 y1).t_8_0⟩)
(.br (S.zqaj_2_j a0 y0 y1 1)
(.leaf ⟨-1⟩)
.fail))
def S.zqaj (a0 : List (Ty .val)) : Option S.zqaj_T := (S.zqaj_R a0).run
def S.zqaj_is (a0 : List (Ty .val)) : Bool := (S.zqaj a0).isSome
def S.zqaj_o (a0 : List (Ty .val)) : S.zqaj_T := (S.zqaj a0).getD default
def ret_zqaj (b : Bool) (r : S.zqaj_T) : Ret := ⟨b, none, [(false, [C.d (.sc (.int .i64 r.x0))])]⟩
def g_zqaj : Con
  | [(false, [.sl a0n a0f .val a0]), (false, [.fn 149 [] []])] => some (ret_zqaj (S.zqaj_is a0) (S.zqaj_o a0))
  | _ => none
theorem raw_zqaj (a0n : Option Bool) (a0f : Bool) (a0 : List (Ty .val)) : evR2 cx_zqaj (hdI cx_zqaj (find [(2, T_zqaj_2)]) [] none 0) none Try.f165 165 none [(false, [.sl a0n a0f .val a0]), (false, [.fn 149 [] []])] some = (S.zqaj_R a0).go (ret_zqaj true) := by kernel_rfl
theorem bs_zqaj : loopsIn Try.f165 [] = [b_zqaj_2] := by kernel_rfl
theorem zqaj_ok : Stands Try.prog tyTab 165 g_zqaj := by
  refine stands3 (L := find [(2, T_zqaj_2)]) (n := 0) (hints := [(165, 2, { keep := [0, 1, 7, 8], acc := [] })]) (cx_ok rfl) rdy_zqaj ⟨by kernel_rfl, by kernel_rfl, by kernel_rfl⟩ bs_zqaj (consB (fun T h => by have e : T_zqaj_2 = T := Option.some.inj (show some T_zqaj_2 = some T from h); exact e ▸ lok_zqaj_2) nilB) (fun das r hG hr => ?_)
  unfold g_zqaj at hG
  split at hG
  · rename_i a0n a0f a0
    injection hG with hG; subst hG
    exact ⟨none, true, win default ((raw_zqaj a0n a0f a0).trans (DT.go_run _ _)) hr⟩
  · cases hG
abbrev cx_zqag : Cx := mkCx2 tyTab [(165, g_zqaj)] [] [] []
theorem rdy_zqag : Ready Try.prog tyTab [(165, g_zqaj)] [] [] := ⟨consG2 zqaj_ok (noneG2), noneI2, noneF2⟩
structure S.zqag_T where
  x0 : Bool
  deriving Inhabited
def S.zqag_R (a0 : List (Ty .val)) : DT S.zqag_T :=
(.br (S.zqaj_is a0)
(.leaf ⟨xdec ((S.zqaj_o a0).x0 ≥ 0)⟩)
.fail)
def S.zqag (a0 : List (Ty .val)) : Option S.zqag_T := (S.zqag_R a0).run
def S.zqag_is (a0 : List (Ty .val)) : Bool := (S.zqag a0).isSome
def S.zqag_o (a0 : List (Ty .val)) : S.zqag_T := (S.zqag a0).getD default
def ret_zqag (b : Bool) (r : S.zqag_T) : Ret := ⟨b, none, [(false, [C.d (.sc (.bool r.x0))])]⟩
def g_zqag : Con
  | [(false, [.sl a0n a0f .val a0]), (false, [.fn 149 [] []])] => some (ret_zqag (S.zqag_is a0) (S.zqag_o a0))
  | _ => none
theorem raw_zqag (a0n : Option Bool) (a0f : Bool) (a0 : List (Ty .val)) : evR2 cx_zqag (hdI cx_zqag (find []) [] none 0) none Try.f151 151 none [(false, [.sl a0n a0f .val a0]), (false, [.fn 149 [] []])] some = (S.zqag_R a0).go (ret_zqag true) := by kernel_rfl
theorem bs_zqag : loopsIn Try.f151 [] = [] := by kernel_rfl
theorem zqag_ok : Stands Try.prog tyTab 151 g_zqag := by
  refine stands3 (L := find []) (n := 0) (hints := []) (cx_ok rfl) rdy_zqag ⟨by kernel_rfl, by kernel_rfl, by kernel_rfl⟩ bs_zqag nilB (fun das r hG hr => ?_)
  unfold g_zqag at hG
  split at hG
  · rename_i a0n a0f a0
    injection hG with hG; subst hG
    exact ⟨none, true, win default ((raw_zqag a0n a0f a0).trans (DT.go_run _ _)) hr⟩
  · cases hG
abbrev cx_zqau : Cx := mkCx2 tyTab [] [] [] []
theorem rdy_zqau : Ready Try.prog tyTab [] [] [] := ⟨noneG2, noneI2, noneF2⟩
structure S.zqau_T where
  x0 : Bool
  deriving Inhabited
def S.zqau_R (a0 : Int) : DT S.zqau_T :=
(.leaf ⟨xneI a0 a0⟩)
def S.zqau (a0 : Int) : Option S.zqau_T := (S.zqau_R a0).run
def S.zqau_is (a0 : Int) : Bool := (S.zqau a0).isSome
def S.zqau_o (a0 : Int) : S.zqau_T := (S.zqau a0).getD default
def ret_zqau (b : Bool) (r : S.zqau_T) : Ret := ⟨b, none, [(false, [C.d (.sc (.bool r.x0))])]⟩
def g_zqau : Con
  | [(false, [.sc (.int .i64 a0)])] => some (ret_zqau (S.zqau_is a0) (S.zqau_o a0))
  | _ => none
theorem raw_zqau (a0 : Int) : evR2 cx_zqau (hdI cx_zqau (find []) [] none 0) none Try.f142 142 none [(false, [.sc (.int .i64 a0)])] some = (S.zqau_R a0).go (ret_zqau true) := by kernel_rfl
theorem bs_zqau : loopsIn Try.f142 [] = [] := by kernel_rfl
theorem zqau_ok : Stands Try.prog tyTab 142 g_zqau := by
  refine stands3 (L := find []) (n := 0) (hints := []) (cx_ok rfl) rdy_zqau ⟨by kernel_rfl, by kernel_rfl, by kernel_rfl⟩ bs_zqau nilB (fun das r hG hr => ?_)
  unfold g_zqau at hG
  split at hG
  · rename_i a0
    injection hG with hG; subst hG
    exact ⟨none, true, win default ((raw_zqau a0).trans (DT.go_run _ _)) hr⟩
  · cases hG
abbrev cx_zqan : Cx := mkCx2 tyTab [] [] [] []
theorem rdy_zqan : Ready Try.prog tyTab [] [] [] := ⟨noneG2, noneI2, noneF2⟩
structure S.zqan_T where
  x0 : Bool
  deriving Inhabited
def S.zqan_R (a0 : ByteArray) : DT S.zqan_T :=
(.leaf ⟨xnot (xdec (a0 = a0))⟩)
def S.zqan (a0 : ByteArray) : Option S.zqan_T := (S.zqan_R a0).run
def S.zqan_is (a0 : ByteArray) : Bool := (S.zqan a0).isSome
def S.zqan_o (a0 : ByteArray) : S.zqan_T := (S.zqan a0).getD default
def ret_zqan (b : Bool) (r : S.zqan_T) : Ret := ⟨b, none, [(false, [C.d (.sc (.bool r.x0))])]⟩
def g_zqan : Con
  | [(false, [.sc (.str a0)])] => some (ret_zqan (S.zqan_is a0) (S.zqan_o a0))
  | _ => none
theorem raw_zqan (a0 : ByteArray) : evR2 cx_zqan (hdI cx_zqan (find []) [] none 0) none Try.f182 182 none [(false, [.sc (.str a0)])] some = (S.zqan_R a0).go (ret_zqan true) := by kernel_rfl
theorem bs_zqan : loopsIn Try.f182 [] = [] := by kernel_rfl
theorem zqan_ok : Stands Try.prog tyTab 182 g_zqan := by
  refine stands3 (L := find []) (n := 0) (hints := []) (cx_ok rfl) rdy_zqan ⟨by kernel_rfl, by kernel_rfl, by kernel_rfl⟩ bs_zqan nilB (fun das r hG hr => ?_)
  unfold g_zqan at hG
  split at hG
  · rename_i a0
    injection hG with hG; subst hG
    exact ⟨none, true, win default ((raw_zqan a0).trans (DT.go_run _ _)) hr⟩
  · cases hG
abbrev cx_zqas : Cx := mkCx2 tyTab [(142, g_zqau)] [] [] []
theorem rdy_zqas : Ready Try.prog tyTab [(142, g_zqau)] [] [] := ⟨consG2 zqau_ok (noneG2), noneI2, noneF2⟩
structure S.zqas_T where
  x0 : Int
  deriving Inhabited
def S.zqas_R (a0 : Int) (a1 : Int) : DT S.zqas_T :=
let y0 : Int := -1
(.br ((S.zqau_o a0).x0)
(.br ((S.zqau_o a1).x0)
(.leaf ⟨0⟩)
(.leaf ⟨y0⟩))
(.br ((S.zqau_o a1).x0)
(.leaf ⟨1⟩)
(.br (xdec (a0 < a1))
(.leaf ⟨y0⟩)
(.br (xdec (a0 > a1))
(.leaf ⟨1⟩)
(.leaf ⟨0⟩)))))
def S.zqas (a0 : Int) (a1 : Int) : Option S.zqas_T := (S.zqas_R a0 a1).run
def S.zqas_is (a0 : Int) (a1 : Int) : Bool := (S.zqas a0 a1).isSome
def S.zqas_o (a0 : Int) (a1 : Int) : S.zqas_T := (S.zqas a0 a1).getD default
def ret_zqas (b : Bool) (r : S.zqas_T) : Ret := ⟨b, none, [(false, [C.d (.sc (.int .i64 r.x0))])]⟩
def g_zqas : Con
  | [(false, [.sc (.int .i64 a0)]), (false, [.sc (.int .i64 a1)])] => some (ret_zqas (S.zqas_is a0 a1) (S.zqas_o a0 a1))
  | _ => none
theorem raw_zqas (a0 : Int) (a1 : Int) : evR2 cx_zqas (hdI cx_zqas (find []) [] none 0) none Try.f115 115 none [(false, [.sc (.int .i64 a0)]), (false, [.sc (.int .i64 a1)])] some = (S.zqas_R a0 a1).go (ret_zqas true) := by kernel_rfl
theorem bs_zqas : loopsIn Try.f115 [] = [] := by kernel_rfl
theorem zqas_ok : Stands Try.prog tyTab 115 g_zqas := by
  refine stands3 (L := find []) (n := 0) (hints := []) (cx_ok rfl) rdy_zqas ⟨by kernel_rfl, by kernel_rfl, by kernel_rfl⟩ bs_zqas nilB (fun das r hG hr => ?_)
  unfold g_zqas at hG
  split at hG
  · rename_i a0 a1
    injection hG with hG; subst hG
    exact ⟨none, true, win default ((raw_zqas a0 a1).trans (DT.go_run _ _)) hr⟩
  · cases hG
abbrev cx_zqak : Cx := mkCx2 tyTab [(182, g_zqan)] [] [] []
theorem rdy_zqak : Ready Try.prog tyTab [(182, g_zqan)] [] [] := ⟨consG2 zqan_ok (noneG2), noneI2, noneF2⟩
structure S.zqak_T where
  x0 : Int
  deriving Inhabited
def S.zqak_R (a0 : ByteArray) (a1 : ByteArray) : DT S.zqak_T :=
let y0 : Int := -1
(.br ((S.zqan_o a0).x0)
(.br ((S.zqan_o a1).x0)
(.leaf ⟨0⟩)
(.leaf ⟨y0⟩))
(.br ((S.zqan_o a1).x0)
(.leaf ⟨1⟩)
(.br (strLt a0 a1)
(.leaf ⟨y0⟩)
(.br (xnot (strLt a0 a1 || xdec (a0 = a1)))
(.leaf ⟨1⟩)
(.leaf ⟨0⟩)))))
def S.zqak (a0 : ByteArray) (a1 : ByteArray) : Option S.zqak_T := (S.zqak_R a0 a1).run
def S.zqak_is (a0 : ByteArray) (a1 : ByteArray) : Bool := (S.zqak a0 a1).isSome
def S.zqak_o (a0 : ByteArray) (a1 : ByteArray) : S.zqak_T := (S.zqak a0 a1).getD default
def ret_zqak (b : Bool) (r : S.zqak_T) : Ret := ⟨b, none, [(false, [C.d (.sc (.int .i64 r.x0))])]⟩
def g_zqak : Con
  | [(false, [.sc (.str a0)]), (false, [.sc (.str a1)])] => some (ret_zqak (S.zqak_is a0 a1) (S.zqak_o a0 a1))
  | _ => none
theorem raw_zqak (a0 : ByteArray) (a1 : ByteArray) : evR2 cx_zqak (hdI cx_zqak (find []) [] none 0) none Try.f181 181 none [(false, [.sc (.str a0)]), (false, [.sc (.str a1)])] some = (S.zqak_R a0 a1).go (ret_zqak true) := by kernel_rfl
theorem bs_zqak : loopsIn Try.f181 [] = [] := by kernel_rfl
theorem zqak_ok : Stands Try.prog tyTab 181 g_zqak := by
  refine stands3 (L := find []) (n := 0) (hints := []) (cx_ok rfl) rdy_zqak ⟨by kernel_rfl, by kernel_rfl, by kernel_rfl⟩ bs_zqak nilB (fun das r hG hr => ?_)
  unfold g_zqak at hG
  split at hG
  · rename_i a0 a1
    injection hG with hG; subst hG
    exact ⟨none, true, win default ((raw_zqak a0 a1).trans (DT.go_run _ _)) hr⟩
  · cases hG
abbrev cx_zqbc : Cx := mkCx2 tyTab [] [] [(180, 3, { keep := [3, 6, 7, 8], acc := [] })] []
theorem rdy_zqbc : Ready Try.prog tyTab [] [] [] := ⟨noneG2, noneI2, noneF2⟩
structure S.zqbc_3_V where
  t_8_0 : Int
def S.zqbc_3_R (qE : Int) (qF : List (Ty .int)) (qB : Int) (v : S.zqbc_3_V) : DT (Option Nat × S.zqbc_3_V) :=
(.br (xdec (v.t_8_0 < qB))
(.br (xdec (0 ≤ v.t_8_0) && xdec (v.t_8_0 < (↑qF.length : Int)))
(.br (xneI (qF.getD v.t_8_0.toNat (dflt ET.int)) qE)
(.leaf (some 0, v))
(.leaf (none, ⟨xwrap IntKind.i64 (v.t_8_0 + 1)⟩)))
.fail)
(.leaf (some 1, v)))
def S.zqbc_3_r (qE : Int) (qF : List (Ty .int)) (qB : Int) (v : S.zqbc_3_V) : Option (Option Nat × S.zqbc_3_V) := (S.zqbc_3_R qE qF qB v).run
def S.zqbc_3_j (qE : Int) (qF : List (Ty .int)) (qB : Int) (v : S.zqbc_3_V) (j : Nat) : Bool := Lp_j (S.zqbc_3_r qE qF qB) v j
def S.zqbc_3_v (qE : Int) (qF : List (Ty .int)) (qB : Int) (v : S.zqbc_3_V) : S.zqbc_3_V := Lp_v (S.zqbc_3_r qE qF qB) v
def mk_zqbc_3 (qE : Int) (qG : Option Bool) (qH : Bool) (qF : List (Ty .int)) (qB : Int) (v : S.zqbc_3_V) : St := ⟨[V.any, V.any, V.any, V.v false [C.d (.sc (.int .i64 qE))], V.any, V.any, V.v false [C.d (.sl qG qH ET.int qF)],
  V.v false [C.d (.sc (.int .i64 qB))], V.v false [C.d (.sc (.int .i64 v.t_8_0))], V.any, V.any, V.any, V.any, V.any, V.any, V.any, V.any, V.any], [none, none, none, none, none], 0⟩
def ex_zqbc_3 (qE : Int) (qG : Option Bool) (qH : Bool) (qF : List (Ty .int)) (qB : Int) (j : Nat) (v : S.zqbc_3_V) : Ex × St := match j with
  | 0 => (Ex.ret, ⟨[V.any, V.any, V.v false [C.d (.sc (.int .i64 (qF.getD v.t_8_0.toNat (dflt ET.int))))], V.v false [C.d (.sc (.int .i64 qE))], V.any, V.any, V.any, V.any,
  V.any, V.any, V.any, V.any, V.any, V.any, V.any, V.any, V.any, V.any], [none, none, none, none, none, none, none, none, none, none, none, none, none, none], 0⟩)
  | 1 => (Ex.exit 0, ⟨[V.any, V.any, V.any, V.v false [C.d (.sc (.int .i64 qE))], V.any, V.any, V.any, V.any, V.any, V.any, V.any, V.any, V.any, V.any, V.any, V.any, V.any, V.any], [none, none, none, none, none, none], 0⟩)
  | _ => (.ret, ⟨[], [], 0⟩)
def T1_zqbc_3 : V → V → V → V → Tree
  | V.v false [C.d (.sc (.int .i64 qE))], V.v false [C.d (.sl qG qH ET.int qF)], V.v false [C.d (.sc (.int .i64 qB))], V.v false [C.d (.sc (.int .i64 t_8_0))] => exT (fun j => ex_zqbc_3 qE qG qH qF qB j (S.zqbc_3_v qE qF qB ⟨t_8_0⟩)) (S.zqbc_3_j qE qF qB ⟨t_8_0⟩) [0, 1]
  | _, _, _, _ => .bad
def T_zqbc_3 (st : St) : Tree := bif okSt 18 5 0 [] st then T1_zqbc_3 (st.env.getD 3 .any) (st.env.getD 6 .any) (st.env.getD 7 .any) (st.env.getD 8 .any) else .bad
def b_zqbc_3 : Code := loopBy Try.f180 3
theorem rnd_zqbc_3 (qE : Int) (qG : Option Bool) (qH : Bool) (qF : List (Ty .int)) (qB : Int) (v : S.zqbc_3_V) : round2 cx_zqbc (hdI cx_zqbc (find []) [] none 0) 180 b_zqbc_3 [] 5 [2, 3] (mk_zqbc_3 qE qG qH qF qB v) = (S.zqbc_3_R qE qF qB v).go (roundOut (mk_zqbc_3 qE qG qH qF qB) (ex_zqbc_3 qE qG qH qF qB)) := by kernel_rfl
theorem bs_zqbc_3 : loopsOf b_zqbc_3 ++ loopsInl [] = [] := by kernel_rfl
theorem ci_zqbc_3 (qE : Int) (qG : Option Bool) (qH : Bool) (qF : List (Ty .int)) (qB : Int) : ∀ v j v2, Lp (S.zqbc_3_r qE qF qB) v = some (j, v2) → Circles Try.prog cx_zqbc b_zqbc_3 (mk_zqbc_3 qE qG qH qF qB v) (ex_zqbc_3 qE qG qH qF qB j v2).1 (ex_zqbc_3 qE qG qH qF qB j v2).2 :=
  loop_ok2 (L := find []) (n := 0) (hints := [(180, 3, { keep := [3, 6, 7, 8], acc := [] })]) (cx_ok rfl) rdy_zqbc bs_zqbc_3 nilB (fun v => (rnd_zqbc_3 qE qG qH qF qB v).trans (DT.go_run _ _)) (by intro j v; unfold ex_zqbc_3; split <;> rfl)
theorem mke_zqbc_3 (qE : Int) (qG : Option Bool) (qH : Bool) (qF : List (Ty .int)) (qB : Int) (v : S.zqbc_3_V) : mk_zqbc_3 qE qG qH qF qB v = ⟨envOf 18 [(3, V.v false [C.d (.sc (.int .i64 qE))]), (6, V.v false [C.d (.sl qG qH ET.int qF)]), (7, V.v false [C.d (.sc (.int .i64 qB))]), (8, V.v false [C.d (.sc (.int .i64 v.t_8_0))])], heapOf 5 [], 0⟩ := by kernel_rfl
theorem lo1_zqbc_3 (e3 : V) (e6 : V) (e7 : V) (e8 : V)  e st2 (h : (T1_zqbc_3 e3 e6 e7 e8).eval = some (e, st2)) : Circles Try.prog cx_zqbc b_zqbc_3 ⟨envOf 18 [(3, e3), (6, e6), (7, e7), (8, e8)], heapOf 5 [], 0⟩ e st2 := by
  unfold T1_zqbc_3 at h
  split at h
  · have := loop_tree (mk := mk_zqbc_3 _ _ _ _ _) (ci_zqbc_3 _ _ _ _ _) _ _ e st2 h
    rw [mke_zqbc_3] at this
    exact this
  · cases h
theorem lok_zqbc_3 : LoopOk Try.prog cx_zqbc b_zqbc_3 T_zqbc_3 := by
  intro st e st2 h
  unfold T_zqbc_3 at h
  cases hk : okSt 18 5 0 [] st with
  | false => rw [hk] at h; cases h
  | true =>
    rw [hk] at h
    exact circles_keep (ks := [3, 6, 7, 8]) hk (lo1_zqbc_3 _ _ _ _ e st2 h)
structure S.zqbc_T where
  x0 : Ty ET.int
  deriving Inhabited
def S.zqbc_R (a0 : List (Ty .int)) : DT S.zqbc_T :=
let y0 : Int := (↑a0.length : Int)
let y1 : S.zqbc_3_V := { t_8_0 := 0 : S.zqbc_3_V }
(.br (S.zqbc_3_j 0 a0 y0 y1 0)
(.leaf ⟨a0.getD (S.zqbc_3_v 0 a0 y0 y1).t_8_0.toNat (dflt ET.int)⟩)
(.br (S.zqbc_3_j 0 a0 y0 y1 1)
(.leaf ⟨0⟩)
.fail))
def S.zqbc (a0 : List (Ty .int)) : Option S.zqbc_T := (S.zqbc_R a0).run
def S.zqbc_is (a0 : List (Ty .int)) : Bool := (S.zqbc a0).isSome
def S.zqbc_o (a0 : List (Ty .int)) : S.zqbc_T := (S.zqbc a0).getD default
def ret_zqbc (b : Bool) (r : S.zqbc_T) : Ret := ⟨b, none, [(false, [C.d (.sc (.int .i64 r.x0))])]⟩
def g_zqbc : Con
  | [(false, [.sl a0n a0f .int a0])] => some (ret_zqbc (S.zqbc_is a0) (S.zqbc_o a0))
  | _ => none
theorem raw_zqbc (a0n : Option Bool) (a0f : Bool) (a0 : List (Ty .int)) : evR2 cx_zqbc (hdI cx_zqbc (find [(3, T_zqbc_3)]) [] none 0) none Try.f180 180 none [(false, [.sl a0n a0f .int a0])] some = (S.zqbc_R a0).go (ret_zqbc true) := by kernel_rfl
theorem bs_zqbc : loopsIn Try.f180 [] = [b_zqbc_3] := by kernel_rfl
theorem zqbc_ok : Stands Try.prog tyTab 180 g_zqbc := by
  refine stands3 (L := find [(3, T_zqbc_3)]) (n := 0) (hints := [(180, 3, { keep := [3, 6, 7, 8], acc := [] })]) (cx_ok rfl) rdy_zqbc ⟨by kernel_rfl, by kernel_rfl, by kernel_rfl⟩ bs_zqbc (consB (fun T h => by have e : T_zqbc_3 = T := Option.some.inj (show some T_zqbc_3 = some T from h); exact e ▸ lok_zqbc_3) nilB) (fun das r hG hr => ?_)
  unfold g_zqbc at hG
  split at hG
  · rename_i a0n a0f a0
    injection hG with hG; subst hG
    exact ⟨none, true, win default ((raw_zqbc a0n a0f a0).trans (DT.go_run _ _)) hr⟩
  · cases hG
abbrev cx_zqbk : Cx := mkCx2 tyTab [(115, g_zqas), (147, g_zqbz), (180, g_zqbc), (181, g_zqak)] [] [] []
theorem rdy_zqbk : Ready Try.prog tyTab [(115, g_zqas), (147, g_zqbz), (180, g_zqbc), (181, g_zqak)] [] [] := ⟨consG2 zqas_ok (consG2 zqbz_ok (consG2 zqbc_ok (consG2 zqak_ok (noneG2)))), noneI2, noneF2⟩
structure S.zqbk_T where
  x0 : Bool
  x1 : Bool
  deriving Inhabited
def S.zqbk_R (a0_0 : Int) (a0_1 : Int) (a0_2 : ByteArray) (a1_0 : Int) (a1_1 : Int) (a1_2 : ByteArray) : DT S.zqbk_T :=
let y0 : Nat := 0 + 2
let y1 : Int := (S.zqas_o a0_1 a1_1).x0
let y2 : Int := (S.zqak_o a0_2 a1_2).x0
let y3 : List (Ty .int) := sub [y1, y2] 0 y0
(.br (S.zqbz_is a0_0 a0_1 a0_2)
(.br (xnot (S.zqbz_o a0_0 a0_1 a0_2).x0)
(.leaf ⟨false, false⟩)
(.br (S.zqbz_is a1_0 a1_1 a1_2)
(.br (xnot (S.zqbz_o a1_0 a1_1 a1_2).x0)
(.leaf ⟨false, false⟩)
(.br (xneI a0_0 a1_0)
(.leaf ⟨false, false⟩)
(.br (S.zqas_is a0_1 a1_1)
(.br (S.zqak_is a0_2 a1_2)
(.br (xdec (y0 ≤ (((List.replicate 2 (dflt ET.int)).set 0 y1).set 1 y2).length) && true && true && S.zqbc_is y3)
(.leaf ⟨xdec ((S.zqbc_o y3).x0 < 0), true⟩)
.fail)
.fail)
.fail)))
.fail))
.fail)
def S.zqbk (a0_0 : Int) (a0_1 : Int) (a0_2 : ByteArray) (a1_0 : Int) (a1_1 : Int) (a1_2 : ByteArray) : Option S.zqbk_T := (S.zqbk_R a0_0 a0_1 a0_2 a1_0 a1_1 a1_2).run
def S.zqbk_is (a0_0 : Int) (a0_1 : Int) (a0_2 : ByteArray) (a1_0 : Int) (a1_1 : Int) (a1_2 : ByteArray) : Bool := (S.zqbk a0_0 a0_1 a0_2 a1_0 a1_1 a1_2).isSome
def S.zqbk_o (a0_0 : Int) (a0_1 : Int) (a0_2 : ByteArray) (a1_0 : Int) (a1_1 : Int) (a1_2 : ByteArray) : S.zqbk_T := (S.zqbk a0_0 a0_1 a0_2 a1_0 a1_1 a1_2).getD default
def ret_zqbk (b : Bool) (r : S.zqbk_T) : Ret := ⟨b, none, [(false, [C.d (.sc (.bool r.x0))]), (false, [C.d (.sc (.bool r.x1))])]⟩
def g_zqbk : Con
  | [(true, [.sc (.int .i64 a0_0), .sc (.int .i64 a0_1), .sc (.str a0_2)]), (true, [.sc (.int .i64 a1_0), .sc (.int .i64 a1_1), .sc (.str a1_2)])] => some (ret_zqbk (S.zqbk_is a0_0 a0_1 a0_2 a1_0 a1_1 a1_2) (S.zqbk_o a0_0 a0_1 a0_2 a1_0 a1_1 a1_2))
  | _ => none
theorem raw_zqbk (a0_0 : Int) (a0_1 : Int) (a0_2 : ByteArray) (a1_0 : Int) (a1_1 : Int) (a1_2 : ByteArray) : evR2 cx_zqbk (hdI cx_zqbk (find []) [] none 0) none Try.f177 177 none [(true, [.sc (.int .i64 a0_0), .sc (.int .i64 a0_1), .sc (.str a0_2)]), (true, [.sc (.int .i64 a1_0), .sc (.int .i64 a1_1), .sc (.str a1_2)])] some = (S.zqbk_R a0_0 a0_1 a0_2 a1_0 a1_1 a1_2).go (ret_zqbk true) := by kernel_rfl
theorem bs_zqbk : loopsIn Try.f177 [] = [] := by kernel_rfl
theorem zqbk_ok : Stands Try.prog tyTab 177 g_zqbk := by
  refine stands3 (L := find []) (n := 0) (hints := []) (cx_ok rfl) rdy_zqbk ⟨by kernel_rfl, by kernel_rfl, by kernel_rfl⟩ bs_zqbk nilB (fun das r hG hr => ?_)
  unfold g_zqbk at hG
  split at hG
  · rename_i a0_0 a0_1 a0_2 a1_0 a1_1 a1_2
    injection hG with hG; subst hG
    exact ⟨none, true, win default ((raw_zqbk a0_0 a0_1 a0_2 a1_0 a1_1 a1_2).trans (DT.go_run _ _)) hr⟩
  · cases hG
abbrev cx_zqcb : Cx := mkCx2 tyTab [] [] [] []
theorem rdy_zqcb : Ready Try.prog tyTab [] [] [] := ⟨noneG2, noneI2, noneF2⟩
structure S.zqcb_T where
  x0 : Int
  x1 : Bool
  deriving Inhabited
def S.zqcb_R (a0 : Int) (a1 : Int) (a2 : Int) : DT S.zqcb_T :=
let y0 : Int := xwrap IntKind.i64 (a1 + a2)
let y1 : Bool := xdec (a2 > 0)
let y2 : Int := xwrap IntKind.i64 (a1 - a2)
let y3 : Int := xwrap IntKind.i64 (a1 * a2)
let y4 : Int := -1
let y5 : Bool := xeqI a1 y4
let y6 : Bool := xnot (xeqI a2 y3)
(.br (xeqI a0 2)
(.leaf ⟨y0, xdec (y0 > a1) == y1⟩)
(.br (xeqI a0 3)
(.leaf ⟨y2, xdec (y2 < a1) == y1⟩)
(.br (xeqI a1 0)
(.leaf ⟨0, true⟩)
(.br (xeqI a2 0)
(.leaf ⟨0, true⟩)
(.br (xdec (a2 ≠ 0))
(.br (xeqI (xwrap IntKind.i64 (y3.tdiv a2)) a1)
(.br (xeqI a2 y4)
(.br (xnot (xeqI a1 y3))
(.br (y5)
(.leaf ⟨y3, y6⟩)
(.leaf ⟨y3, xnot false⟩))
(.leaf ⟨y3, false⟩))
(.br (xnot false)
(.br (y5)
(.leaf ⟨y3, y6⟩)
(.leaf ⟨y3, xnot false⟩))
(.leaf ⟨y3, false⟩)))
(.leaf ⟨y3, false⟩))
.fail)))))
def S.zqcb (a0 : Int) (a1 : Int) (a2 : Int) : Option S.zqcb_T := (S.zqcb_R a0 a1 a2).run
def S.zqcb_is (a0 : Int) (a1 : Int) (a2 : Int) : Bool := (S.zqcb a0 a1 a2).isSome
def S.zqcb_o (a0 : Int) (a1 : Int) (a2 : Int) : S.zqcb_T := (S.zqcb a0 a1 a2).getD default
def ret_zqcb (b : Bool) (r : S.zqcb_T) : Ret := ⟨b, none, [(false, [C.d (.sc (.int .i64 r.x0))]), (false, [C.d (.sc (.bool r.x1))])]⟩
def g_zqcb : Con
  | [(false, [.sc (.int .i64 a0)]), (false, [.sc (.int .i64 a1)]), (false, [.sc (.int .i64 a2)])] => some (ret_zqcb (S.zqcb_is a0 a1 a2) (S.zqcb_o a0 a1 a2))
  | _ => none
theorem raw_zqcb (a0 : Int) (a1 : Int) (a2 : Int) : evR2 cx_zqcb (hdI cx_zqcb (find []) [] none 0) none Try.f178 178 none [(false, [.sc (.int .i64 a0)]), (false, [.sc (.int .i64 a1)]), (false, [.sc (.int .i64 a2)])] some = (S.zqcb_R a0 a1 a2).go (ret_zqcb true) := by kernel_rfl
theorem bs_zqcb : loopsIn Try.f178 [] = [] := by kernel_rfl
theorem zqcb_ok : Stands Try.prog tyTab 178 g_zqcb := by
  refine stands3 (L := find []) (n := 0) (hints := []) (cx_ok rfl) rdy_zqcb ⟨by kernel_rfl, by kernel_rfl, by kernel_rfl⟩ bs_zqcb nilB (fun das r hG hr => ?_)
  unfold g_zqcb at hG
  split at hG
  · rename_i a0 a1 a2
    injection hG with hG; subst hG
    exact ⟨none, true, win default ((raw_zqcb a0 a1 a2).trans (DT.go_run _ _)) hr⟩
  · cases hG
abbrev cx_zqch : Cx := mkCx2 tyTab [] [] [] []
theorem rdy_zqch : Ready Try.prog tyTab [] [] [] := ⟨noneG2, noneI2, noneF2⟩
structure S.zqch_T where
  x0 : Thing
  deriving Inhabited
def S.zqch_R (a0_0 : Int) (a0_1 : Int) (a0_2 : ByteArray) : DT S.zqch_T :=
(.br (xeqI a0_0 0)
(.leaf ⟨Thing.one 207 (Sc.int IntKind.i64 a0_1)⟩)
(.br (xeqI a0_0 1)
(.leaf ⟨Thing.one 128 (Sc.bool (xeqI a0_1 1))⟩)
(.leaf ⟨Thing.val 212 { kind := a0_0, n := a0_1, s := a0_2 : Val }⟩)))
def S.zqch (a0_0 : Int) (a0_1 : Int) (a0_2 : ByteArray) : Option S.zqch_T := (S.zqch_R a0_0 a0_1 a0_2).run
def S.zqch_is (a0_0 : Int) (a0_1 : Int) (a0_2 : ByteArray) : Bool := (S.zqch a0_0 a0_1 a0_2).isSome
def S.zqch_o (a0_0 : Int) (a0_1 : Int) (a0_2 : ByteArray) : S.zqch_T := (S.zqch a0_0 a0_1 a0_2).getD default
def ret_zqch (b : Bool) (r : S.zqch_T) : Ret := ⟨b, none, [(false, [C.d (D.th r.x0)])]⟩
def g_zqch : Con
  | [(true, [.sc (.int .i64 a0_0), .sc (.int .i64 a0_1), .sc (.str a0_2)])] => some (ret_zqch (S.zqch_is a0_0 a0_1 a0_2) (S.zqch_o a0_0 a0_1 a0_2))
  | _ => none
theorem raw_zqch (a0_0 : Int) (a0_1 : Int) (a0_2 : ByteArray) : evR2 cx_zqch (hdI cx_zqch (find []) [] none 0) none Try.f167 167 none [(true, [.sc (.int .i64 a0_0), .sc (.int .i64 a0_1), .sc (.str a0_2)])] some = (S.zqch_R a0_0 a0_1 a0_2).go (ret_zqch true) := by kernel_rfl
theorem bs_zqch : loopsIn Try.f167 [] = [] := by kernel_rfl
theorem zqch_ok : Stands Try.prog tyTab 167 g_zqch := by
  refine stands3 (L := find []) (n := 0) (hints := []) (cx_ok rfl) rdy_zqch ⟨by kernel_rfl, by kernel_rfl, by kernel_rfl⟩ bs_zqch nilB (fun das r hG hr => ?_)
  unfold g_zqch at hG
  split at hG
  · rename_i a0_0 a0_1 a0_2
    injection hG with hG; subst hG
    exact ⟨none, true, win default ((raw_zqch a0_0 a0_1 a0_2).trans (DT.go_run _ _)) hr⟩
  · cases hG
abbrev cx_zqal : Cx := mkCx2 tyTab [] [] [] []
theorem rdy_zqal : Ready Try.prog tyTab [] [] [] := ⟨noneG2, noneI2, noneF2⟩
structure S.zqal_T where
  x0 : Int
  x1 : Int
  x2 : ByteArray
  deriving Inhabited
def S.zqal_R (a0 : Int) : DT S.zqal_T :=
(.leaf ⟨0, a0, ByteArray.empty⟩)
def S.zqal (a0 : Int) : Option S.zqal_T := (S.zqal_R a0).run
def S.zqal_is (a0 : Int) : Bool := (S.zqal a0).isSome
def S.zqal_o (a0 : Int) : S.zqal_T := (S.zqal a0).getD default
def ret_zqal (b : Bool) (r : S.zqal_T) : Ret := ⟨b, none, [(true, [C.d (.sc (.int .i64 r.x0)), C.d (.sc (.int .i64 r.x1)), C.d (.sc (.str r.x2))])]⟩
def g_zqal : Con
  | [(false, [.sc (.int .i64 a0)])] => some (ret_zqal (S.zqal_is a0) (S.zqal_o a0))
  | _ => none
theorem raw_zqal (a0 : Int) : evR2 cx_zqal (hdI cx_zqal (find []) [] none 0) none Try.f198 198 none [(false, [.sc (.int .i64 a0)])] some = (S.zqal_R a0).go (ret_zqal true) := by kernel_rfl
theorem bs_zqal : loopsIn Try.f198 [] = [] := by kernel_rfl
theorem zqal_ok : Stands Try.prog tyTab 198 g_zqal := by
  refine stands3 (L := find []) (n := 0) (hints := []) (cx_ok rfl) rdy_zqal ⟨by kernel_rfl, by kernel_rfl, by kernel_rfl⟩ bs_zqal nilB (fun das r hG hr => ?_)
  unfold g_zqal at hG
  split at hG
  · rename_i a0
    injection hG with hG; subst hG
    exact ⟨none, true, win default ((raw_zqal a0).trans (DT.go_run _ _)) hr⟩
  · cases hG
abbrev cx_zqao : Cx := mkCx2 tyTab [] [] [] []
theorem rdy_zqao : Ready Try.prog tyTab [] [] [] := ⟨noneG2, noneI2, noneF2⟩
structure S.zqao_T where
  x0 : Int
  x1 : Int
  x2 : ByteArray
  deriving Inhabited
def S.zqao_R (a0_0 : Int) (a0_1 : Int) (a0_2 : ByteArray) : DT S.zqao_T :=
(.leaf ⟨a0_0, a0_1, a0_2⟩)
def S.zqao (a0_0 : Int) (a0_1 : Int) (a0_2 : ByteArray) : Option S.zqao_T := (S.zqao_R a0_0 a0_1 a0_2).run
def S.zqao_is (a0_0 : Int) (a0_1 : Int) (a0_2 : ByteArray) : Bool := (S.zqao a0_0 a0_1 a0_2).isSome
def S.zqao_o (a0_0 : Int) (a0_1 : Int) (a0_2 : ByteArray) : S.zqao_T := (S.zqao a0_0 a0_1 a0_2).getD default
def ret_zqao (b : Bool) (r : S.zqao_T) : Ret := ⟨b, none, [(true, [C.d (.sc (.int .i64 r.x0)), C.d (.sc (.int .i64 r.x1)), C.d (.sc (.str r.x2))])]⟩
def g_zqao : Con
  | [(true, [.sc (.int .i64 a0_0), .sc (.int .i64 a0_1), .sc (.str a0_2)])] => some (ret_zqao (S.zqao_is a0_0 a0_1 a0_2) (S.zqao_o a0_0 a0_1 a0_2))
  | _ => none
theorem raw_zqao (a0_0 : Int) (a0_1 : Int) (a0_2 : ByteArray) : evR2 cx_zqao (hdI cx_zqao (find []) [] none 0) none Try.f199 199 none [(true, [.sc (.int .i64 a0_0), .sc (.int .i64 a0_1), .sc (.str a0_2)])] some = (S.zqao_R a0_0 a0_1 a0_2).go (ret_zqao true) := by kernel_rfl
theorem bs_zqao : loopsIn Try.f199 [] = [] := by kernel_rfl
theorem zqao_ok : Stands Try.prog tyTab 199 g_zqao := by
  refine stands3 (L := find []) (n := 0) (hints := []) (cx_ok rfl) rdy_zqao ⟨by kernel_rfl, by kernel_rfl, by kernel_rfl⟩ bs_zqao nilB (fun das r hG hr => ?_)
  unfold g_zqao at hG
  split at hG
  · rename_i a0_0 a0_1 a0_2
    injection hG with hG; subst hG
    exact ⟨none, true, win default ((raw_zqao a0_0 a0_1 a0_2).trans (DT.go_run _ _)) hr⟩
  · cases hG
abbrev cx_zqap : Cx := mkCx2 tyTab [] [] [] []
theorem rdy_zqap : Ready Try.prog tyTab [] [] [] := ⟨noneG2, noneI2, noneF2⟩
structure S.zqap_T where
  x0 : Int
  x1 : Int
  x2 : ByteArray
  deriving Inhabited
def S.zqap_R (a0 : Bool) : DT S.zqap_T :=
(.br (a0)
(.leaf ⟨1, 1, ByteArray.empty⟩)
(.leaf ⟨1, 0, ByteArray.empty⟩))
def S.zqap (a0 : Bool) : Option S.zqap_T := (S.zqap_R a0).run
def S.zqap_is (a0 : Bool) : Bool := (S.zqap a0).isSome
def S.zqap_o (a0 : Bool) : S.zqap_T := (S.zqap a0).getD default
def ret_zqap (b : Bool) (r : S.zqap_T) : Ret := ⟨b, none, [(true, [C.d (.sc (.int .i64 r.x0)), C.d (.sc (.int .i64 r.x1)), C.d (.sc (.str r.x2))])]⟩
def g_zqap : Con
  | [(false, [.sc (.bool a0)])] => some (ret_zqap (S.zqap_is a0) (S.zqap_o a0))
  | _ => none
theorem raw_zqap (a0 : Bool) : evR2 cx_zqap (hdI cx_zqap (find []) [] none 0) none Try.f90 90 none [(false, [.sc (.bool a0)])] some = (S.zqap_R a0).go (ret_zqap true) := by kernel_rfl
theorem bs_zqap : loopsIn Try.f90 [] = [] := by kernel_rfl
theorem zqap_ok : Stands Try.prog tyTab 90 g_zqap := by
  refine stands3 (L := find []) (n := 0) (hints := []) (cx_ok rfl) rdy_zqap ⟨by kernel_rfl, by kernel_rfl, by kernel_rfl⟩ bs_zqap nilB (fun das r hG hr => ?_)
  unfold g_zqap at hG
  split at hG
  · rename_i a0
    injection hG with hG; subst hG
    exact ⟨none, true, win default ((raw_zqap a0).trans (DT.go_run _ _)) hr⟩
  · cases hG
abbrev cx_zqbe : Cx := mkCx2 tyTab [(147, g_zqbz)] [] [] []
theorem rdy_zqbe : Ready Try.prog tyTab [(147, g_zqbz)] [] [] := ⟨consG2 zqbz_ok (noneG2), noneI2, noneF2⟩
structure S.zqbe_T where
  x0 : Bool
  deriving Inhabited
def S.zqbe_R (a0_0 : Int) (a0_1 : Int) (a0_2 : Int) (a0_3 : Int) (a0_4 : ByteArray) : DT S.zqbe_T :=
let y0 : Bool := xeqI a0_0 0
let y1 : Bool := xdec (a0_0 < 0)
let y2 : Bool := xdec (a0_0 ≥ 10)
let y3 : Bool := xdec (a0_1 < 0)
let y4 : Bool := xdec (a0_1 ≥ 6)
let y5 : Bool := S.zqbz_is a0_2 a0_3 a0_4
let y6 : Bool := xnot (S.zqbz_o a0_2 a0_3 a0_4).x0
let y7 : Bool := xnot (xeqI a0_2 0 && (xeqI a0_3 0 && xdec (a0_4 = ByteArray.empty)))
let y8 : Bool := xnot (xeqI a0_1 0)
(.br (xeqI a0_0 1)
(.br (y0)
(.br (y1)
(.leaf ⟨true⟩)
(.br (y2)
(.leaf ⟨true⟩)
(.br (y3)
(.leaf ⟨true⟩)
(.br (y4)
(.leaf ⟨true⟩)
(.br (xnot true)
(.leaf ⟨true⟩)
(.br (xnot true)
(.leaf ⟨true⟩)
(.br (y5)
(.leaf ⟨y6⟩)
.fail)))))))
(.br (y1)
(.leaf ⟨true⟩)
(.br (y2)
(.leaf ⟨true⟩)
(.br (y3)
(.leaf ⟨true⟩)
(.br (y4)
(.leaf ⟨true⟩)
(.br (xnot true)
(.leaf ⟨true⟩)
(.br (y7)
(.leaf ⟨true⟩)
(.br (y5)
(.leaf ⟨y6⟩)
.fail))))))))
(.br (y0)
(.br (y1)
(.leaf ⟨true⟩)
(.br (y2)
(.leaf ⟨true⟩)
(.br (y3)
(.leaf ⟨true⟩)
(.br (y4)
(.leaf ⟨true⟩)
(.br (y8)
(.leaf ⟨true⟩)
(.br (xnot true)
(.leaf ⟨true⟩)
(.br (y5)
(.leaf ⟨y6⟩)
.fail)))))))
(.br (y1)
(.leaf ⟨true⟩)
(.br (y2)
(.leaf ⟨true⟩)
(.br (y3)
(.leaf ⟨true⟩)
(.br (y4)
(.leaf ⟨true⟩)
(.br (y8)
(.leaf ⟨true⟩)
(.br (y7)
(.leaf ⟨true⟩)
(.br (y5)
(.leaf ⟨y6⟩)
.fail)))))))))
def S.zqbe (a0_0 : Int) (a0_1 : Int) (a0_2 : Int) (a0_3 : Int) (a0_4 : ByteArray) : Option S.zqbe_T := (S.zqbe_R a0_0 a0_1 a0_2 a0_3 a0_4).run
def S.zqbe_is (a0_0 : Int) (a0_1 : Int) (a0_2 : Int) (a0_3 : Int) (a0_4 : ByteArray) : Bool := (S.zqbe a0_0 a0_1 a0_2 a0_3 a0_4).isSome
def S.zqbe_o (a0_0 : Int) (a0_1 : Int) (a0_2 : Int) (a0_3 : Int) (a0_4 : ByteArray) : S.zqbe_T := (S.zqbe a0_0 a0_1 a0_2 a0_3 a0_4).getD default
def ret_zqbe (b : Bool) (r : S.zqbe_T) : Ret := ⟨b, none, [(false, [C.d (.sc (.bool r.x0))])]⟩
def g_zqbe : Con
  | [(true, [.sc (.int .i64 a0_0), .sc (.int .i64 a0_1), .sc (.int .i64 a0_2), .sc (.int .i64 a0_3), .sc (.str a0_4)])] => some (ret_zqbe (S.zqbe_is a0_0 a0_1 a0_2 a0_3 a0_4) (S.zqbe_o a0_0 a0_1 a0_2 a0_3 a0_4))
  | _ => none
theorem raw_zqbe (a0_0 : Int) (a0_1 : Int) (a0_2 : Int) (a0_3 : Int) (a0_4 : ByteArray) : evR2 cx_zqbe (hdI cx_zqbe (find []) [] none 0) none Try.f146 146 none [(true, [.sc (.int .i64 a0_0), .sc (.int .i64 a0_1), .sc (.int .i64 a0_2), .sc (.int .i64 a0_3), .sc (.str a0_4)])] some = (S.zqbe_R a0_0 a0_1 a0_2 a0_3 a0_4).go (ret_zqbe true) := by kernel_rfl
theorem bs_zqbe : loopsIn Try.f146 [] = [] := by kernel_rfl
theorem zqbe_ok : Stands Try.prog tyTab 146 g_zqbe := by
  refine stands3 (L := find []) (n := 0) (hints := []) (cx_ok rfl) rdy_zqbe ⟨by kernel_rfl, by kernel_rfl, by kernel_rfl⟩ bs_zqbe nilB (fun das r hG hr => ?_)
  unfold g_zqbe at hG
  split at hG
  · rename_i a0_0 a0_1 a0_2 a0_3 a0_4
    injection hG with hG; subst hG
    exact ⟨none, true, win default ((raw_zqbe a0_0 a0_1 a0_2 a0_3 a0_4).trans (DT.go_run _ _)) hr⟩
  · cases hG
abbrev cx_zqam : Cx := mkCx2 tyTab [(146, g_zqbe)] [] [(164, 2, { keep := [0, 1, 7, 8], acc := [] })] []
theorem rdy_zqam : Ready Try.prog tyTab [(146, g_zqbe)] [] [] := ⟨consG2 zqbe_ok (noneG2), noneI2, noneF2⟩
structure S.zqam_2_V where
  t_8_0 : Int
def S.zqam_2_R (qA : List (Ty .op)) (qB : Int) (v : S.zqam_2_V) : DT (Option Nat × S.zqam_2_V) :=
let y0 : Ty ET.op := qA.getD v.t_8_0.toNat (dflt ET.op)
let y1 : Int := y0.code
let y2 : Int := y0.arg
let y3 : Val := y0.v
let y4 : Int := y3.kind
let y5 : Int := y3.n
let y6 : ByteArray := y3.s
(.br (xdec (v.t_8_0 < qB))
(.br (xdec (0 ≤ v.t_8_0) && xdec (v.t_8_0 < (↑qA.length : Int)))
(.br (S.zqbe_is y1 y2 y4 y5 y6)
(.br ((S.zqbe_o y1 y2 y4 y5 y6).x0)
(.leaf (some 0, v))
(.leaf (none, ⟨xwrap IntKind.i64 (v.t_8_0 + 1)⟩)))
.fail)
.fail)
(.leaf (some 1, v)))
def S.zqam_2_r (qA : List (Ty .op)) (qB : Int) (v : S.zqam_2_V) : Option (Option Nat × S.zqam_2_V) := (S.zqam_2_R qA qB v).run
def S.zqam_2_j (qA : List (Ty .op)) (qB : Int) (v : S.zqam_2_V) (j : Nat) : Bool := Lp_j (S.zqam_2_r qA qB) v j
def S.zqam_2_v (qA : List (Ty .op)) (qB : Int) (v : S.zqam_2_V) : S.zqam_2_V := Lp_v (S.zqam_2_r qA qB) v
def mk_zqam_2 (qC : Option Bool) (qD : Bool) (qA : List (Ty .op)) (qB : Int) (v : S.zqam_2_V) : St := ⟨[V.v false [C.d (.sl qC qD ET.op qA)], V.v false [C.d (D.fn 146 [] [])], V.any, V.any, V.any, V.any, V.any, V.v false [C.d (.sc (.int .i64 qB))],
  V.v false [C.d (.sc (.int .i64 v.t_8_0))], V.any, V.any, V.any, V.any, V.any, V.any, V.any, V.any, V.any, V.any], [none, none, none, none], 0⟩
def ex_zqam_2 (qC : Option Bool) (qD : Bool) (qA : List (Ty .op)) (qB : Int) (j : Nat) (v : S.zqam_2_V) : Ex × St := match j with
  | 0 => (Ex.ret, ⟨[V.any, V.any, V.any, V.any, V.v false [C.d (.sc (.int .i64 v.t_8_0))], V.any, V.any, V.any, V.any, V.any, V.any, V.any, V.any, V.any, V.any, V.any, V.any, V.any, V.any], [none, none, none, none, none, none, none, none, none, none, none, none, none, none, none], 0⟩)
  | 1 => (Ex.exit 0, ⟨[V.any, V.any, V.any, V.any, V.any, V.any, V.any, V.any, V.any, V.any, V.any, V.any, V.any, V.any, V.any, V.any, V.any, V.any, V.any], [none, none, none, none, none], 0⟩)
  | _ => (.ret, ⟨[], [], 0⟩)
def T1_zqam_2 : V → V → V → V → Tree
  | V.v false [C.d (.sl qC qD ET.op qA)], V.v false [C.d (D.fn 146 [] [])], V.v false [C.d (.sc (.int .i64 qB))], V.v false [C.d (.sc (.int .i64 t_8_0))] => exT (fun j => ex_zqam_2 qC qD qA qB j (S.zqam_2_v qA qB ⟨t_8_0⟩)) (S.zqam_2_j qA qB ⟨t_8_0⟩) [0, 1]
  | _, _, _, _ => .bad
def T_zqam_2 (st : St) : Tree := bif okSt 19 4 0 [] st then T1_zqam_2 (st.env.getD 0 .any) (st.env.getD 1 .any) (st.env.getD 7 .any) (st.env.getD 8 .any) else .bad
def b_zqam_2 : Code := loopBy Try.f164 2
theorem rnd_zqam_2 (qC : Option Bool) (qD : Bool) (qA : List (Ty .op)) (qB : Int) (v : S.zqam_2_V) : round2 cx_zqam (hdI cx_zqam (find []) [] none 0) 164 b_zqam_2 [] 4 [4] (mk_zqam_2 qC qD qA qB v) = (S.zqam_2_R qA qB v).go (roundOut (mk_zqam_2 qC qD qA qB) (ex_zqam_2 qC qD qA qB)) := by kernel_rfl
theorem bs_zqam_2 : loopsOf b_zqam_2 ++ loopsInl [] = [] := by kernel_rfl
theorem ci_zqam_2 (qC : Option Bool) (qD : Bool) (qA : List (Ty .op)) (qB : Int) : ∀ v j v2, Lp (S.zqam_2_r qA qB) v = some (j, v2) → Circles Try.prog cx_zqam b_zqam_2 (mk_zqam_2 qC qD qA qB v) (ex_zqam_2 qC qD qA qB j v2).1 (ex_zqam_2 qC qD qA qB j v2).2 :=
  loop_ok2 (L := find []) (n := 0) (hints := [(164, 2, { keep := [0, 1, 7, 8], acc := [] })]) (cx_ok rfl) rdy_zqam bs_zqam_2 nilB (fun v => (rnd_zqam_2 qC qD qA qB v).trans (DT.go_run _ _)) (by intro j v; unfold ex_zqam_2; split <;> rfl)
theorem mke_zqam_2 (qC : Option Bool) (qD : Bool) (qA : List (Ty .op)) (qB : Int) (v : S.zqam_2_V) : mk_zqam_2 qC qD qA qB v = ⟨envOf 19 [(0, V.v false [C.d (.sl qC qD ET.op qA)]), (1, V.v false [C.d (D.fn 146 [] [])]), (7, V.v false [C.d (.sc (.int .i64 qB))]), (8, V.v false [C.d (.sc (.int .i64 v.t_8_0))])], heapOf 4 [], 0⟩ := by kernel_rfl
theorem lo1_zqam_2 (e0 : V) (e1 : V) (e7 : V) (e8 : V)  e st2 (h : (T1_zqam_2 e0 e1 e7 e8).eval = some (e, st2)) : Circles Try.prog cx_zqam b_zqam_2 ⟨envOf 19 [(0, e0), (1, e1), (7, e7), (8, e8)], heapOf 4 [], 0⟩ e st2 := by
  unfold T1_zqam_2 at h
  split at h
  · have := loop_tree (mk := mk_zqam_2 _ _ _ _) (ci_zqam_2 _ _ _ _) _ _ e st2 h
    rw [mke_zqam_2] at this
    exact this
  · cases h
theorem lok_zqam_2 : LoopOk Try.prog cx_zqam b_zqam_2 T_zqam_2 := by
  intro st e st2 h
  unfold T_zqam_2 at h
  cases hk : okSt 19 4 0 [] st with
  | false => rw [hk] at h; cases h
  | true =>
    rw [hk] at h
    exact circles_keep (ks := [0, 1, 7, 8]) hk (lo1_zqam_2 _ _ _ _ e st2 h)
structure S.zqam_T where
  x0 : Int
  deriving Inhabited
def S.zqam_R (a0 : List (Ty .op)) : DT S.zqam_T :=
let y0 : Int := (↑a0.length : Int)
let y1 : S.zqam_2_V := { t_8_0 := 0 : S.zqam_2_V }
(.br (S.zqam_2_j a0 y0 y1 0)
(.leaf ⟨(S.zqam_2_v a0 y0 y1).t_8_0⟩)
(.br (S.zqam_2_j a0 y0 y1 1)
(.leaf ⟨-1⟩)
.fail))
def S.zqam (a0 : List (Ty .op)) : Option S.zqam_T := (S.zqam_R a0).run
def S.zqam_is (a0 : List (Ty .op)) : Bool := (S.zqam a0).isSome
def S.zqam_o (a0 : List (Ty .op)) : S.zqam_T := (S.zqam a0).getD default
def ret_zqam (b : Bool) (r : S.zqam_T) : Ret := ⟨b, none, [(false, [C.d (.sc (.int .i64 r.x0))])]⟩
def g_zqam : Con
  | [(false, [.sl a0n a0f .op a0]), (false, [.fn 146 [] []])] => some (ret_zqam (S.zqam_is a0) (S.zqam_o a0))
  | _ => none
theorem raw_zqam (a0n : Option Bool) (a0f : Bool) (a0 : List (Ty .op)) : evR2 cx_zqam (hdI cx_zqam (find [(2, T_zqam_2)]) [] none 0) none Try.f164 164 none [(false, [.sl a0n a0f .op a0]), (false, [.fn 146 [] []])] some = (S.zqam_R a0).go (ret_zqam true) := by kernel_rfl
theorem bs_zqam : loopsIn Try.f164 [] = [b_zqam_2] := by kernel_rfl
theorem zqam_ok : Stands Try.prog tyTab 164 g_zqam := by
  refine stands3 (L := find [(2, T_zqam_2)]) (n := 0) (hints := [(164, 2, { keep := [0, 1, 7, 8], acc := [] })]) (cx_ok rfl) rdy_zqam ⟨by kernel_rfl, by kernel_rfl, by kernel_rfl⟩ bs_zqam (consB (fun T h => by have e : T_zqam_2 = T := Option.some.inj (show some T_zqam_2 = some T from h); exact e ▸ lok_zqam_2) nilB) (fun das r hG hr => ?_)
  unfold g_zqam at hG
  split at hG
  · rename_i a0n a0f a0
    injection hG with hG; subst hG
    exact ⟨none, true, win default ((raw_zqam a0n a0f a0).trans (DT.go_run _ _)) hr⟩
  · cases hG
abbrev cx_zqai : Cx := mkCx2 tyTab [(164, g_zqam)] [] [] []
theorem rdy_zqai : Ready Try.prog tyTab [(164, g_zqam)] [] [] := ⟨consG2 zqam_ok (noneG2), noneI2, noneF2⟩
structure S.zqai_T where
  x0 : Bool
  deriving Inhabited
def S.zqai_R (a0 : List (Ty .op)) : DT S.zqai_T :=
(.br (S.zqam_is a0)
(.leaf ⟨xdec ((S.zqam_o a0).x0 ≥ 0)⟩)
.fail)
def S.zqai (a0 : List (Ty .op)) : Option S.zqai_T := (S.zqai_R a0).run
def S.zqai_is (a0 : List (Ty .op)) : Bool := (S.zqai a0).isSome
def S.zqai_o (a0 : List (Ty .op)) : S.zqai_T := (S.zqai a0).getD default
def ret_zqai (b : Bool) (r : S.zqai_T) : Ret := ⟨b, none, [(false, [C.d (.sc (.bool r.x0))])]⟩
def g_zqai : Con
  | [(false, [.sl a0n a0f .op a0]), (false, [.fn 146 [] []])] => some (ret_zqai (S.zqai_is a0) (S.zqai_o a0))
  | _ => none
theorem raw_zqai (a0n : Option Bool) (a0f : Bool) (a0 : List (Ty .op)) : evR2 cx_zqai (hdI cx_zqai (find []) [] none 0) none Try.f148 148 none [(false, [.sl a0n a0f .op a0]), (false, [.fn 146 [] []])] some = (S.zqai_R a0).go (ret_zqai true) := by kernel_rfl
theorem bs_zqai : loopsIn Try.f148 [] = [] := by kernel_rfl
theorem zqai_ok : Stands Try.prog tyTab 148 g_zqai := by
  refine stands3 (L := find []) (n := 0) (hints := []) (cx_ok rfl) rdy_zqai ⟨by kernel_rfl, by kernel_rfl, by kernel_rfl⟩ bs_zqai nilB (fun das r hG hr => ?_)
  unfold g_zqai at hG
  split at hG
  · rename_i a0n a0f a0
    injection hG with hG; subst hG
    exact ⟨none, true, win default ((raw_zqai a0n a0f a0).trans (DT.go_run _ _)) hr⟩
  · cases hG
abbrev cx_zqca : Cx := mkCx2 tyTab [(146, g_zqbe), (148, g_zqai)] [] [] []
theorem rdy_zqca : Ready Try.prog tyTab [(146, g_zqbe), (148, g_zqai)] [] [] := ⟨consG2 zqbe_ok (consG2 zqai_ok (noneG2)), noneI2, noneF2⟩
structure S.zqca_T where
  x0 : Bool
  deriving Inhabited
def S.zqca_R (a0 : List (Ty .op)) : DT S.zqca_T :=
(.br (xdec ((↑a0.length : Int) ≤ 12))
(.br (S.zqai_is a0)
(.leaf ⟨xnot (S.zqai_o a0).x0⟩)
.fail)
(.leaf ⟨false⟩))
def S.zqca (a0 : List (Ty .op)) : Option S.zqca_T := (S.zqca_R a0).run
def S.zqca_is (a0 : List (Ty .op)) : Bool := (S.zqca a0).isSome
def S.zqca_o (a0 : List (Ty .op)) : S.zqca_T := (S.zqca a0).getD default
def ret_zqca (b : Bool) (r : S.zqca_T) : Ret := ⟨b, none, [(false, [C.d (.sc (.bool r.x0))])]⟩
def g_zqca : Con
  | [(false, [.sl a0n a0f .op a0])] => some (ret_zqca (S.zqca_is a0) (S.zqca_o a0))
  | _ => none
theorem raw_zqca (a0n : Option Bool) (a0f : Bool) (a0 : List (Ty .op)) : evR2 cx_zqca (hdI cx_zqca (find []) [] none 0) none Try.f125 125 none [(false, [.sl a0n a0f .op a0])] some = (S.zqca_R a0).go (ret_zqca true) := by kernel_rfl
theorem bs_zqca : loopsIn Try.f125 [] = [] := by kernel_rfl
theorem zqca_ok : Stands Try.prog tyTab 125 g_zqca := by
  refine stands3 (L := find []) (n := 0) (hints := []) (cx_ok rfl) rdy_zqca ⟨by kernel_rfl, by kernel_rfl, by kernel_rfl⟩ bs_zqca nilB (fun das r hG hr => ?_)
  unfold g_zqca at hG
  split at hG
  · rename_i a0n a0f a0
    injection hG with hG; subst hG
    exact ⟨none, true, win default ((raw_zqca a0n a0f a0).trans (DT.go_run _ _)) hr⟩
  · cases hG
end
end Go.Eng
