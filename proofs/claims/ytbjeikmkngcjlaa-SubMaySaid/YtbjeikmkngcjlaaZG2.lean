/- Contracts, laid by program. -/
import Derived.Test.YtbjeikmkngcjlaaZG1
set_option linter.unusedVariables false
set_option linter.unusedSimpArgs false
namespace Go.Eng
noncomputable section
open Go Go.Eng Go.Proofs Go.Eng.Tab
abbrev cx_value_held : Cx := mkCx2 tyTab [] [] [] []
theorem rdy_value_held : Ready Try.prog tyTab [] [] [] := ⟨noneG2, noneI2, noneF2⟩
structure S.value_held_T where
  x0 : Thing
  deriving Inhabited
def S.value_held_R (a0_0 : Int) (a0_1 : Int) (a0_2 : ByteArray) : DT S.value_held_T :=
let y0 : Bool := xeqI a0_0 0
let y1 : Thing := Thing.one 3 (Sc.int IntKind.i64 a0_1)
let y2 : Bool := xeqI a0_0 1
let y3 : Bool := xdec (IntKind.u64.wrap a0_1 < 2)
let y4 : Thing := Thing.one 4 (Sc.bool (xeqI a0_1 1))
let y5 : Bool := xeqI a0_0 2
let y6 : Bool := xeqI a0_1 0
let y7 : Bool := xdec ((↑a0_2.size : Int) ≤ 40)
let y8 : Thing := Thing.one 9 (Sc.str a0_2)
let y9 : Bool := xeqI a0_0 3
let y10 : Bool := xdec (a0_1 ≥ 0)
let y11 : Bool := xdec (a0_1 ≤ 1125899906842624)
let y12 : Thing := Thing.one 211 (Sc.int IntKind.i64 a0_1)
(.br (xneI a0_0 2)
(.br (xnot (xdec (a0_2 = { data := { toList := [] : Array UInt8 } : ByteArray })))
(.leaf ⟨Thing.nil⟩)
(.br (y0)
(.leaf ⟨y1⟩)
(.br (y2)
(.br (y3)
(.leaf ⟨y4⟩)
(.br (y5)
(.br (y6)
(.br (y7)
(.leaf ⟨y8⟩)
(.br (y9)
(.br (y10)
(.br (y11)
(.leaf ⟨y12⟩)
(.leaf ⟨Thing.nil⟩))
(.leaf ⟨Thing.nil⟩))
(.leaf ⟨Thing.nil⟩)))
(.br (y9)
(.br (y10)
(.br (y11)
(.leaf ⟨y12⟩)
(.leaf ⟨Thing.nil⟩))
(.leaf ⟨Thing.nil⟩))
(.leaf ⟨Thing.nil⟩)))
(.br (y9)
(.br (y10)
(.br (y11)
(.leaf ⟨y12⟩)
(.leaf ⟨Thing.nil⟩))
(.leaf ⟨Thing.nil⟩))
(.leaf ⟨Thing.nil⟩))))
(.br (y5)
(.br (y6)
(.br (y7)
(.leaf ⟨y8⟩)
(.br (y9)
(.br (y10)
(.br (y11)
(.leaf ⟨y12⟩)
(.leaf ⟨Thing.nil⟩))
(.leaf ⟨Thing.nil⟩))
(.leaf ⟨Thing.nil⟩)))
(.br (y9)
(.br (y10)
(.br (y11)
(.leaf ⟨y12⟩)
(.leaf ⟨Thing.nil⟩))
(.leaf ⟨Thing.nil⟩))
(.leaf ⟨Thing.nil⟩)))
(.br (y9)
(.br (y10)
(.br (y11)
(.leaf ⟨y12⟩)
(.leaf ⟨Thing.nil⟩))
(.leaf ⟨Thing.nil⟩))
(.leaf ⟨Thing.nil⟩))))))
(.br (y0)
(.leaf ⟨y1⟩)
(.br (y2)
(.br (y3)
(.leaf ⟨y4⟩)
(.br (y5)
(.br (y6)
(.br (y7)
(.leaf ⟨y8⟩)
(.br (y9)
(.br (y10)
(.br (y11)
(.leaf ⟨y12⟩)
(.leaf ⟨Thing.nil⟩))
(.leaf ⟨Thing.nil⟩))
(.leaf ⟨Thing.nil⟩)))
(.br (y9)
(.br (y10)
(.br (y11)
(.leaf ⟨y12⟩)
(.leaf ⟨Thing.nil⟩))
(.leaf ⟨Thing.nil⟩))
(.leaf ⟨Thing.nil⟩)))
(.br (y9)
(.br (y10)
(.br (y11)
(.leaf ⟨y12⟩)
(.leaf ⟨Thing.nil⟩))
(.leaf ⟨Thing.nil⟩))
(.leaf ⟨Thing.nil⟩))))
(.br (y5)
(.br (y6)
(.br (y7)
(.leaf ⟨y8⟩)
(.br (y9)
(.br (y10)
(.br (y11)
(.leaf ⟨y12⟩)
(.leaf ⟨Thing.nil⟩))
(.leaf ⟨Thing.nil⟩))
(.leaf ⟨Thing.nil⟩)))
(.br (y9)
(.br (y10)
(.br (y11)
(.leaf ⟨y12⟩)
(.leaf ⟨Thing.nil⟩))
(.leaf ⟨Thing.nil⟩))
(.leaf ⟨Thing.nil⟩)))
(.br (y9)
(.br (y10)
(.br (y11)
(.leaf ⟨y12⟩)
(.leaf ⟨Thing.nil⟩))
(.leaf ⟨Thing.nil⟩))
(.leaf ⟨Thing.nil⟩))))))
def S.value_held (a0_0 : Int) (a0_1 : Int) (a0_2 : ByteArray) : Option S.value_held_T := (S.value_held_R a0_0 a0_1 a0_2).run
def S.value_held_is (a0_0 : Int) (a0_1 : Int) (a0_2 : ByteArray) : Bool := (S.value_held a0_0 a0_1 a0_2).isSome
def S.value_held_o (a0_0 : Int) (a0_1 : Int) (a0_2 : ByteArray) : S.value_held_T := (S.value_held a0_0 a0_1 a0_2).getD default
def ret_value_held (b : Bool) (r : S.value_held_T) : Ret := ⟨b, none, [(false, [C.d (D.th r.x0)])]⟩
def g_value_held : Con
  | [(true, [.sc (.int .i64 a0_0), .sc (.int .i64 a0_1), .sc (.str a0_2)])] => some (ret_value_held (S.value_held_is a0_0 a0_1 a0_2) (S.value_held_o a0_0 a0_1 a0_2))
  | _ => none
theorem raw_value_held (a0_0 : Int) (a0_1 : Int) (a0_2 : ByteArray) : evR2 cx_value_held (hdI cx_value_held (find []) [] none 0) none Try.f163 163 none [(true, [.sc (.int .i64 a0_0), .sc (.int .i64 a0_1), .sc (.str a0_2)])] some = (S.value_held_R a0_0 a0_1 a0_2).go (ret_value_held true) := by kernel_rfl
theorem bs_value_held : loopsIn Try.f163 [] = [] := by kernel_rfl
theorem value_held_ok : Stands Try.prog tyTab 163 g_value_held := by
  refine stands3 (L := find []) (n := 0) (hints := []) (cx_ok rfl) rdy_value_held ⟨by kernel_rfl, by kernel_rfl, by kernel_rfl⟩ bs_value_held nilB (fun das r hG hr => ?_)
  unfold g_value_held at hG
  split at hG
  · rename_i a0_0 a0_1 a0_2
    injection hG with hG; subst hG
    exact ⟨none, true, win default ((raw_value_held a0_0 a0_1 a0_2).trans (DT.go_run _ _)) hr⟩
  · cases hG
abbrev cx_value_May : Cx := mkCx2 tyTab [(163, g_value_held)] [] [] []
theorem rdy_value_May : Ready Try.prog tyTab [(163, g_value_held)] [] [] := ⟨consG2 value_held_ok (noneG2), noneI2, noneF2⟩
structure S.value_May_T where
  x0 : Bool
  deriving Inhabited
def S.value_May_R (a0_0 : Int) (a0_1 : Int) (a0_2 : ByteArray) : DT S.value_May_T :=
(.br (S.value_held_is a0_0 a0_1 a0_2)
(.leaf ⟨bif (S.value_held_o a0_0 a0_1 a0_2).x0.isNil then false else true⟩)
.fail)
def S.value_May (a0_0 : Int) (a0_1 : Int) (a0_2 : ByteArray) : Option S.value_May_T := (S.value_May_R a0_0 a0_1 a0_2).run
def S.value_May_is (a0_0 : Int) (a0_1 : Int) (a0_2 : ByteArray) : Bool := (S.value_May a0_0 a0_1 a0_2).isSome
def S.value_May_o (a0_0 : Int) (a0_1 : Int) (a0_2 : ByteArray) : S.value_May_T := (S.value_May a0_0 a0_1 a0_2).getD default
def ret_value_May (b : Bool) (r : S.value_May_T) : Ret := ⟨b, none, [(false, [C.d (.sc (.bool r.x0))])]⟩
def g_value_May : Con
  | [(true, [.sc (.int .i64 a0_0), .sc (.int .i64 a0_1), .sc (.str a0_2)])] => some (ret_value_May (S.value_May_is a0_0 a0_1 a0_2) (S.value_May_o a0_0 a0_1 a0_2))
  | _ => none
theorem raw_value_May (a0_0 : Int) (a0_1 : Int) (a0_2 : ByteArray) : evR2 cx_value_May (hdI cx_value_May (find []) [] none 0) none Try.f147 147 none [(true, [.sc (.int .i64 a0_0), .sc (.int .i64 a0_1), .sc (.str a0_2)])] some = (S.value_May_R a0_0 a0_1 a0_2).go (ret_value_May true) := by kernel_rfl
theorem bs_value_May : loopsIn Try.f147 [] = [] := by kernel_rfl
theorem value_May_ok : Stands Try.prog tyTab 147 g_value_May := by
  refine stands3 (L := find []) (n := 0) (hints := []) (cx_ok rfl) rdy_value_May ⟨by kernel_rfl, by kernel_rfl, by kernel_rfl⟩ bs_value_May nilB (fun das r hG hr => ?_)
  unfold g_value_May at hG
  split at hG
  · rename_i a0_0 a0_1 a0_2
    injection hG with hG; subst hG
    exact ⟨none, true, win default ((raw_value_May a0_0 a0_1 a0_2).trans (DT.go_run _ _)) hr⟩
  · cases hG
abbrev cx_event_May_1 : Cx := mkCx2 tyTab [(147, g_value_May)] [] [] []
theorem rdy_event_May_1 : Ready Try.prog tyTab [(147, g_value_May)] [] [] := ⟨consG2 value_May_ok (noneG2), noneI2, noneF2⟩
structure S.event_May_1_T where
  x0 : Bool
  deriving Inhabited
def S.event_May_1_R (a0_0 : Int) (a0_1 : Int) (a0_2 : ByteArray) : DT S.event_May_1_T :=
(.br (S.value_May_is a0_0 a0_1 a0_2)
(.leaf ⟨xnot (S.value_May_o a0_0 a0_1 a0_2).x0⟩)
.fail)
def S.event_May_1 (a0_0 : Int) (a0_1 : Int) (a0_2 : ByteArray) : Option S.event_May_1_T := (S.event_May_1_R a0_0 a0_1 a0_2).run
def S.event_May_1_is (a0_0 : Int) (a0_1 : Int) (a0_2 : ByteArray) : Bool := (S.event_May_1 a0_0 a0_1 a0_2).isSome
def S.event_May_1_o (a0_0 : Int) (a0_1 : Int) (a0_2 : ByteArray) : S.event_May_1_T := (S.event_May_1 a0_0 a0_1 a0_2).getD default
def ret_event_May_1 (b : Bool) (r : S.event_May_1_T) : Ret := ⟨b, none, [(false, [C.d (.sc (.bool r.x0))])]⟩
def g_event_May_1 : Con
  | [(true, [.sc (.int .i64 a0_0), .sc (.int .i64 a0_1), .sc (.str a0_2)])] => some (ret_event_May_1 (S.event_May_1_is a0_0 a0_1 a0_2) (S.event_May_1_o a0_0 a0_1 a0_2))
  | _ => none
theorem raw_event_May_1 (a0_0 : Int) (a0_1 : Int) (a0_2 : ByteArray) : evR2 cx_event_May_1 (hdI cx_event_May_1 (find []) [] none 0) none Try.f149 149 none [(true, [.sc (.int .i64 a0_0), .sc (.int .i64 a0_1), .sc (.str a0_2)])] some = (S.event_May_1_R a0_0 a0_1 a0_2).go (ret_event_May_1 true) := by kernel_rfl
theorem bs_event_May_1 : loopsIn Try.f149 [] = [] := by kernel_rfl
theorem event_May_1_ok : Stands Try.prog tyTab 149 g_event_May_1 := by
  refine stands3 (L := find []) (n := 0) (hints := []) (cx_ok rfl) rdy_event_May_1 ⟨by kernel_rfl, by kernel_rfl, by kernel_rfl⟩ bs_event_May_1 nilB (fun das r hG hr => ?_)
  unfold g_event_May_1 at hG
  split at hG
  · rename_i a0_0 a0_1 a0_2
    injection hG with hG; subst hG
    exact ⟨none, true, win default ((raw_event_May_1 a0_0 a0_1 a0_2).trans (DT.go_run _ _)) hr⟩
  · cases hG
abbrev cx_IndexFunc_Val_event : Cx := mkCx2 tyTab [(149, g_event_May_1)] [] [(165, 2, { keep := [0, 1, 7, 8], acc := [] })] []
theorem rdy_IndexFunc_Val_event : Ready Try.prog tyTab [(149, g_event_May_1)] [] [] := ⟨consG2 event_May_1_ok (noneG2), noneI2, noneF2⟩
structure S.IndexFunc_Val_event_2_V where
  t_8_0 : Int
def S.IndexFunc_Val_event_2_R (qA : List (Ty .val)) (qB : Int) (v : S.IndexFunc_Val_event_2_V) : DT (Option Nat × S.IndexFunc_Val_event_2_V) :=
let y0 : Ty ET.val := qA.getD v.t_8_0.toNat (dflt ET.val)
let y1 : Int := y0.kind
let y2 : Int := y0.n
let y3 : ByteArray := y0.s
(.br (xdec (v.t_8_0 < qB))
(.br (xdec (0 ≤ v.t_8_0) && xdec (v.t_8_0 < (↑qA.length : Int)))
(.br (S.event_May_1_is y1 y2 y3)
(.br ((S.event_May_1_o y1 y2 y3).x0)
(.leaf (some 0, v))
(.leaf (none, ⟨xwrap IntKind.i64 (v.t_8_0 + 1)⟩)))
.fail)
.fail)
(.leaf (some 1, v)))
def S.IndexFunc_Val_event_2_r (qA : List (Ty .val)) (qB : Int) (v : S.IndexFunc_Val_event_2_V) : Option (Option Nat × S.IndexFunc_Val_event_2_V) := (S.IndexFunc_Val_event_2_R qA qB v).run
def S.IndexFunc_Val_event_2_j (qA : List (Ty .val)) (qB : Int) (v : S.IndexFunc_Val_event_2_V) (j : Nat) : Bool := Lp_j (S.IndexFunc_Val_event_2_r qA qB) v j
def S.IndexFunc_Val_event_2_v (qA : List (Ty .val)) (qB : Int) (v : S.IndexFunc_Val_event_2_V) : S.IndexFunc_Val_event_2_V := Lp_v (S.IndexFunc_Val_event_2_r qA qB) v
def mk_IndexFunc_Val_event_2 (qC : Option Bool) (qD : Bool) (qA : List (Ty .val)) (qB : Int) (v : S.IndexFunc_Val_event_2_V) : St := ⟨[V.v false [C.d (.sl qC qD ET.val qA)], V.v false [C.d (D.fn 149 [] [])], V.any, V.any, V.any, V.any, V.any, V.v false [C.d (.sc (.int .i64 qB))],
  V.v false [C.d (.sc (.int .i64 v.t_8_0))], V.any, V.any, V.any, V.any, V.any, V.any, V.any, V.any, V.any, V.any], [none, none, none, none], 0⟩
def ex_IndexFunc_Val_event_2 (qC : Option Bool) (qD : Bool) (qA : List (Ty .val)) (qB : Int) (j : Nat) (v : S.IndexFunc_Val_event_2_V) : Ex × St := match j with
  | 0 => (Ex.ret, ⟨[V.any, V.any, V.any, V.any, V.v false [C.d (.sc (.int .i64 v.t_8_0))], V.any, V.any, V.any, V.any, V.any, V.any, V.any, V.any, V.any, V.any, V.any, V.any, V.any, V.any], [none, none, none, none, none, none, none, none, none, none, none, none, none, none, none], 0⟩)
  | 1 => (Ex.exit 0, ⟨[V.any, V.any, V.any, V.any, V.any, V.any, V.any, V.any, V.any, V.any, V.any, V.any, V.any, V.any, V.any, V.any, V.any, V.any, V.any], [none, none, none, none, none], 0⟩)
  | _ => (.ret, ⟨[], [], 0⟩)
def T1_IndexFunc_Val_event_2 : V → V → V → V → Tree
  | V.v false [C.d (.sl qC qD ET.val qA)], V.v false [C.d (D.fn 149 [] [])], V.v false [C.d (.sc (.int .i64 qB))], V.v false [C.d (.sc (.int .i64 t_8_0))] => exT (fun j => ex_IndexFunc_Val_event_2 qC qD qA qB j (S.IndexFunc_Val_event_2_v qA qB ⟨t_8_0⟩)) (S.IndexFunc_Val_event_2_j qA qB ⟨t_8_0⟩) [0, 1]
  | _, _, _, _ => .bad
def T_IndexFunc_Val_event_2 (st : St) : Tree := bif okSt 19 4 0 [] st then T1_IndexFunc_Val_event_2 (st.env.getD 0 .any) (st.env.getD 1 .any) (st.env.getD 7 .any) (st.env.getD 8 .any) else .bad
def b_IndexFunc_Val_event_2 : Code := loopBy Try.f165 2
theorem rnd_IndexFunc_Val_event_2 (qC : Option Bool) (qD : Bool) (qA : List (Ty .val)) (qB : Int) (v : S.IndexFunc_Val_event_2_V) : round2 cx_IndexFunc_Val_event (hdI cx_IndexFunc_Val_event (find []) [] none 0) 165 b_IndexFunc_Val_event_2 [] 4 [4] (mk_IndexFunc_Val_event_2 qC qD qA qB v) = (S.IndexFunc_Val_event_2_R qA qB v).go (roundOut (mk_IndexFunc_Val_event_2 qC qD qA qB) (ex_IndexFunc_Val_event_2 qC qD qA qB)) := by kernel_rfl
theorem bs_IndexFunc_Val_event_2 : loopsOf b_IndexFunc_Val_event_2 ++ loopsInl [] = [] := by kernel_rfl
theorem ci_IndexFunc_Val_event_2 (qC : Option Bool) (qD : Bool) (qA : List (Ty .val)) (qB : Int) : ∀ v j v2, Lp (S.IndexFunc_Val_event_2_r qA qB) v = some (j, v2) → Circles Try.prog cx_IndexFunc_Val_event b_IndexFunc_Val_event_2 (mk_IndexFunc_Val_event_2 qC qD qA qB v) (ex_IndexFunc_Val_event_2 qC qD qA qB j v2).1 (ex_IndexFunc_Val_event_2 qC qD qA qB j v2).2 :=
  loop_ok2 (L := find []) (n := 0) (hints := [(165, 2, { keep := [0, 1, 7, 8], acc := [] })]) (cx_ok rfl) rdy_IndexFunc_Val_event bs_IndexFunc_Val_event_2 nilB (fun v => (rnd_IndexFunc_Val_event_2 qC qD qA qB v).trans (DT.go_run _ _)) (by intro j v; unfold ex_IndexFunc_Val_event_2; split <;> rfl)
theorem mke_IndexFunc_Val_event_2 (qC : Option Bool) (qD : Bool) (qA : List (Ty .val)) (qB : Int) (v : S.IndexFunc_Val_event_2_V) : mk_IndexFunc_Val_event_2 qC qD qA qB v = ⟨envOf 19 [(0, V.v false [C.d (.sl qC qD ET.val qA)]), (1, V.v false [C.d (D.fn 149 [] [])]), (7, V.v false [C.d (.sc (.int .i64 qB))]), (8, V.v false [C.d (.sc (.int .i64 v.t_8_0))])], heapOf 4 [], 0⟩ := by kernel_rfl
theorem lo1_IndexFunc_Val_event_2 (e0 : V) (e1 : V) (e7 : V) (e8 : V)  e st2 (h : (T1_IndexFunc_Val_event_2 e0 e1 e7 e8).eval = some (e, st2)) : Circles Try.prog cx_IndexFunc_Val_event b_IndexFunc_Val_event_2 ⟨envOf 19 [(0, e0), (1, e1), (7, e7), (8, e8)], heapOf 4 [], 0⟩ e st2 := by
  unfold T1_IndexFunc_Val_event_2 at h
  split at h
  · have := loop_tree (mk := mk_IndexFunc_Val_event_2 _ _ _ _) (ci_IndexFunc_Val_event_2 _ _ _ _) _ _ e st2 h
    rw [mke_IndexFunc_Val_event_2] at this
    exact this
  · cases h
theorem lok_IndexFunc_Val_event_2 : LoopOk Try.prog cx_IndexFunc_Val_event b_IndexFunc_Val_event_2 T_IndexFunc_Val_event_2 := by
  intro st e st2 h
  unfold T_IndexFunc_Val_event_2 at h
  cases hk : okSt 19 4 0 [] st with
  | false => rw [hk] at h; cases h
  | true =>
    rw [hk] at h
    exact circles_keep (ks := [0, 1, 7, 8]) hk (lo1_IndexFunc_Val_event_2 _ _ _ _ e st2 h)
structure S.IndexFunc_Val_event_T where
  x0 : Int
  deriving Inhabited
def S.IndexFunc_Val_event_R (a0 : List (Ty .val)) : DT S.IndexFunc_Val_event_T :=
let y0 : Int := (↑a0.length : Int)
let y1 : S.IndexFunc_Val_event_2_V := { t_8_0 := 0 : S.IndexFunc_Val_event_2_V }
(.br (S.IndexFunc_Val_event_2_j a0 y0 y1 0)
(.leaf ⟨(S.IndexFunc_Val_event_2_v a0 y0 y1).t_8_0⟩)
(.br (S.IndexFunc_Val_event_2_j a0 y0 y1 1)
(.leaf ⟨-1⟩)
.fail))
def S.IndexFunc_Val_event (a0 : List (Ty .val)) : Option S.IndexFunc_Val_event_T := (S.IndexFunc_Val_event_R a0).run
def S.IndexFunc_Val_event_is (a0 : List (Ty .val)) : Bool := (S.IndexFunc_Val_event a0).isSome
def S.IndexFunc_Val_event_o (a0 : List (Ty .val)) : S.IndexFunc_Val_event_T := (S.IndexFunc_Val_event a0).getD default
def ret_IndexFunc_Val_event (b : Bool) (r : S.IndexFunc_Val_event_T) : Ret := ⟨b, none, [(false, [C.d (.sc (.int .i64 r.x0))])]⟩
def g_IndexFunc_Val_event : Con
  | [(false, [.sl a0n a0f .val a0]), (false, [.fn 149 [] []])] => some (ret_IndexFunc_Val_event (S.IndexFunc_Val_event_is a0) (S.IndexFunc_Val_event_o a0))
  | _ => none
theorem raw_IndexFunc_Val_event (a0n : Option Bool) (a0f : Bool) (a0 : List (Ty .val)) : evR2 cx_IndexFunc_Val_event (hdI cx_IndexFunc_Val_event (find [(2, T_IndexFunc_Val_event_2)]) [] none 0) none Try.f165 165 none [(false, [.sl a0n a0f .val a0]), (false, [.fn 149 [] []])] some = (S.IndexFunc_Val_event_R a0).go (ret_IndexFunc_Val_event true) := by kernel_rfl
theorem bs_IndexFunc_Val_event : loopsIn Try.f165 [] = [b_IndexFunc_Val_event_2] := by kernel_rfl
theorem IndexFunc_Val_event_ok : Stands Try.prog tyTab 165 g_IndexFunc_Val_event := by
  refine stands3 (L := find [(2, T_IndexFunc_Val_event_2)]) (n := 0) (hints := [(165, 2, { keep := [0, 1, 7, 8], acc := [] })]) (cx_ok rfl) rdy_IndexFunc_Val_event ⟨by kernel_rfl, by kernel_rfl, by kernel_rfl⟩ bs_IndexFunc_Val_event (consB (fun T h => by have e : T_IndexFunc_Val_event_2 = T := Option.some.inj (show some T_IndexFunc_Val_event_2 = some T from h); exact e ▸ lok_IndexFunc_Val_event_2) nilB) (fun das r hG hr => ?_)
  unfold g_IndexFunc_Val_event at hG
  split at hG
  · rename_i a0n a0f a0
    injection hG with hG; subst hG
    exact ⟨none, true, win default ((raw_IndexFunc_Val_event a0n a0f a0).trans (DT.go_run _ _)) hr⟩
  · cases hG
abbrev cx_ContainsFunc_Val_event : Cx := mkCx2 tyTab [(165, g_IndexFunc_Val_event)] [] [] []
theorem rdy_ContainsFunc_Val_event : Ready Try.prog tyTab [(165, g_IndexFunc_Val_event)] [] [] := ⟨consG2 IndexFunc_Val_event_ok (noneG2), noneI2, noneF2⟩
structure S.ContainsFunc_Val_event_T where
  x0 : Bool
  deriving Inhabited
def S.ContainsFunc_Val_event_R (a0 : List (Ty .val)) : DT S.ContainsFunc_Val_event_T :=
(.br (S.IndexFunc_Val_event_is a0)
(.leaf ⟨xdec ((S.IndexFunc_Val_event_o a0).x0 ≥ 0)⟩)
.fail)
def S.ContainsFunc_Val_event (a0 : List (Ty .val)) : Option S.ContainsFunc_Val_event_T := (S.ContainsFunc_Val_event_R a0).run
def S.ContainsFunc_Val_event_is (a0 : List (Ty .val)) : Bool := (S.ContainsFunc_Val_event a0).isSome
def S.ContainsFunc_Val_event_o (a0 : List (Ty .val)) : S.ContainsFunc_Val_event_T := (S.ContainsFunc_Val_event a0).getD default
def ret_ContainsFunc_Val_event (b : Bool) (r : S.ContainsFunc_Val_event_T) : Ret := ⟨b, none, [(false, [C.d (.sc (.bool r.x0))])]⟩
def g_ContainsFunc_Val_event : Con
  | [(false, [.sl a0n a0f .val a0]), (false, [.fn 149 [] []])] => some (ret_ContainsFunc_Val_event (S.ContainsFunc_Val_event_is a0) (S.ContainsFunc_Val_event_o a0))
  | _ => none
theorem raw_ContainsFunc_Val_event (a0n : Option Bool) (a0f : Bool) (a0 : List (Ty .val)) : evR2 cx_ContainsFunc_Val_event (hdI cx_ContainsFunc_Val_event (find []) [] none 0) none Try.f151 151 none [(false, [.sl a0n a0f .val a0]), (false, [.fn 149 [] []])] some = (S.ContainsFunc_Val_event_R a0).go (ret_ContainsFunc_Val_event true) := by kernel_rfl
theorem bs_ContainsFunc_Val_event : loopsIn Try.f151 [] = [] := by kernel_rfl
theorem ContainsFunc_Val_event_ok : Stands Try.prog tyTab 151 g_ContainsFunc_Val_event := by
  refine stands3 (L := find []) (n := 0) (hints := []) (cx_ok rfl) rdy_ContainsFunc_Val_event ⟨by kernel_rfl, by kernel_rfl, by kernel_rfl⟩ bs_ContainsFunc_Val_event nilB (fun das r hG hr => ?_)
  unfold g_ContainsFunc_Val_event at hG
  split at hG
  · rename_i a0n a0f a0
    injection hG with hG; subst hG
    exact ⟨none, true, win default ((raw_ContainsFunc_Val_event a0n a0f a0).trans (DT.go_run _ _)) hr⟩
  · cases hG
abbrev cx_cmp_isNaN_int : Cx := mkCx2 tyTab [] [] [] []
theorem rdy_cmp_isNaN_int : Ready Try.prog tyTab [] [] [] := ⟨noneG2, noneI2, noneF2⟩
structure S.cmp_isNaN_int_T where
  x0 : Bool
  deriving Inhabited
def S.cmp_isNaN_int_R (a0 : Int) : DT S.cmp_isNaN_int_T :=
(.leaf ⟨xneI a0 a0⟩)
def S.cmp_isNaN_int (a0 : Int) : Option S.cmp_isNaN_int_T := (S.cmp_isNaN_int_R a0).run
def S.cmp_isNaN_int_is (a0 : Int) : Bool := (S.cmp_isNaN_int a0).isSome
def S.cmp_isNaN_int_o (a0 : Int) : S.cmp_isNaN_int_T := (S.cmp_isNaN_int a0).getD default
def ret_cmp_isNaN_int (b : Bool) (r : S.cmp_isNaN_int_T) : Ret := ⟨b, none, [(false, [C.d (.sc (.bool r.x0))])]⟩
def g_cmp_isNaN_int : Con
  | [(false, [.sc (.int .i64 a0)])] => some (ret_cmp_isNaN_int (S.cmp_isNaN_int_is a0) (S.cmp_isNaN_int_o a0))
  | _ => none
theorem raw_cmp_isNaN_int (a0 : Int) : evR2 cx_cmp_isNaN_int (hdI cx_cmp_isNaN_int (find []) [] none 0) none Try.f142 142 none [(false, [.sc (.int .i64 a0)])] some = (S.cmp_isNaN_int_R a0).go (ret_cmp_isNaN_int true) := by kernel_rfl
theorem bs_cmp_isNaN_int : loopsIn Try.f142 [] = [] := by kernel_rfl
theorem cmp_isNaN_int_ok : Stands Try.prog tyTab 142 g_cmp_isNaN_int := by
  refine stands3 (L := find []) (n := 0) (hints := []) (cx_ok rfl) rdy_cmp_isNaN_int ⟨by kernel_rfl, by kernel_rfl, by kernel_rfl⟩ bs_cmp_isNaN_int nilB (fun das r hG hr => ?_)
  unfold g_cmp_isNaN_int at hG
  split at hG
  · rename_i a0
    injection hG with hG; subst hG
    exact ⟨none, true, win default ((raw_cmp_isNaN_int a0).trans (DT.go_run _ _)) hr⟩
  · cases hG
abbrev cx_cmp_isNaN_string : Cx := mkCx2 tyTab [] [] [] []
theorem rdy_cmp_isNaN_string : Ready Try.prog tyTab [] [] [] := ⟨noneG2, noneI2, noneF2⟩
structure S.cmp_isNaN_string_T where
  x0 : Bool
  deriving Inhabited
def S.cmp_isNaN_string_R (a0 : ByteArray) : DT S.cmp_isNaN_string_T :=
(.leaf ⟨xnot (xdec (a0 = a0))⟩)
def S.cmp_isNaN_string (a0 : ByteArray) : Option S.cmp_isNaN_string_T := (S.cmp_isNaN_string_R a0).run
def S.cmp_isNaN_string_is (a0 : ByteArray) : Bool := (S.cmp_isNaN_string a0).isSome
def S.cmp_isNaN_string_o (a0 : ByteArray) : S.cmp_isNaN_string_T := (S.cmp_isNaN_string a0).getD default
def ret_cmp_isNaN_string (b : Bool) (r : S.cmp_isNaN_string_T) : Ret := ⟨b, none, [(false, [C.d (.sc (.bool r.x0))])]⟩
def g_cmp_isNaN_string : Con
  | [(false, [.sc (.str a0)])] => some (ret_cmp_isNaN_string (S.cmp_isNaN_string_is a0) (S.cmp_isNaN_string_o a0))
  | _ => none
theorem raw_cmp_isNaN_string (a0 : ByteArray) : evR2 cx_cmp_isNaN_string (hdI cx_cmp_isNaN_string (find []) [] none 0) none Try.f182 182 none [(false, [.sc (.str a0)])] some = (S.cmp_isNaN_string_R a0).go (ret_cmp_isNaN_string true) := by kernel_rfl
theorem bs_cmp_isNaN_string : loopsIn Try.f182 [] = [] := by kernel_rfl
theorem cmp_isNaN_string_ok : Stands Try.prog tyTab 182 g_cmp_isNaN_string := by
  refine stands3 (L := find []) (n := 0) (hints := []) (cx_ok rfl) rdy_cmp_isNaN_string ⟨by kernel_rfl, by kernel_rfl, by kernel_rfl⟩ bs_cmp_isNaN_string nilB (fun das r hG hr => ?_)
  unfold g_cmp_isNaN_string at hG
  split at hG
  · rename_i a0
    injection hG with hG; subst hG
    exact ⟨none, true, win default ((raw_cmp_isNaN_string a0).trans (DT.go_run _ _)) hr⟩
  · cases hG
abbrev cx_cmp_Compare_int : Cx := mkCx2 tyTab [(142, g_cmp_isNaN_int)] [] [] []
theorem rdy_cmp_Compare_int : Ready Try.prog tyTab [(142, g_cmp_isNaN_int)] [] [] := ⟨consG2 cmp_isNaN_int_ok (noneG2), noneI2, noneF2⟩
structure S.cmp_Compare_int_T where
  x0 : Int
  deriving Inhabited
def S.cmp_Compare_int_R (a0 : Int) (a1 : Int) : DT S.cmp_Compare_int_T :=
let y0 : Int := -1
(.br ((S.cmp_isNaN_int_o a0).x0)
(.br ((S.cmp_isNaN_int_o a1).x0)
(.leaf ⟨0⟩)
(.leaf ⟨y0⟩))
(.br ((S.cmp_isNaN_int_o a1).x0)
(.leaf ⟨1⟩)
(.br (xdec (a0 < a1))
(.leaf ⟨y0⟩)
(.br (xdec (a0 > a1))
(.leaf ⟨1⟩)
(.leaf ⟨0⟩)))))
def S.cmp_Compare_int (a0 : Int) (a1 : Int) : Option S.cmp_Compare_int_T := (S.cmp_Compare_int_R a0 a1).run
def S.cmp_Compare_int_is (a0 : Int) (a1 : Int) : Bool := (S.cmp_Compare_int a0 a1).isSome
def S.cmp_Compare_int_o (a0 : Int) (a1 : Int) : S.cmp_Compare_int_T := (S.cmp_Compare_int a0 a1).getD default
def ret_cmp_Compare_int (b : Bool) (r : S.cmp_Compare_int_T) : Ret := ⟨b, none, [(false, [C.d (.sc (.int .i64 r.x0))])]⟩
def g_cmp_Compare_int : Con
  | [(false, [.sc (.int .i64 a0)]), (false, [.sc (.int .i64 a1)])] => some (ret_cmp_Compare_int (S.cmp_Compare_int_is a0 a1) (S.cmp_Compare_int_o a0 a1))
  | _ => none
theorem raw_cmp_Compare_int (a0 : Int) (a1 : Int) : evR2 cx_cmp_Compare_int (hdI cx_cmp_Compare_int (find []) [] none 0) none Try.f115 115 none [(false, [.sc (.int .i64 a0)]), (false, [.sc (.int .i64 a1)])] some = (S.cmp_Compare_int_R a0 a1).go (ret_cmp_Compare_int true) := by kernel_rfl
theorem bs_cmp_Compare_int : loopsIn Try.f115 [] = [] := by kernel_rfl
theorem cmp_Compare_int_ok : Stands Try.prog tyTab 115 g_cmp_Compare_int := by
  refine stands3 (L := find []) (n := 0) (hints := []) (cx_ok rfl) rdy_cmp_Compare_int ⟨by kernel_rfl, by kernel_rfl, by kernel_rfl⟩ bs_cmp_Compare_int nilB (fun das r hG hr => ?_)
  unfold g_cmp_Compare_int at hG
  split at hG
  · rename_i a0 a1
    injection hG with hG; subst hG
    exact ⟨none, true, win default ((raw_cmp_Compare_int a0 a1).trans (DT.go_run _ _)) hr⟩
  · cases hG
abbrev cx_cmp_Compare_string : Cx := mkCx2 tyTab [(182, g_cmp_isNaN_string)] [] [] []
theorem rdy_cmp_Compare_string : Ready Try.prog tyTab [(182, g_cmp_isNaN_string)] [] [] := ⟨consG2 cmp_isNaN_string_ok (noneG2), noneI2, noneF2⟩
structure S.cmp_Compare_string_T where
  x0 : Int
  deriving Inhabited
def S.cmp_Compare_string_R (a0 : ByteArray) (a1 : ByteArray) : DT S.cmp_Compare_string_T :=
let y0 : Int := -1
(.br ((S.cmp_isNaN_string_o a0).x0)
(.br ((S.cmp_isNaN_string_o a1).x0)
(.leaf ⟨0⟩)
(.leaf ⟨y0⟩))
(.br ((S.cmp_isNaN_string_o a1).x0)
(.leaf ⟨1⟩)
(.br (strLt a0 a1)
(.leaf ⟨y0⟩)
(.br (xnot (strLt a0 a1 || xdec (a0 = a1)))
(.leaf ⟨1⟩)
(.leaf ⟨0⟩)))))
def S.cmp_Compare_string (a0 : ByteArray) (a1 : ByteArray) : Option S.cmp_Compare_string_T := (S.cmp_Compare_string_R a0 a1).run
def S.cmp_Compare_string_is (a0 : ByteArray) (a1 : ByteArray) : Bool := (S.cmp_Compare_string a0 a1).isSome
def S.cmp_Compare_string_o (a0 : ByteArray) (a1 : ByteArray) : S.cmp_Compare_string_T := (S.cmp_Compare_string a0 a1).getD default
def ret_cmp_Compare_string (b : Bool) (r : S.cmp_Compare_string_T) : Ret := ⟨b, none, [(false, [C.d (.sc (.int .i64 r.x0))])]⟩
def g_cmp_Compare_string : Con
  | [(false, [.sc (.str a0)]), (false, [.sc (.str a1)])] => some (ret_cmp_Compare_string (S.cmp_Compare_string_is a0 a1) (S.cmp_Compare_string_o a0 a1))
  | _ => none
theorem raw_cmp_Compare_string (a0 : ByteArray) (a1 : ByteArray) : evR2 cx_cmp_Compare_string (hdI cx_cmp_Compare_string (find []) [] none 0) none Try.f181 181 none [(false, [.sc (.str a0)]), (false, [.sc (.str a1)])] some = (S.cmp_Compare_string_R a0 a1).go (ret_cmp_Compare_string true) := by kernel_rfl
theorem bs_cmp_Compare_string : loopsIn Try.f181 [] = [] := by kernel_rfl
theorem cmp_Compare_string_ok : Stands Try.prog tyTab 181 g_cmp_Compare_string := by
  refine stands3 (L := find []) (n := 0) (hints := []) (cx_ok rfl) rdy_cmp_Compare_string ⟨by kernel_rfl, by kernel_rfl, by kernel_rfl⟩ bs_cmp_Compare_string nilB (fun das r hG hr => ?_)
  unfold g_cmp_Compare_string at hG
  split at hG
  · rename_i a0 a1
    injection hG with hG; subst hG
    exact ⟨none, true, win default ((raw_cmp_Compare_string a0 a1).trans (DT.go_run _ _)) hr⟩
  · cases hG
abbrev cx_cmp_Or_int : Cx := mkCx2 tyTab [] [] [(180, 3, { keep := [3, 6, 7, 8], acc := [] })] []
theorem rdy_cmp_Or_int : Ready Try.prog tyTab [] [] [] := ⟨noneG2, noneI2, noneF2⟩
structure S.cmp_Or_int_3_V where
  t_8_0 : Int
def S.cmp_Or_int_3_R (qE : Int) (qF : List (Ty .int)) (qB : Int) (v : S.cmp_Or_int_3_V) : DT (Option Nat × S.cmp_Or_int_3_V) :=
(.br (xdec (v.t_8_0 < qB))
(.br (xdec (0 ≤ v.t_8_0) && xdec (v.t_8_0 < (↑qF.length : Int)))
(.br (xneI (qF.getD v.t_8_0.toNat (dflt ET.int)) qE)
(.leaf (some 0, v))
(.leaf (none, ⟨xwrap IntKind.i64 (v.t_8_0 + 1)⟩)))
.fail)
(.leaf (some 1, v)))
def S.cmp_Or_int_3_r (qE : Int) (qF : List (Ty .int)) (qB : Int) (v : S.cmp_Or_int_3_V) : Option (Option Nat × S.cmp_Or_int_3_V) := (S.cmp_Or_int_3_R qE qF qB v).run
def S.cmp_Or_int_3_j (qE : Int) (qF : List (Ty .int)) (qB : Int) (v : S.cmp_Or_int_3_V) (j : Nat) : Bool := Lp_j (S.cmp_Or_int_3_r qE qF qB) v j
def S.cmp_Or_int_3_v (qE : Int) (qF : List (Ty .int)) (qB : Int) (v : S.cmp_Or_int_3_V) : S.cmp_Or_int_3_V := Lp_v (S.cmp_Or_int_3_r qE qF qB) v
def mk_cmp_Or_int_3 (qE : Int) (qG : Option Bool) (qH : Bool) (qF : List (Ty .int)) (qB : Int) (v : S.cmp_Or_int_3_V) : St := ⟨[V.any, V.any, V.any, V.v false [C.d (.sc (.int .i64 qE))], V.any, V.any, V.v false [C.d (.sl qG qH ET.int qF)],
  V.v false [C.d (.sc (.int .i64 qB))], V.v false [C.d (.sc (.int .i64 v.t_8_0))], V.any, V.any, V.any, V.any, V.any, V.any, V.any, V.any, V.any], [none, none, none, none, none], 0⟩
def ex_cmp_Or_int_3 (qE : Int) (qG : Option Bool) (qH : Bool) (qF : List (Ty .int)) (qB : Int) (j : Nat) (v : S.cmp_Or_int_3_V) : Ex × St := match j with
  | 0 => (Ex.ret, ⟨[V.any, V.any, V.v false [C.d (.sc (.int .i64 (qF.getD v.t_8_0.toNat (dflt ET.int))))], V.v false [C.d (.sc (.int .i64 qE))], V.any, V.any, V.any, V.any,
  V.any, V.any, V.any, V.any, V.any, V.any, V.any, V.any, V.any, V.any], [none, none, none, none, none, none, none, none, none, none, none, none, none, none], 0⟩)
  | 1 => (Ex.exit 0, ⟨[V.any, V.any, V.any, V.v false [C.d (.sc (.int .i64 qE))], V.any, V.any, V.any, V.any, V.any, V.any, V.any, V.any, V.any, V.any, V.any, V.any, V.any, V.any], [none, none, none, none, none, none], 0⟩)
  | _ => (.ret, ⟨[], [], 0⟩)
def T1_cmp_Or_int_3 : V → V → V → V → Tree
  | V.v false [C.d (.sc (.int .i64 qE))], V.v false [C.d (.sl qG qH ET.int qF)], V.v false [C.d (.sc (.int .i64 qB))], V.v false [C.d (.sc (.int .i64 t_8_0))] => exT (fun j => ex_cmp_Or_int_3 qE qG qH qF qB j (S.cmp_Or_int_3_v qE qF qB ⟨t_8_0⟩)) (S.cmp_Or_int_3_j qE qF qB ⟨t_8_0⟩) [0, 1]
  | _, _, _, _ => .bad
def T_cmp_Or_int_3 (st : St) : Tree := bif okSt 18 5 0 [] st then T1_cmp_Or_int_3 (st.env.getD 3 .any) (st.env.getD 6 .any) (st.env.getD 7 .any) (st.env.getD 8 .any) else .bad
def b_cmp_Or_int_3 : Code := loopBy Try.f180 3
theorem rnd_cmp_Or_int_3 (qE : Int) (qG : Option Bool) (qH : Bool) (qF : List (Ty .int)) (qB : Int) (v : S.cmp_Or_int_3_V) : round2 cx_cmp_Or_int (hdI cx_cmp_Or_int (find []) [] none 0) 180 b_cmp_Or_int_3 [] 5 [2, 3] (mk_cmp_Or_int_3 qE qG qH qF qB v) = (S.cmp_Or_int_3_R qE qF qB v).go (roundOut (mk_cmp_Or_int_3 qE qG qH qF qB) (ex_cmp_Or_int_3 qE qG qH qF qB)) := by kernel_rfl
theorem bs_cmp_Or_int_3 : loopsOf b_cmp_Or_int_3 ++ loopsInl [] = [] := by kernel_rfl
theorem ci_cmp_Or_int_3 (qE : Int) (qG : Option Bool) (qH : Bool) (qF : List (Ty .int)) (qB : Int) : ∀ v j v2, Lp (S.cmp_Or_int_3_r qE qF qB) v = some (j, v2) → Circles Try.prog cx_cmp_Or_int b_cmp_Or_int_3 (mk_cmp_Or_int_3 qE qG qH qF qB v) (ex_cmp_Or_int_3 qE qG qH qF qB j v2).1 (ex_cmp_Or_int_3 qE qG qH qF qB j v2).2 :=
  loop_ok2 (L := find []) (n := 0) (hints := [(180, 3, { keep := [3, 6, 7, 8], acc := [] })]) (cx_ok rfl) rdy_cmp_Or_int bs_cmp_Or_int_3 nilB (fun v => (rnd_cmp_Or_int_3 qE qG qH qF qB v).trans (DT.go_run _ _)) (by intro j v; unfold ex_cmp_Or_int_3; split <;> rfl)
theorem mke_cmp_Or_int_3 (qE : Int) (qG : Option Bool) (qH : Bool) (qF : List (Ty .int)) (qB : Int) (v : S.cmp_Or_int_3_V) : mk_cmp_Or_int_3 qE qG qH qF qB v = ⟨envOf 18 [(3, V.v false [C.d (.sc (.int .i64 qE))]), (6, V.v false [C.d (.sl qG qH ET.int qF)]), (7, V.v false [C.d (.sc (.int .i64 qB))]), (8, V.v false [C.d (.sc (.int .i64 v.t_8_0))])], heapOf 5 [], 0⟩ := by kernel_rfl
theorem lo1_cmp_Or_int_3 (e3 : V) (e6 : V) (e7 : V) (e8 : V)  e st2 (h : (T1_cmp_Or_int_3 e3 e6 e7 e8).eval = some (e, st2)) : Circles Try.prog cx_cmp_Or_int b_cmp_Or_int_3 ⟨envOf 18 [(3, e3), (6, e6), (7, e7), (8, e8)], heapOf 5 [], 0⟩ e st2 := by
  unfold T1_cmp_Or_int_3 at h
  split at h
  · have := loop_tree (mk := mk_cmp_Or_int_3 _ _ _ _ _) (ci_cmp_Or_int_3 _ _ _ _ _) _ _ e st2 h
    rw [mke_cmp_Or_int_3] at this
    exact this
  · cases h
theorem lok_cmp_Or_int_3 : LoopOk Try.prog cx_cmp_Or_int b_cmp_Or_int_3 T_cmp_Or_int_3 := by
  intro st e st2 h
  unfold T_cmp_Or_int_3 at h
  cases hk : okSt 18 5 0 [] st with
  | false => rw [hk] at h; cases h
  | true =>
    rw [hk] at h
    exact circles_keep (ks := [3, 6, 7, 8]) hk (lo1_cmp_Or_int_3 _ _ _ _ e st2 h)
structure S.cmp_Or_int_T where
  x0 : Ty ET.int
  deriving Inhabited
def S.cmp_Or_int_R (a0 : List (Ty .int)) : DT S.cmp_Or_int_T :=
let y0 : Int := (↑a0.length : Int)
let y1 : S.cmp_Or_int_3_V := { t_8_0 := 0 : S.cmp_Or_int_3_V }
(.br (S.cmp_Or_int_3_j 0 a0 y0 y1 0)
(.leaf ⟨a0.getD (S.cmp_Or_int_3_v 0 a0 y0 y1).t_8_0.toNat (dflt ET.int)⟩)
(.br (S.cmp_Or_int_3_j 0 a0 y0 y1 1)
(.leaf ⟨0⟩)
.fail))
def S.cmp_Or_int (a0 : List (Ty .int)) : Option S.cmp_Or_int_T := (S.cmp_Or_int_R a0).run
def S.cmp_Or_int_is (a0 : List (Ty .int)) : Bool := (S.cmp_Or_int a0).isSome
def S.cmp_Or_int_o (a0 : List (Ty .int)) : S.cmp_Or_int_T := (S.cmp_Or_int a0).getD default
def ret_cmp_Or_int (b : Bool) (r : S.cmp_Or_int_T) : Ret := ⟨b, none, [(false, [C.d (.sc (.int .i64 r.x0))])]⟩
def g_cmp_Or_int : Con
  | [(false, [.sl a0n a0f .int a0])] => some (ret_cmp_Or_int (S.cmp_Or_int_is a0) (S.cmp_Or_int_o a0))
  | _ => none
theorem raw_cmp_Or_int (a0n : Option Bool) (a0f : Bool) (a0 : List (Ty .int)) : evR2 cx_cmp_Or_int (hdI cx_cmp_Or_int (find [(3, T_cmp_Or_int_3)]) [] none 0) none Try.f180 180 none [(false, [.sl a0n a0f .int a0])] some = (S.cmp_Or_int_R a0).go (ret_cmp_Or_int true) := by kernel_rfl
theorem bs_cmp_Or_int : loopsIn Try.f180 [] = [b_cmp_Or_int_3] := by kernel_rfl
theorem cmp_Or_int_ok : Stands Try.prog tyTab 180 g_cmp_Or_int := by
  refine stands3 (L := find [(3, T_cmp_Or_int_3)]) (n := 0) (hints := [(180, 3, { keep := [3, 6, 7, 8], acc := [] })]) (cx_ok rfl) rdy_cmp_Or_int ⟨by kernel_rfl, by kernel_rfl, by kernel_rfl⟩ bs_cmp_Or_int (consB (fun T h => by have e : T_cmp_Or_int_3 = T := Option.some.inj (show some T_cmp_Or_int_3 = some T from h); exact e ▸ lok_cmp_Or_int_3) nilB) (fun das r hG hr => ?_)
  unfold g_cmp_Or_int at hG
  split at hG
  · rename_i a0n a0f a0
    injection hG with hG; subst hG
    exact ⟨none, true, win default ((raw_cmp_Or_int a0n a0f a0).trans (DT.go_run _ _)) hr⟩
  · cases hG
abbrev cx_value_Less : Cx := mkCx2 tyTab [(115, g_cmp_Compare_int), (147, g_value_May), (180, g_cmp_Or_int), (181, g_cmp_Compare_string)] [] [] []
theorem rdy_value_Less : Ready Try.prog tyTab [(115, g_cmp_Compare_int), (147, g_value_May), (180, g_cmp_Or_int), (181, g_cmp_Compare_string)] [] [] := ⟨consG2 cmp_Compare_int_ok (consG2 value_May_ok (consG2 cmp_Or_int_ok (consG2 cmp_Compare_string_ok (noneG2)))), noneI2, noneF2⟩
structure S.value_Less_T where
  x0 : Bool
  x1 : Bool
  deriving Inhabited
def S.value_Less_R (a0_0 : Int) (a0_1 : Int) (a0_2 : ByteArray) (a1_0 : Int) (a1_1 : Int) (a1_2 : ByteArray) : DT S.value_Less_T :=
let y0 : Nat := 0 + 2
let y1 : Int := (S.cmp_Compare_int_o a0_1 a1_1).x0
let y2 : Int := (S.cmp_Compare_string_o a0_2 a1_2).x0
let y3 : List (Ty .int) := sub [y1, y2] 0 y0
(.br (S.value_May_is a0_0 a0_1 a0_2)
(.br (xnot (S.value_May_o a0_0 a0_1 a0_2).x0)
(.leaf ⟨false, false⟩)
(.br (S.value_May_is a1_0 a1_1 a1_2)
(.br (xnot (S.value_May_o a1_0 a1_1 a1_2).x0)
(.leaf ⟨false, false⟩)
(.br (xneI a0_0 a1_0)
(.leaf ⟨false, false⟩)
(.br (S.cmp_Compare_int_is a0_1 a1_1)
(.br (S.cmp_Compare_string_is a0_2 a1_2)
(.br (xdec (y0 ≤ (((List.replicate 2 (dflt ET.int)).set 0 y1).set 1 y2).length) && true && true && S.cmp_Or_int_is y3)
(.leaf ⟨xdec ((S.cmp_Or_int_o y3).x0 < 0), true⟩)
.fail)
.fail)
.fail)))
.fail))
.fail)
def S.value_Less (a0_0 : Int) (a0_1 : Int) (a0_2 : ByteArray) (a1_0 : Int) (a1_1 : Int) (a1_2 : ByteArray) : Option S.value_Less_T := (S.value_Less_R a0_0 a0_1 a0_2 a1_0 a1_1 a1_2).run
def S.value_Less_is (a0_0 : Int) (a0_1 : Int) (a0_2 : ByteArray) (a1_0 : Int) (a1_1 : Int) (a1_2 : ByteArray) : Bool := (S.value_Less a0_0 a0_1 a0_2 a1_0 a1_1 a1_2).isSome
def S.value_Less_o (a0_0 : Int) (a0_1 : Int) (a0_2 : ByteArray) (a1_0 : Int) (a1_1 : Int) (a1_2 : ByteArray) : S.value_Less_T := (S.value_Less a0_0 a0_1 a0_2 a1_0 a1_1 a1_2).getD default
def ret_value_Less (b : Bool) (r : S.value_Less_T) : Ret := ⟨b, none, [(false, [C.d (.sc (.bool r.x0))]), (false, [C.d (.sc (.bool r.x1))])]⟩
def g_value_Less : Con
  | [(true, [.sc (.int .i64 a0_0), .sc (.int .i64 a0_1), .sc (.str a0_2)]), (true, [.sc (.int .i64 a1_0), .sc (.int .i64 a1_1), .sc (.str a1_2)])] => some (ret_value_Less (S.value_Less_is a0_0 a0_1 a0_2 a1_0 a1_1 a1_2) (S.value_Less_o a0_0 a0_1 a0_2 a1_0 a1_1 a1_2))
  | _ => none
theorem raw_value_Less (a0_0 : Int) (a0_1 : Int) (a0_2 : ByteArray) (a1_0 : Int) (a1_1 : Int) (a1_2 : ByteArray) : evR2 cx_value_Less (hdI cx_value_Less (find []) [] none 0) none Try.f177 177 none [(true, [.sc (.int .i64 a0_0), .sc (.int .i64 a0_1), .sc (.str a0_2)]), (true, [.sc (.int .i64 a1_0), .sc (.int .i64 a1_1), .sc (.str a1_2)])] some = (S.value_Less_R a0_0 a0_1 a0_2 a1_0 a1_1 a1_2).go (ret_value_Less true) := by kernel_rfl
theorem bs_value_Less : loopsIn Try.f177 [] = [] := by kernel_rfl
theorem value_Less_ok : Stands Try.prog tyTab 177 g_value_Less := by
  refine stands3 (L := find []) (n := 0) (hints := []) (cx_ok rfl) rdy_value_Less ⟨by kernel_rfl, by kernel_rfl, by kernel_rfl⟩ bs_value_Less nilB (fun das r hG hr => ?_)
  unfold g_value_Less at hG
  split at hG
  · rename_i a0_0 a0_1 a0_2 a1_0 a1_1 a1_2
    injection hG with hG; subst hG
    exact ⟨none, true, win default ((raw_value_Less a0_0 a0_1 a0_2 a1_0 a1_1 a1_2).trans (DT.go_run _ _)) hr⟩
  · cases hG
abbrev cx_expr_sum : Cx := mkCx2 tyTab [] [] [] []
theorem rdy_expr_sum : Ready Try.prog tyTab [] [] [] := ⟨noneG2, noneI2, noneF2⟩
structure S.expr_sum_T where
  x0 : Int
  x1 : Bool
  deriving Inhabited
def S.expr_sum_R (a0 : Int) (a1 : Int) (a2 : Int) : DT S.expr_sum_T :=
let y0 : Int := xwrap IntKind.i64 (a1 + a2)
let y1 : Bool := xdec (a2 > 0)
let y2 : Int := xwrap IntKind.i64 (a1 - a2)
let y3 : Int := xwrap IntKind.i64 (a1 * a2)
let y4 : Int := -1
let y5 : Bool := xeqI a1 y4
let y6 : Bool := xnot (xeqI a2 y3)
(.br (xeqI a0 2)
(.leaf ⟨y0, xdec (y0 > a1) == y1⟩)
(.br (xeqI a0 3)
(.leaf ⟨y2, xdec (y2 < a1) == y1⟩)
(.br (xeqI a1 0)
(.leaf ⟨0, true⟩)
(.br (xeqI a2 0)
(.leaf ⟨0, true⟩)
(.br (xdec (a2 ≠ 0))
(.br (xeqI (xwrap IntKind.i64 (y3.tdiv a2)) a1)
(.br (xeqI a2 y4)
(.br (xnot (xeqI a1 y3))
(.br (y5)
(.leaf ⟨y3, y6⟩)
(.leaf ⟨y3, xnot false⟩))
(.leaf ⟨y3, false⟩))
(.br (xnot false)
(.br (y5)
(.leaf ⟨y3, y6⟩)
(.leaf ⟨y3, xnot false⟩))
(.leaf ⟨y3, false⟩)))
(.leaf ⟨y3, false⟩))
.fail)))))
def S.expr_sum (a0 : Int) (a1 : Int) (a2 : Int) : Option S.expr_sum_T := (S.expr_sum_R a0 a1 a2).run
def S.expr_sum_is (a0 : Int) (a1 : Int) (a2 : Int) : Bool := (S.expr_sum a0 a1 a2).isSome
def S.expr_sum_o (a0 : Int) (a1 : Int) (a2 : Int) : S.expr_sum_T := (S.expr_sum a0 a1 a2).getD default
def ret_expr_sum (b : Bool) (r : S.expr_sum_T) : Ret := ⟨b, none, [(false, [C.d (.sc (.int .i64 r.x0))]), (false, [C.d (.sc (.bool r.x1))])]⟩
def g_expr_sum : Con
  | [(false, [.sc (.int .i64 a0)]), (false, [.sc (.int .i64 a1)]), (false, [.sc (.int .i64 a2)])] => some (ret_expr_sum (S.expr_sum_is a0 a1 a2) (S.expr_sum_o a0 a1 a2))
  | _ => none
theorem raw_expr_sum (a0 : Int) (a1 : Int) (a2 : Int) : evR2 cx_expr_sum (hdI cx_expr_sum (find []) [] none 0) none Try.f178 178 none [(false, [.sc (.int .i64 a0)]), (false, [.sc (.int .i64 a1)]), (false, [.sc (.int .i64 a2)])] some = (S.expr_sum_R a0 a1 a2).go (ret_expr_sum true) := by kernel_rfl
theorem bs_expr_sum : loopsIn Try.f178 [] = [] := by kernel_rfl
theorem expr_sum_ok : Stands Try.prog tyTab 178 g_expr_sum := by
  refine stands3 (L := find []) (n := 0) (hints := []) (cx_ok rfl) rdy_expr_sum ⟨by kernel_rfl, by kernel_rfl, by kernel_rfl⟩ bs_expr_sum nilB (fun das r hG hr => ?_)
  unfold g_expr_sum at hG
  split at hG
  · rename_i a0 a1 a2
    injection hG with hG; subst hG
    exact ⟨none, true, win default ((raw_expr_sum a0 a1 a2).trans (DT.go_run _ _)) hr⟩
  · cases hG
abbrev cx_expr_of : Cx := mkCx2 tyTab [] [] [] []
theorem rdy_expr_of : Ready Try.prog tyTab [] [] [] := ⟨noneG2, noneI2, noneF2⟩
structure S.expr_of_T where
  x0 : Thing
  deriving Inhabited
def S.expr_of_R (a0_0 : Int) (a0_1 : Int) (a0_2 : ByteArray) : DT S.expr_of_T :=
(.br (xeqI a0_0 0)
(.leaf ⟨Thing.one 207 (Sc.int IntKind.i64 a0_1)⟩)
(.br (xeqI a0_0 1)
(.leaf ⟨Thing.one 128 (Sc.bool (xeqI a0_1 1))⟩)
(.leaf ⟨Thing.val 212 { kind := a0_0, n := a0_1, s := a0_2 : Val }⟩)))
def S.expr_of (a0_0 : Int) (a0_1 : Int) (a0_2 : ByteArray) : Option S.expr_of_T := (S.expr_of_R a0_0 a0_1 a0_2).run
def S.expr_of_is (a0_0 : Int) (a0_1 : Int) (a0_2 : ByteArray) : Bool := (S.expr_of a0_0 a0_1 a0_2).isSome
def S.expr_of_o (a0_0 : Int) (a0_1 : Int) (a0_2 : ByteArray) : S.expr_of_T := (S.expr_of a0_0 a0_1 a0_2).getD default
def ret_expr_of (b : Bool) (r : S.expr_of_T) : Ret := ⟨b, none, [(false, [C.d (D.th r.x0)])]⟩
def g_expr_of : Con
  | [(true, [.sc (.int .i64 a0_0), .sc (.int .i64 a0_1), .sc (.str a0_2)])] => some (ret_expr_of (S.expr_of_is a0_0 a0_1 a0_2) (S.expr_of_o a0_0 a0_1 a0_2))
  | _ => none
theorem raw_expr_of (a0_0 : Int) (a0_1 : Int) (a0_2 : ByteArray) : evR2 cx_expr_of (hdI cx_expr_of (find []) [] none 0) none Try.f167 167 none [(true, [.sc (.int .i64 a0_0), .sc (.int .i64 a0_1), .sc (.str a0_2)])] some = (S.expr_of_R a0_0 a0_1 a0_2).go (ret_expr_of true) := by kernel_rfl
theorem bs_expr_of : loopsIn Try.f167 [] = [] := by kernel_rfl
theorem expr_of_ok : Stands Try.prog tyTab 167 g_expr_of := by
  refine stands3 (L := find []) (n := 0) (hints := []) (cx_ok rfl) rdy_expr_of ⟨by kernel_rfl, by kernel_rfl, by kernel_rfl⟩ bs_expr_of nilB (fun das r hG hr => ?_)
  unfold g_expr_of at hG
  split at hG
  · rename_i a0_0 a0_1 a0_2
    injection hG with hG; subst hG
    exact ⟨none, true, win default ((raw_expr_of a0_0 a0_1 a0_2).trans (DT.go_run _ _)) hr⟩
  · cases hG
abbrev cx_expr_number_value : Cx := mkCx2 tyTab [] [] [] []
theorem rdy_expr_number_value : Ready Try.prog tyTab [] [] [] := ⟨noneG2, noneI2, noneF2⟩
structure S.expr_number_value_T where
  x0 : Int
  x1 : Int
  x2 : ByteArray
  deriving Inhabited
def S.expr_number_value_R (a0 : Int) : DT S.expr_number_value_T :=
(.leaf ⟨0, a0, ByteArray.empty⟩)
def S.expr_number_value (a0 : Int) : Option S.expr_number_value_T := (S.expr_number_value_R a0).run
def S.expr_number_value_is (a0 : Int) : Bool := (S.expr_number_value a0).isSome
def S.expr_number_value_o (a0 : Int) : S.expr_number_value_T := (S.expr_number_value a0).getD default
def ret_expr_number_value (b : Bool) (r : S.expr_number_value_T) : Ret := ⟨b, none, [(true, [C.d (.sc (.int .i64 r.x0)), C.d (.sc (.int .i64 r.x1)), C.d (.sc (.str r.x2))])]⟩
def g_expr_number_value : Con
  | [(false, [.sc (.int .i64 a0)])] => some (ret_expr_number_value (S.expr_number_value_is a0) (S.expr_number_value_o a0))
  | _ => none
theorem raw_expr_number_value (a0 : Int) : evR2 cx_expr_number_value (hdI cx_expr_number_value (find []) [] none 0) none Try.f198 198 none [(false, [.sc (.int .i64 a0)])] some = (S.expr_number_value_R a0).go (ret_expr_number_value true) := by kernel_rfl
theorem bs_expr_number_value : loopsIn Try.f198 [] = [] := by kernel_rfl
theorem expr_number_value_ok : Stands Try.prog tyTab 198 g_expr_number_value := by
  refine stands3 (L := find []) (n := 0) (hints := []) (cx_ok rfl) rdy_expr_number_value ⟨by kernel_rfl, by kernel_rfl, by kernel_rfl⟩ bs_expr_number_value nilB (fun das r hG hr => ?_)
  unfold g_expr_number_value at hG
  split at hG
  · rename_i a0
    injection hG with hG; subst hG
    exact ⟨none, true, win default ((raw_expr_number_value a0).trans (DT.go_run _ _)) hr⟩
  · cases hG
abbrev cx_expr_other_value : Cx := mkCx2 tyTab [] [] [] []
theorem rdy_expr_other_value : Ready Try.prog tyTab [] [] [] := ⟨noneG2, noneI2, noneF2⟩
structure S.expr_other_value_T where
  x0 : Int
  x1 : Int
  x2 : ByteArray
  deriving Inhabited
def S.expr_other_value_R (a0_0 : Int) (a0_1 : Int) (a0_2 : ByteArray) : DT S.expr_other_value_T :=
(.leaf ⟨a0_0, a0_1, a0_2⟩)
def S.expr_other_value (a0_0 : Int) (a0_1 : Int) (a0_2 : ByteArray) : Option S.expr_other_value_T := (S.expr_other_value_R a0_0 a0_1 a0_2).run
def S.expr_other_value_is (a0_0 : Int) (a0_1 : Int) (a0_2 : ByteArray) : Bool := (S.expr_other_value a0_0 a0_1 a0_2).isSome
def S.expr_other_value_o (a0_0 : Int) (a0_1 : Int) (a0_2 : ByteArray) : S.expr_other_value_T := (S.expr_other_value a0_0 a0_1 a0_2).getD default
def ret_expr_other_value (b : Bool) (r : S.expr_other_value_T) : Ret := ⟨b, none, [(true, [C.d (.sc (.int .i64 r.x0)), C.d (.sc (.int .i64 r.x1)), C.d (.sc (.str r.x2))])]⟩
def g_expr_other_value : Con
  | [(true, [.sc (.int .i64 a0_0), .sc (.int .i64 a0_1), .sc (.str a0_2)])] => some (ret_expr_other_value (S.expr_other_value_is a0_0 a0_1 a0_2) (S.expr_other_value_o a0_0 a0_1 a0_2))
  | _ => none
theorem raw_expr_other_value (a0_0 : Int) (a0_1 : Int) (a0_2 : ByteArray) : evR2 cx_expr_other_value (hdI cx_expr_other_value (find []) [] none 0) none Try.f199 199 none [(true, [.sc (.int .i64 a0_0), .sc (.int .i64 a0_1), .sc (.str a0_2)])] some = (S.expr_other_value_R a0_0 a0_1 a0_2).go (ret_expr_other_value true) := by kernel_rfl
theorem bs_expr_other_value : loopsIn Try.f199 [] = [] := by kernel_rfl
theorem expr_other_value_ok : Stands Try.prog tyTab 199 g_expr_other_value := by
  refine stands3 (L := find []) (n := 0) (hints := []) (cx_ok rfl) rdy_expr_other_value ⟨by kernel_rfl, by kernel_rfl, by kernel_rfl⟩ bs_expr_other_value nilB (fun das r hG hr => ?_)
  unfold g_expr_other_value at hG
  split at hG
  · rename_i a0_0 a0_1 a0_2
    injection hG with hG; subst hG
    exact ⟨none, true, win default ((raw_expr_other_value a0_0 a0_1 a0_2).trans (DT.go_run _ _)) hr⟩
  · cases hG
abbrev cx_expr_truth_value : Cx := mkCx2 tyTab [] [] [] []
theorem rdy_expr_truth_value : Ready Try.prog tyTab [] [] [] := ⟨noneG2, noneI2, noneF2⟩
structure S.expr_truth_value_T where
  x0 : Int
  x1 : Int
  x2 : ByteArray
  deriving Inhabited
def S.expr_truth_value_R (a0 : Bool) : DT S.expr_truth_value_T :=
(.br (a0)
(.leaf ⟨1, 1, ByteArray.empty⟩)
(.leaf ⟨1, 0, ByteArray.empty⟩))
def S.expr_truth_value (a0 : Bool) : Option S.expr_truth_value_T := (S.expr_truth_value_R a0).run
def S.expr_truth_value_is (a0 : Bool) : Bool := (S.expr_truth_value a0).isSome
def S.expr_truth_value_o (a0 : Bool) : S.expr_truth_value_T := (S.expr_truth_value a0).getD default
def ret_expr_truth_value (b : Bool) (r : S.expr_truth_value_T) : Ret := ⟨b, none, [(true, [C.d (.sc (.int .i64 r.x0)), C.d (.sc (.int .i64 r.x1)), C.d (.sc (.str r.x2))])]⟩
def g_expr_truth_value : Con
  | [(false, [.sc (.bool a0)])] => some (ret_expr_truth_value (S.expr_truth_value_is a0) (S.expr_truth_value_o a0))
  | _ => none
theorem raw_expr_truth_value (a0 : Bool) : evR2 cx_expr_truth_value (hdI cx_expr_truth_value (find []) [] none 0) none Try.f90 90 none [(false, [.sc (.bool a0)])] some = (S.expr_truth_value_R a0).go (ret_expr_truth_value true) := by kernel_rfl
theorem bs_expr_truth_value : loopsIn Try.f90 [] = [] := by kernel_rfl
theorem expr_truth_value_ok : Stands Try.prog tyTab 90 g_expr_truth_value := by
  refine stands3 (L := find []) (n := 0) (hints := []) (cx_ok rfl) rdy_expr_truth_value ⟨by kernel_rfl, by kernel_rfl, by kernel_rfl⟩ bs_expr_truth_value nilB (fun das r hG hr => ?_)
  unfold g_expr_truth_value at hG
  split at hG
  · rename_i a0
    injection hG with hG; subst hG
    exact ⟨none, true, win default ((raw_expr_truth_value a0).trans (DT.go_run _ _)) hr⟩
  · cases hG
abbrev cx_expr_may_1 : Cx := mkCx2 tyTab [(147, g_value_May)] [] [] []
theorem rdy_expr_may_1 : Ready Try.prog tyTab [(147, g_value_May)] [] [] := ⟨consG2 value_May_ok (noneG2), noneI2, noneF2⟩
structure S.expr_may_1_T where
  x0 : Bool
  deriving Inhabited
def S.expr_may_1_R (a0_0 : Int) (a0_1 : Int) (a0_2 : Int) (a0_3 : Int) (a0_4 : ByteArray) : DT S.expr_may_1_T :=
let y0 : Bool := xeqI a0_0 0
let y1 : Bool := xdec (a0_0 < 0)
let y2 : Bool := xdec (a0_0 ≥ 10)
let y3 : Bool := xdec (a0_1 < 0)
let y4 : Bool := xdec (a0_1 ≥ 6)
let y5 : Bool := S.value_May_is a0_2 a0_3 a0_4
let y6 : Bool := xnot (S.value_May_o a0_2 a0_3 a0_4).x0
let y7 : Bool := xnot (xeqI a0_2 0 && (xeqI a0_3 0 && xdec (a0_4 = ByteArray.empty)))
let y8 : Bool := xnot (xeqI a0_1 0)
(.br (xeqI a0_0 1)
(.br (y0)
(.br (y1)
(.leaf ⟨true⟩)
(.br (y2)
(.leaf ⟨true⟩)
(.br (y3)
(.leaf ⟨true⟩)
(.br (y4)
(.leaf ⟨true⟩)
(.br (xnot true)
(.leaf ⟨true⟩)
(.br (xnot true)
(.leaf ⟨true⟩)
(.br (y5)
(.leaf ⟨y6⟩)
.fail)))))))
(.br (y1)
(.leaf ⟨true⟩)
(.br (y2)
(.leaf ⟨true⟩)
(.br (y3)
(.leaf ⟨true⟩)
(.br (y4)
(.leaf ⟨true⟩)
(.br (xnot true)
(.leaf ⟨true⟩)
(.br (y7)
(.leaf ⟨true⟩)
(.br (y5)
(.leaf ⟨y6⟩)
.fail))))))))
(.br (y0)
(.br (y1)
(.leaf ⟨true⟩)
(.br (y2)
(.leaf ⟨true⟩)
(.br (y3)
(.leaf ⟨true⟩)
(.br (y4)
(.leaf ⟨true⟩)
(.br (y8)
(.leaf ⟨true⟩)
(.br (xnot true)
(.leaf ⟨true⟩)
(.br (y5)
(.leaf ⟨y6⟩)
.fail)))))))
(.br (y1)
(.leaf ⟨true⟩)
(.br (y2)
(.leaf ⟨true⟩)
(.br (y3)
(.leaf ⟨true⟩)
(.br (y4)
(.leaf ⟨true⟩)
(.br (y8)
(.leaf ⟨true⟩)
(.br (y7)
(.leaf ⟨true⟩)
(.br (y5)
(.leaf ⟨y6⟩)
.fail)))))))))
def S.expr_may_1 (a0_0 : Int) (a0_1 : Int) (a0_2 : Int) (a0_3 : Int) (a0_4 : ByteArray) : Option S.expr_may_1_T := (S.expr_may_1_R a0_0 a0_1 a0_2 a0_3 a0_4).run
def S.expr_may_1_is (a0_0 : Int) (a0_1 : Int) (a0_2 : Int) (a0_3 : Int) (a0_4 : ByteArray) : Bool := (S.expr_may_1 a0_0 a0_1 a0_2 a0_3 a0_4).isSome
def S.expr_may_1_o (a0_0 : Int) (a0_1 : Int) (a0_2 : Int) (a0_3 : Int) (a0_4 : ByteArray) : S.expr_may_1_T := (S.expr_may_1 a0_0 a0_1 a0_2 a0_3 a0_4).getD default
def ret_expr_may_1 (b : Bool) (r : S.expr_may_1_T) : Ret := ⟨b, none, [(false, [C.d (.sc (.bool r.x0))])]⟩
def g_expr_may_1 : Con
  | [(true, [.sc (.int .i64 a0_0), .sc (.int .i64 a0_1), .sc (.int .i64 a0_2), .sc (.int .i64 a0_3), .sc (.str a0_4)])] => some (ret_expr_may_1 (S.expr_may_1_is a0_0 a0_1 a0_2 a0_3 a0_4) (S.expr_may_1_o a0_0 a0_1 a0_2 a0_3 a0_4))
  | _ => none
theorem raw_expr_may_1 (a0_0 : Int) (a0_1 : Int) (a0_2 : Int) (a0_3 : Int) (a0_4 : ByteArray) : evR2 cx_expr_may_1 (hdI cx_expr_may_1 (find []) [] none 0) none Try.f146 146 none [(true, [.sc (.int .i64 a0_0), .sc (.int .i64 a0_1), .sc (.int .i64 a0_2), .sc (.int .i64 a0_3), .sc (.str a0_4)])] some = (S.expr_may_1_R a0_0 a0_1 a0_2 a0_3 a0_4).go (ret_expr_may_1 true) := by kernel_rfl
theorem bs_expr_may_1 : loopsIn Try.f146 [] = [] := by kernel_rfl
theorem expr_may_1_ok : Stands Try.prog tyTab 146 g_expr_may_1 := by
  refine stands3 (L := find []) (n := 0) (hints := []) (cx_ok rfl) rdy_expr_may_1 ⟨by kernel_rfl, by kernel_rfl, by kernel_rfl⟩ bs_expr_may_1 nilB (fun das r hG hr => ?_)
  unfold g_expr_may_1 at hG
  split at hG
  · rename_i a0_0 a0_1 a0_2 a0_3 a0_4
    injection hG with hG; subst hG
    exact ⟨none, true, win default ((raw_expr_may_1 a0_0 a0_1 a0_2 a0_3 a0_4).trans (DT.go_run _ _)) hr⟩
  · cases hG
abbrev cx_IndexFunc_Op_may : Cx := mkCx2 tyTab [(146, g_expr_may_1)] [] [(164, 2, { keep := [0, 1, 7, 8], acc := [] })] []
theorem rdy_IndexFunc_Op_may : Ready Try.prog tyTab [(146, g_expr_may_1)] [] [] := ⟨consG2 expr_may_1_ok (noneG2), noneI2, noneF2⟩
structure S.IndexFunc_Op_may_2_V where
  t_8_0 : Int
def S.IndexFunc_Op_may_2_R (qA : List (Ty .op)) (qB : Int) (v : S.IndexFunc_Op_may_2_V) : DT (Option Nat × S.IndexFunc_Op_may_2_V) :=
let y0 : Ty ET.op := qA.getD v.t_8_0.toNat (dflt ET.op)
let y1 : Int := y0.code
let y2 : Int := y0.arg
let y3 : Val := y0.v
let y4 : Int := y3.kind
let y5 : Int := y3.n
let y6 : ByteArray := y3.s
(.br (xdec (v.t_8_0 < qB))
(.br (xdec (0 ≤ v.t_8_0) && xdec (v.t_8_0 < (↑qA.length : Int)))
(.br (S.expr_may_1_is y1 y2 y4 y5 y6)
(.br ((S.expr_may_1_o y1 y2 y4 y5 y6).x0)
(.leaf (some 0, v))
(.leaf (none, ⟨xwrap IntKind.i64 (v.t_8_0 + 1)⟩)))
.fail)
.fail)
(.leaf (some 1, v)))
def S.IndexFunc_Op_may_2_r (qA : List (Ty .op)) (qB : Int) (v : S.IndexFunc_Op_may_2_V) : Option (Option Nat × S.IndexFunc_Op_may_2_V) := (S.IndexFunc_Op_may_2_R qA qB v).run
def S.IndexFunc_Op_may_2_j (qA : List (Ty .op)) (qB : Int) (v : S.IndexFunc_Op_may_2_V) (j : Nat) : Bool := Lp_j (S.IndexFunc_Op_may_2_r qA qB) v j
def S.IndexFunc_Op_may_2_v (qA : List (Ty .op)) (qB : Int) (v : S.IndexFunc_Op_may_2_V) : S.IndexFunc_Op_may_2_V := Lp_v (S.IndexFunc_Op_may_2_r qA qB) v
def mk_IndexFunc_Op_may_2 (qC : Option Bool) (qD : Bool) (qA : List (Ty .op)) (qB : Int) (v : S.IndexFunc_Op_may_2_V) : St := ⟨[V.v false [C.d (.sl qC qD ET.op qA)], V.v false [C.d (D.fn 146 [] [])], V.any, V.any, V.any, V.any, V.any, V.v false [C.d (.sc (.int .i64 qB))],
  V.v false [C.d (.sc (.int .i64 v.t_8_0))], V.any, V.any, V.any, V.any, V.any, V.any, V.any, V.any, V.any, V.any], [none, none, none, none], 0⟩
def ex_IndexFunc_Op_may_2 (qC : Option Bool) (qD : Bool) (qA : List (Ty .op)) (qB : Int) (j : Nat) (v : S.IndexFunc_Op_may_2_V) : Ex × St := match j with
  | 0 => (Ex.ret, ⟨[V.any, V.any, V.any, V.any, V.v false [C.d (.sc (.int .i64 v.t_8_0))], V.any, V.any, V.any, V.any, V.any, V.any, V.any, V.any, V.any, V.any, V.any, V.any, V.any, V.any], [none, none, none, none, none, none, none, none, none, none, none, none, none, none, none], 0⟩)
  | 1 => (Ex.exit 0, ⟨[V.any, V.any, V.any, V.any, V.any, V.any, V.any, V.any, V.any, V.any, V.any, V.any, V.any, V.any, V.any, V.any, V.any, V.any, V.any], [none, none, none, none, none], 0⟩)
  | _ => (.ret, ⟨[], [], 0⟩)
def T1_IndexFunc_Op_may_2 : V → V → V → V → Tree
  | V.v false [C.d (.sl qC qD ET.op qA)], V.v false [C.d (D.fn 146 [] [])], V.v false [C.d (.sc (.int .i64 qB))], V.v false [C.d (.sc (.int .i64 t_8_0))] => exT (fun j => ex_IndexFunc_Op_may_2 qC qD qA qB j (S.IndexFunc_Op_may_2_v qA qB ⟨t_8_0⟩)) (S.IndexFunc_Op_may_2_j qA qB ⟨t_8_0⟩) [0, 1]
  | _, _, _, _ => .bad
def T_IndexFunc_Op_may_2 (st : St) : Tree := bif okSt 19 4 0 [] st then T1_IndexFunc_Op_may_2 (st.env.getD 0 .any) (st.env.getD 1 .any) (st.env.getD 7 .any) (st.env.getD 8 .any) else .bad
def b_IndexFunc_Op_may_2 : Code := loopBy Try.f164 2
theorem rnd_IndexFunc_Op_may_2 (qC : Option Bool) (qD : Bool) (qA : List (Ty .op)) (qB : Int) (v : S.IndexFunc_Op_may_2_V) : round2 cx_IndexFunc_Op_may (hdI cx_IndexFunc_Op_may (find []) [] none 0) 164 b_IndexFunc_Op_may_2 [] 4 [4] (mk_IndexFunc_Op_may_2 qC qD qA qB v) = (S.IndexFunc_Op_may_2_R qA qB v).go (roundOut (mk_IndexFunc_Op_may_2 qC qD qA qB) (ex_IndexFunc_Op_may_2 qC qD qA qB)) := by kernel_rfl
theorem bs_IndexFunc_Op_may_2 : loopsOf b_IndexFunc_Op_may_2 ++ loopsInl [] = [] := by kernel_rfl
theorem ci_IndexFunc_Op_may_2 (qC : Option Bool) (qD : Bool) (qA : List (Ty .op)) (qB : Int) : ∀ v j v2, Lp (S.IndexFunc_Op_may_2_r qA qB) v = some (j, v2) → Circles Try.prog cx_IndexFunc_Op_may b_IndexFunc_Op_may_2 (mk_IndexFunc_Op_may_2 qC qD qA qB v) (ex_IndexFunc_Op_may_2 qC qD qA qB j v2).1 (ex_IndexFunc_Op_may_2 qC qD qA qB j v2).2 :=
  loop_ok2 (L := find []) (n := 0) (hints := [(164, 2, { keep := [0, 1, 7, 8], acc := [] })]) (cx_ok rfl) rdy_IndexFunc_Op_may bs_IndexFunc_Op_may_2 nilB (fun v => (rnd_IndexFunc_Op_may_2 qC qD qA qB v).trans (DT.go_run _ _)) (by intro j v; unfold ex_IndexFunc_Op_may_2; split <;> rfl)
theorem mke_IndexFunc_Op_may_2 (qC : Option Bool) (qD : Bool) (qA : List (Ty .op)) (qB : Int) (v : S.IndexFunc_Op_may_2_V) : mk_IndexFunc_Op_may_2 qC qD qA qB v = ⟨envOf 19 [(0, V.v false [C.d (.sl qC qD ET.op qA)]), (1, V.v false [C.d (D.fn 146 [] [])]), (7, V.v false [C.d (.sc (.int .i64 qB))]), (8, V.v false [C.d (.sc (.int .i64 v.t_8_0))])], heapOf 4 [], 0⟩ := by kernel_rfl
theorem lo1_IndexFunc_Op_may_2 (e0 : V) (e1 : V) (e7 : V) (e8 : V)  e st2 (h : (T1_IndexFunc_Op_may_2 e0 e1 e7 e8).eval = some (e, st2)) : Circles Try.prog cx_IndexFunc_Op_may b_IndexFunc_Op_may_2 ⟨envOf 19 [(0, e0), (1, e1), (7, e7), (8, e8)], heapOf 4 [], 0⟩ e st2 := by
  unfold T1_IndexFunc_Op_may_2 at h
  split at h
  · have := loop_tree (mk := mk_IndexFunc_Op_may_2 _ _ _ _) (ci_IndexFunc_Op_may_2 _ _ _ _) _ _ e st2 h
    rw [mke_IndexFunc_Op_may_2] at this
    exact this
  · cases h
theorem lok_IndexFunc_Op_may_2 : LoopOk Try.prog cx_IndexFunc_Op_may b_IndexFunc_Op_may_2 T_IndexFunc_Op_may_2 := by
  intro st e st2 h
  unfold T_IndexFunc_Op_may_2 at h
  cases hk : okSt 19 4 0 [] st with
  | false => rw [hk] at h; cases h
  | true =>
    rw [hk] at h
    exact circles_keep (ks := [0, 1, 7, 8]) hk (lo1_IndexFunc_Op_may_2 _ _ _ _ e st2 h)
structure S.IndexFunc_Op_may_T where
  x0 : Int
  deriving Inhabited
def S.IndexFunc_Op_may_R (a0 : List (Ty .op)) : DT S.IndexFunc_Op_may_T :=
let y0 : Int := (↑a0.length : Int)
let y1 : S.IndexFunc_Op_may_2_V := { t_8_0 := 0 : S.IndexFunc_Op_may_2_V }
(.br (S.IndexFunc_Op_may_2_j a0 y0 y1 0)
(.leaf ⟨(S.IndexFunc_Op_may_2_v a0 y0 y1).t_8_0⟩)
(.br (S.IndexFunc_Op_may_2_j a0 y0 y1 1)
(.leaf ⟨-1⟩)
.fail))
def S.IndexFunc_Op_may (a0 : List (Ty .op)) : Option S.IndexFunc_Op_may_T := (S.IndexFunc_Op_may_R a0).run
def S.IndexFunc_Op_may_is (a0 : List (Ty .op)) : Bool := (S.IndexFunc_Op_may a0).isSome
def S.IndexFunc_Op_may_o (a0 : List (Ty .op)) : S.IndexFunc_Op_may_T := (S.IndexFunc_Op_may a0).getD default
def ret_IndexFunc_Op_may (b : Bool) (r : S.IndexFunc_Op_may_T) : Ret := ⟨b, none, [(false, [C.d (.sc (.int .i64 r.x0))])]⟩
def g_IndexFunc_Op_may : Con
  | [(false, [.sl a0n a0f .op a0]), (false, [.fn 146 [] []])] => some (ret_IndexFunc_Op_may (S.IndexFunc_Op_may_is a0) (S.IndexFunc_Op_may_o a0))
  | _ => none
theorem raw_IndexFunc_Op_may (a0n : Option Bool) (a0f : Bool) (a0 : List (Ty .op)) : evR2 cx_IndexFunc_Op_may (hdI cx_IndexFunc_Op_may (find [(2, T_IndexFunc_Op_may_2)]) [] none 0) none Try.f164 164 none [(false, [.sl a0n a0f .op a0]), (false, [.fn 146 [] []])] some = (S.IndexFunc_Op_may_R a0).go (ret_IndexFunc_Op_may true) := by kernel_rfl
theorem bs_IndexFunc_Op_may : loopsIn Try.f164 [] = [b_IndexFunc_Op_may_2] := by kernel_rfl
theorem IndexFunc_Op_may_ok : Stands Try.prog tyTab 164 g_IndexFunc_Op_may := by
  refine stands3 (L := find [(2, T_IndexFunc_Op_may_2)]) (n := 0) (hints := [(164, 2, { keep := [0, 1, 7, 8], acc := [] })]) (cx_ok rfl) rdy_IndexFunc_Op_may ⟨by kernel_rfl, by kernel_rfl, by kernel_rfl⟩ bs_IndexFunc_Op_may (consB (fun T h => by have e : T_IndexFunc_Op_may_2 = T := Option.some.inj (show some T_IndexFunc_Op_may_2 = some T from h); exact e ▸ lok_IndexFunc_Op_may_2) nilB) (fun das r hG hr => ?_)
  unfold g_IndexFunc_Op_may at hG
  split at hG
  · rename_i a0n a0f a0
    injection hG with hG; subst hG
    exact ⟨none, true, win default ((raw_IndexFunc_Op_may a0n a0f a0).trans (DT.go_run _ _)) hr⟩
  · cases hG
abbrev cx_ContainsFunc_Op_may : Cx := mkCx2 tyTab [(164, g_IndexFunc_Op_may)] [] [] []
theorem rdy_ContainsFunc_Op_may : Ready Try.prog tyTab [(164, g_IndexFunc_Op_may)] [] [] := ⟨consG2 IndexFunc_Op_may_ok (noneG2), noneI2, noneF2⟩
structure S.ContainsFunc_Op_may_T where
  x0 : Bool
  deriving Inhabited
def S.ContainsFunc_Op_may_R (a0 : List (Ty .op)) : DT S.ContainsFunc_Op_may_T :=
(.br (S.IndexFunc_Op_may_is a0)
(.leaf ⟨xdec ((S.IndexFunc_Op_may_o a0).x0 ≥ 0)⟩)
.fail)
def S.ContainsFunc_Op_may (a0 : List (Ty .op)) : Option S.ContainsFunc_Op_may_T := (S.ContainsFunc_Op_may_R a0).run
def S.ContainsFunc_Op_may_is (a0 : List (Ty .op)) : Bool := (S.ContainsFunc_Op_may a0).isSome
def S.ContainsFunc_Op_may_o (a0 : List (Ty .op)) : S.ContainsFunc_Op_may_T := (S.ContainsFunc_Op_may a0).getD default
def ret_ContainsFunc_Op_may (b : Bool) (r : S.ContainsFunc_Op_may_T) : Ret := ⟨b, none, [(false, [C.d (.sc (.bool r.x0))])]⟩
def g_ContainsFunc_Op_may : Con
  | [(false, [.sl a0n a0f .op a0]), (false, [.fn 146 [] []])] => some (ret_ContainsFunc_Op_may (S.ContainsFunc_Op_may_is a0) (S.ContainsFunc_Op_may_o a0))
  | _ => none
theorem raw_ContainsFunc_Op_may (a0n : Option Bool) (a0f : Bool) (a0 : List (Ty .op)) : evR2 cx_ContainsFunc_Op_may (hdI cx_ContainsFunc_Op_may (find []) [] none 0) none Try.f148 148 none [(false, [.sl a0n a0f .op a0]), (false, [.fn 146 [] []])] some = (S.ContainsFunc_Op_may_R a0).go (ret_ContainsFunc_Op_may true) := by kernel_rfl
theorem bs_ContainsFunc_Op_may : loopsIn Try.f148 [] = [] := by kernel_rfl
theorem ContainsFunc_Op_may_ok : Stands Try.prog tyTab 148 g_ContainsFunc_Op_may := by
  refine stands3 (L := find []) (n := 0) (hints := []) (cx_ok rfl) rdy_ContainsFunc_Op_may ⟨by kernel_rfl, by kernel_rfl, by kernel_rfl⟩ bs_ContainsFunc_Op_may nilB (fun das r hG hr => ?_)
  unfold g_ContainsFunc_Op_may at hG
  split at hG
  · rename_i a0n a0f a0
    injection hG with hG; subst hG
    exact ⟨none, true, win default ((raw_ContainsFunc_Op_may a0n a0f a0).trans (DT.go_run _ _)) hr⟩
  · cases hG
abbrev cx_expr_may : Cx := mkCx2 tyTab [(146, g_expr_may_1), (148, g_ContainsFunc_Op_may)] [] [] []
theorem rdy_expr_may : Ready Try.prog tyTab [(146, g_expr_may_1), (148, g_ContainsFunc_Op_may)] [] [] := ⟨consG2 expr_may_1_ok (consG2 ContainsFunc_Op_may_ok (noneG2)), noneI2, noneF2⟩
structure S.expr_may_T where
  x0 : Bool
  deriving Inhabited
def S.expr_may_R (a0 : List (Ty .op)) : DT S.expr_may_T :=
(.br (xdec ((↑a0.length : Int) ≤ 12))
(.br (S.ContainsFunc_Op_may_is a0)
(.leaf ⟨xnot (S.ContainsFunc_Op_may_o a0).x0⟩)
.fail)
(.leaf ⟨false⟩))
def S.expr_may (a0 : List (Ty .op)) : Option S.expr_may_T := (S.expr_may_R a0).run
def S.expr_may_is (a0 : List (Ty .op)) : Bool := (S.expr_may a0).isSome
def S.expr_may_o (a0 : List (Ty .op)) : S.expr_may_T := (S.expr_may a0).getD default
def ret_expr_may (b : Bool) (r : S.expr_may_T) : Ret := ⟨b, none, [(false, [C.d (.sc (.bool r.x0))])]⟩
def g_expr_may : Con
  | [(false, [.sl a0n a0f .op a0])] => some (ret_expr_may (S.expr_may_is a0) (S.expr_may_o a0))
  | _ => none
theorem raw_expr_may (a0n : Option Bool) (a0f : Bool) (a0 : List (Ty .op)) : evR2 cx_expr_may (hdI cx_expr_may (find []) [] none 0) none Try.f125 125 none [(false, [.sl a0n a0f .op a0])] some = (S.expr_may_R a0).go (ret_expr_may true) := by kernel_rfl
theorem bs_expr_may : loopsIn Try.f125 [] = [] := by kernel_rfl
theorem expr_may_ok : Stands Try.prog tyTab 125 g_expr_may := by
  refine stands3 (L := find []) (n := 0) (hints := []) (cx_ok rfl) rdy_expr_may ⟨by kernel_rfl, by kernel_rfl, by kernel_rfl⟩ bs_expr_may nilB (fun das r hG hr => ?_)
  unfold g_expr_may at hG
  split at hG
  · rename_i a0n a0f a0
    injection hG with hG; subst hG
    exact ⟨none, true, win default ((raw_expr_may a0n a0f a0).trans (DT.go_run _ _)) hr⟩
  · cases hG
abbrev cx_slices_Equal_Op : Cx := mkCx2 tyTab [] [] [(143, 4, { keep := [0, 1, 12, 13], acc := [] })] []
theorem rdy_slices_Equal_Op : Ready Try.prog tyTab [] [] [] := ⟨noneG2, noneI2, noneF2⟩
structure S.slices_Equal_Op_4_V where
  t_13_0 : Int
def S.slices_Equal_Op_4_R (qA : List (Ty .op)) (qI : List (Ty .op)) (qJ : Int) (v : S.slices_Equal_Op_4_V) : DT (Option Nat × S.slices_Equal_Op_4_V) :=
let y0 : Bool := xdec (0 ≤ v.t_13_0)
let y1 : Ty ET.op := qA.getD v.t_13_0.toNat (dflt ET.op)
let y2 : Ty ET.op := qI.getD v.t_13_0.toNat (dflt ET.op)
let y3 : Val := y1.v
let y4 : Val := y2.v
(.br (xdec (v.t_13_0 < qJ))
(.br (y0 && xdec (v.t_13_0 < (↑qA.length : Int)))
(.br (y0 && xdec (v.t_13_0 < (↑qI.length : Int)))
(.br (bif xeqI y1.code y2.code && (xeqI y1.arg y2.arg && (xeqI y3.kind y4.kind && (xeqI y3.n y4.n && xdec (y3.s = y4.s)))) then false else true)
(.leaf (some 0, v))
(.leaf (none, ⟨xwrap IntKind.i64 (v.t_13_0 + 1)⟩)))
.fail)
.fail)
(.leaf (some 1, v)))
def S.slices_Equal_Op_4_r (qA : List (Ty .op)) (qI : List (Ty .op)) (qJ : Int) (v : S.slices_Equal_Op_4_V) : Option (Option Nat × S.slices_Equal_Op_4_V) := (S.slices_Equal_Op_4_R qA qI qJ v).run
def S.slices_Equal_Op_4_j (qA : List (Ty .op)) (qI : List (Ty .op)) (qJ : Int) (v : S.slices_Equal_Op_4_V) (j : Nat) : Bool := Lp_j (S.slices_Equal_Op_4_r qA qI qJ) v j
def S.slices_Equal_Op_4_v (qA : List (Ty .op)) (qI : List (Ty .op)) (qJ : Int) (v : S.slices_Equal_Op_4_V) : S.slices_Equal_Op_4_V := Lp_v (S.slices_Equal_Op_4_r qA qI qJ) v
def mk_slices_Equal_Op_4 (qC : Option Bool) (qD : Bool) (qA : List (Ty .op)) (qK : Option Bool) (qL : Bool) (qI : List (Ty .op)) (qJ : Int) (v : S.slices_Equal_Op_4_V) : St := ⟨[V.v false [C.d (.sl qC qD ET.op qA)], V.v false [C.d (.sl qK qL ET.op qI)], V.any, V.any, V.any, V.any, V.any, V.any, V.any, V.any, V.any, V.any,
  V.v false [C.d (.sc (.int .i64 qJ))], V.v false [C.d (.sc (.int .i64 v.t_13_0))], V.any, V.any, V.any, V.any, V.any, V.any, V.any, V.any, V.any, V.any,
  V.any, V.any], [none, none, none, none, none, none, none, none, none], 0⟩
def ex_slices_Equal_Op_4 (qC : Option Bool) (qD : Bool) (qA : List (Ty .op)) (qK : Option Bool) (qL : Bool) (qI : List (Ty .op)) (qJ : Int) (j : Nat) (v : S.slices_Equal_Op_4_V) : Ex × St := match j with
  | 0 => (Ex.ret, ⟨[V.any, V.any, V.any, V.any, V.v false [C.d (.sc (.bool false))], V.any, V.any, V.any, V.any, V.any, V.any, V.any, V.any, V.any, V.any, V.any, V.any, V.any, V.any, V.any, V.any,
  V.any, V.any, V.any, V.any, V.any], [none, none, none, none, none, none, none, none, none, none, none, none, none, none, none, none, none, none, none, none, none, none], 0⟩)
  | 1 => (Ex.exit 0, ⟨[V.any, V.any, V.any, V.any, V.any, V.any, V.any, V.any, V.any, V.any, V.any, V.any, V.any, V.any, V.any, V.any, V.any, V.any, V.any, V.any, V.any, V.any, V.any, V.any, V.any,
  V.any], [none, none, none, none, none, none, none, none, none, none], 0⟩)
  | _ => (.ret, ⟨[], [], 0⟩)
def T1_slices_Equal_Op_4 : V → V → V → V → Tree
  | V.v false [C.d (.sl qC qD ET.op qA)], V.v false [C.d (.sl qK qL ET.op qI)], V.v false [C.d (.sc (.int .i64 qJ))], V.v false [C.d (.sc (.int .i64 t_13_0))] => exT (fun j => ex_slices_Equal_Op_4 qC qD qA qK qL qI qJ j (S.slices_Equal_Op_4_v qA qI qJ ⟨t_13_0⟩)) (S.slices_Equal_Op_4_j qA qI qJ ⟨t_13_0⟩) [0, 1]
  | _, _, _, _ => .bad
def T_slices_Equal_Op_4 (st : St) : Tree := bif okSt 26 9 0 [] st then T1_slices_Equal_Op_4 (st.env.getD 0 .any) (st.env.getD 1 .any) (st.env.getD 12 .any) (st.env.getD 13 .any) else .bad
def b_slices_Equal_Op_4 : Code := loopBy Try.f143 4
theorem rnd_slices_Equal_Op_4 (qC : Option Bool) (qD : Bool) (qA : List (Ty .op)) (qK : Option Bool) (qL : Bool) (qI : List (Ty .op)) (qJ : Int) (v : S.slices_Equal_Op_4_V) : round2 cx_slices_Equal_Op (hdI cx_slices_Equal_Op (find []) [] none 0) 143 b_slices_Equal_Op_4 [] 9 [4] (mk_slices_Equal_Op_4 qC qD qA qK qL qI qJ v) = (S.slices_Equal_Op_4_R qA qI qJ v).go (roundOut (mk_slices_Equal_Op_4 qC qD qA qK qL qI qJ) (ex_slices_Equal_Op_4 qC qD qA qK qL qI qJ)) := by kernel_rfl
theorem bs_slices_Equal_Op_4 : loopsOf b_slices_Equal_Op_4 ++ loopsInl [] = [] := by kernel_rfl
theorem ci_slices_Equal_Op_4 (qC : Option Bool) (qD : Bool) (qA : List (Ty .op)) (qK : Option Bool) (qL : Bool) (qI : List (Ty .op)) (qJ : Int) : ∀ v j v2, Lp (S.slices_Equal_Op_4_r qA qI qJ) v = some (j, v2) → Circles Try.prog cx_slices_Equal_Op b_slices_Equal_Op_4 (mk_slices_Equal_Op_4 qC qD qA qK qL qI qJ v) (ex_slices_Equal_Op_4 qC qD qA qK qL qI qJ j v2).1 (ex_slices_Equal_Op_4 qC qD qA qK qL qI qJ j v2).2 :=
  loop_ok2 (L := find []) (n := 0) (hints := [(143, 4, { keep := [0, 1, 12, 13], acc := [] })]) (cx_ok rfl) rdy_slices_Equal_Op bs_slices_Equal_Op_4 nilB (fun v => (rnd_slices_Equal_Op_4 qC qD qA qK qL qI qJ v).trans (DT.go_run _ _)) (by intro j v; unfold ex_slices_Equal_Op_4; split <;> rfl)
theorem mke_slices_Equal_Op_4 (qC : Option Bool) (qD : Bool) (qA : List (Ty .op)) (qK : Option Bool) (qL : Bool) (qI : List (Ty .op)) (qJ : Int) (v : S.slices_Equal_Op_4_V) : mk_slices_Equal_Op_4 qC qD qA qK qL qI qJ v = ⟨envOf 26 [(0, V.v false [C.d (.sl qC qD ET.op qA)]), (1, V.v false [C.d (.sl qK qL ET.op qI)]), (12, V.v false [C.d (.sc (.int .i64 qJ))]), (13, V.v false [C.d (.sc (.int .i64 v.t_13_0))])], heapOf 9 [], 0⟩ := by kernel_rfl
theorem lo1_slices_Equal_Op_4 (e0 : V) (e1 : V) (e12 : V) (e13 : V)  e st2 (h : (T1_slices_Equal_Op_4 e0 e1 e12 e13).eval = some (e, st2)) : Circles Try.prog cx_slices_Equal_Op b_slices_Equal_Op_4 ⟨envOf 26 [(0, e0), (1, e1), (12, e12), (13, e13)], heapOf 9 [], 0⟩ e st2 := by
  unfold T1_slices_Equal_Op_4 at h
  split at h
  · have := loop_tree (mk := mk_slices_Equal_Op_4 _ _ _ _ _ _ _) (ci_slices_Equal_Op_4 _ _ _ _ _ _ _) _ _ e st2 h
    rw [mke_slices_Equal_Op_4] at this
    exact this
  · cases h
theorem lok_slices_Equal_Op_4 : LoopOk Try.prog cx_slices_Equal_Op b_slices_Equal_Op_4 T_slices_Equal_Op_4 := by
  intro st e st2 h
  unfold T_slices_Equal_Op_4 at h
  cases hk : okSt 26 9 0 [] st with
  | false => rw [hk] at h; cases h
  | true =>
    rw [hk] at h
    exact circles_keep (ks := [0, 1, 12, 13]) hk (lo1_slices_Equal_Op_4 _ _ _ _ e st2 h)
structure S.slices_Equal_Op_T where
  x0 : Bool
  deriving Inhabited
def S.slices_Equal_Op_R (a0 : List (Ty .op)) (a1 : List (Ty .op)) : DT S.slices_Equal_Op_T :=
let y0 : Int := (↑a0.length : Int)
let y1 : S.slices_Equal_Op_4_V := { t_13_0 := 0 : S.slices_Equal_Op_4_V }
(.br (xneI y0 (↑a1.length : Int))
(.leaf ⟨false⟩)
(.br (S.slices_Equal_Op_4_j a0 a1 y0 y1 0)
(.leaf ⟨false⟩)
(.br (S.slices_Equal_Op_4_j a0 a1 y0 y1 1)
(.leaf ⟨true⟩)
.fail)))
def S.slices_Equal_Op (a0 : List (Ty .op)) (a1 : List (Ty .op)) : Option S.slices_Equal_Op_T := (S.slices_Equal_Op_R a0 a1).run
def S.slices_Equal_Op_is (a0 : List (Ty .op)) (a1 : List (Ty .op)) : Bool := (S.slices_Equal_Op a0 a1).isSome
def S.slices_Equal_Op_o (a0 : List (Ty .op)) (a1 : List (Ty .op)) : S.slices_Equal_Op_T := (S.slices_Equal_Op a0 a1).getD default
def ret_slices_Equal_Op (b : Bool) (r : S.slices_Equal_Op_T) : Ret := ⟨b, none, [(false, [C.d (.sc (.bool r.x0))])]⟩
def g_slices_Equal_Op : Con
  | [(false, [.sl a0n a0f .op a0]), (false, [.sl a1n a1f .op a1])] => some (ret_slices_Equal_Op (S.slices_Equal_Op_is a0 a1) (S.slices_Equal_Op_o a0 a1))
  | _ => none
theorem raw_slices_Equal_Op (a0n : Option Bool) (a0f : Bool) (a0 : List (Ty .op)) (a1n : Option Bool) (a1f : Bool) (a1 : List (Ty .op)) : evR2 cx_slices_Equal_Op (hdI cx_slices_Equal_Op (find [(4, T_slices_Equal_Op_4)]) [] none 0) none Try.f143 143 none [(false, [.sl a0n a0f .op a0]), (false, [.sl a1n a1f .op a1])] some = (S.slices_Equal_Op_R a0 a1).go (ret_slices_Equal_Op true) := by kernel_rfl
theorem bs_slices_Equal_Op : loopsIn Try.f143 [] = [b_slices_Equal_Op_4] := by kernel_rfl
theorem slices_Equal_Op_ok : Stands Try.prog tyTab 143 g_slices_Equal_Op := by
  refine stands3 (L := find [(4, T_slices_Equal_Op_4)]) (n := 0) (hints := [(143, 4, { keep := [0, 1, 12, 13], acc := [] })]) (cx_ok rfl) rdy_slices_Equal_Op ⟨by kernel_rfl, by kernel_rfl, by kernel_rfl⟩ bs_slices_Equal_Op (consB (fun T h => by have e : T_slices_Equal_Op_4 = T := Option.some.inj (show some T_slices_Equal_Op_4 = some T from h); exact e ▸ lok_slices_Equal_Op_4) nilB) (fun das r hG hr => ?_)
  unfold g_slices_Equal_Op at hG
  split at hG
  · rename_i a0n a0f a0 a1n a1f a1
    injection hG with hG; subst hG
    exact ⟨none, true, win default ((raw_slices_Equal_Op a0n a0f a0 a1n a1f a1).trans (DT.go_run _ _)) hr⟩
  · cases hG
abbrev cx_expr_Same : Cx := mkCx2 tyTab [(143, g_slices_Equal_Op)] [] [] []
theorem rdy_expr_Same : Ready Try.prog tyTab [(143, g_slices_Equal_Op)] [] [] := ⟨consG2 slices_Equal_Op_ok (noneG2), noneI2, noneF2⟩
structure S.expr_Same_T where
  x0 : Bool
  deriving Inhabited
def S.expr_Same_R (a0 : List (Ty .op)) (a1 : List (Ty .op)) : DT S.expr_Same_T :=
(.br (S.slices_Equal_Op_is a0 a1)
(.leaf ⟨(S.slices_Equal_Op_o a0 a1).x0⟩)
.fail)
def S.expr_Same (a0 : List (Ty .op)) (a1 : List (Ty .op)) : Option S.expr_Same_T := (S.expr_Same_R a0 a1).run
def S.expr_Same_is (a0 : List (Ty .op)) (a1 : List (Ty .op)) : Bool := (S.expr_Same a0 a1).isSome
def S.expr_Same_o (a0 : List (Ty .op)) (a1 : List (Ty .op)) : S.expr_Same_T := (S.expr_Same a0 a1).getD default
def ret_expr_Same (b : Bool) (r : S.expr_Same_T) : Ret := ⟨b, none, [(false, [C.d (.sc (.bool r.x0))])]⟩
def g_expr_Same : Con
  | [(false, [.sl a0n a0f .op a0]), (false, [.sl a1n a1f .op a1])] => some (ret_expr_Same (S.expr_Same_is a0 a1) (S.expr_Same_o a0 a1))
  | _ => none
theorem raw_expr_Same (a0n : Option Bool) (a0f : Bool) (a0 : List (Ty .op)) (a1n : Option Bool) (a1f : Bool) (a1 : List (Ty .op)) : evR2 cx_expr_Same (hdI cx_expr_Same (find []) [] none 0) none Try.f123 123 none [(false, [.sl a0n a0f .op a0]), (false, [.sl a1n a1f .op a1])] some = (S.expr_Same_R a0 a1).go (ret_expr_Same true) := by kernel_rfl
theorem bs_expr_Same : loopsIn Try.f123 [] = [] := by kernel_rfl
theorem expr_Same_ok : Stands Try.prog tyTab 123 g_expr_Same := by
  refine stands3 (L := find []) (n := 0) (hints := []) (cx_ok rfl) rdy_expr_Same ⟨by kernel_rfl, by kernel_rfl, by kernel_rfl⟩ bs_expr_Same nilB (fun das r hG hr => ?_)
  unfold g_expr_Same at hG
  split at hG
  · rename_i a0n a0f a0 a1n a1f a1
    injection hG with hG; subst hG
    exact ⟨none, true, win default ((raw_expr_Same a0n a0f a0 a1n a1f a1).trans (DT.go_run _ _)) hr⟩
  · cases hG
end
end Go.Eng
