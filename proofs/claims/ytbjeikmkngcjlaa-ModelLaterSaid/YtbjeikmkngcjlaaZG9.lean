/- Contracts, laid by program. -/
import Derived.Test.YtbjeikmkngcjlaaZG8
set_option maxHeartbeats 2000000
set_option maxRecDepth 10000
set_option linter.unusedVariables false
set_option linter.unusedSimpArgs false
namespace Go.Eng
noncomputable section
open Go Go.Eng Go.Proofs Go.Eng.Tab
abbrev cx_zqbj : Cx := mkCx2 tyTab [] [] [(74, 4, { keep := [0, 1, 5], acc := [] })] []
theorem rdy_zqbj : Ready Try.prog tyTab [] [] [] := ⟨noneG2, noneI2, noneF2⟩
structure S.zqbj_4_V where
  t_5_0 : Int
def S.zqbj_4_R (qA : List (Ty .mat)) (qB : List (Ty .mat)) (v : S.zqbj_4_V) : DT (Option Nat × S.zqbj_4_V) :=
let y0 : Bool := xdec (v.t_5_0 < (↑qA.length : Int))
let y1 : Bool := xdec (0 ≤ v.t_5_0)
let y2 : Ty ET.mat := qA.getD v.t_5_0.toNat (dflt ET.mat)
let y3 : Ty ET.mat := qB.getD v.t_5_0.toNat (dflt ET.mat)
(.br (y0)
(.br (y1 && y0)
(.br (y1 && xdec (v.t_5_0 < (↑qB.length : Int)))
(.br (bif xeqI y2.start y3.start && (xeqI y2.fin y3.fin && (xeqI y2.agg y3.agg && xeqB y2.bad y3.bad)) then false else true)
(.leaf (some 0, v))
(.leaf (none, ⟨xwrap IntKind.i64 (v.t_5_0 + 1)⟩)))
.fail)
.fail)
(.leaf (some 1, v)))
def S.zqbj_4_r (qA : List (Ty .mat)) (qB : List (Ty .mat)) (v : S.zqbj_4_V) : Option (Option Nat × S.zqbj_4_V) := (S.zqbj_4_R qA qB v).run
def S.zqbj_4_j (qA : List (Ty .mat)) (qB : List (Ty .mat)) (v : S.zqbj_4_V) (j : Nat) : Bool := Lp_j (S.zqbj_4_r qA qB) v j
def S.zqbj_4_v (qA : List (Ty .mat)) (qB : List (Ty .mat)) (v : S.zqbj_4_V) : S.zqbj_4_V := Lp_v (S.zqbj_4_r qA qB) v
def mk_zqbj_4 (qC : Option Bool) (qD : Bool) (qA : List (Ty .mat)) (qE : Option Bool) (qF : Bool) (qB : List (Ty .mat)) (v : S.zqbj_4_V) : St := ⟨[V.v false [C.d (.sl qC qD ET.mat qA)], V.v false [C.d (.sl qE qF ET.mat qB)], V.any, V.any, V.any, V.v false [C.d (.sc (.int .i64 v.t_5_0))],
  V.any, V.any, V.any, V.any, V.any, V.any, V.any, V.any, V.any, V.any, V.any, V.any, V.any, V.any, V.any, V.any, V.any, V.any, V.any, V.any], [none, none, none, none, none, none, none], 0⟩
def ex_zqbj_4 (qC : Option Bool) (qD : Bool) (qA : List (Ty .mat)) (qE : Option Bool) (qF : Bool) (qB : List (Ty .mat)) (j : Nat) (v : S.zqbj_4_V) : Ex × St := match j with
  | 0 => (Ex.ret, ⟨[V.any, V.any, V.any, V.any, V.v false [C.d (.sc (.bool false))], V.any, V.any, V.any, V.any, V.any, V.any, V.any, V.any, V.any, V.any, V.any, V.any, V.any, V.any, V.any, V.any,
  V.any, V.any, V.any, V.any, V.any], [none, none, none, none, none, none, none, none, none, none, none, none, none, none, none, none, none, none, none, none, none], 0⟩)
  | 1 => (Ex.exit 0, ⟨[V.any, V.any, V.any, V.any, V.any, V.any, V.any, V.any, V.any, V.any, V.any, V.any, V.any, V.any, V.any, V.any, V.any, V.any, V.any, V.any, V.any, V.any, V.any, V.any, V.any,
  V.any], [none, none, none, none, none, none, none, none, none, none, none], 0⟩)
  | _ => (.ret, ⟨[], [], 0⟩)
def T1_zqbj_4 : V → V → V → Tree
  | V.v false [C.d (.sl qC qD ET.mat qA)], V.v false [C.d (.sl qE qF ET.mat qB)], V.v false [C.d (.sc (.int .i64 t_5_0))] => exT (fun j => ex_zqbj_4 qC qD qA qE qF qB j (S.zqbj_4_v qA qB ⟨t_5_0⟩)) (S.zqbj_4_j qA qB ⟨t_5_0⟩) [0, 1]
  | _, _, _ => .bad
def T_zqbj_4 (st : St) : Tree := bif okSt 26 7 0 [] st then T1_zqbj_4 (st.env.getD 0 .any) (st.env.getD 1 .any) (st.env.getD 5 .any) else .bad
def b_zqbj_4 : Code := loopBy Try.f74 4
theorem rnd_zqbj_4 (qC : Option Bool) (qD : Bool) (qA : List (Ty .mat)) (qE : Option Bool) (qF : Bool) (qB : List (Ty .mat)) (v : S.zqbj_4_V) : round2 cx_zqbj (hdI cx_zqbj (find []) [] none 0) 74 b_zqbj_4 [] 7 [4] (mk_zqbj_4 qC qD qA qE qF qB v) = (S.zqbj_4_R qA qB v).go (roundOut (mk_zqbj_4 qC qD qA qE qF qB) (ex_zqbj_4 qC qD qA qE qF qB)) := by kernel_rfl
theorem bs_zqbj_4 : loopsOf b_zqbj_4 ++ loopsInl [] = [] := by kernel_rfl
theorem ci_zqbj_4 (qC : Option Bool) (qD : Bool) (qA : List (Ty .mat)) (qE : Option Bool) (qF : Bool) (qB : List (Ty .mat)) : ∀ v j v2, Lp (S.zqbj_4_r qA qB) v = some (j, v2) → Circles Try.prog cx_zqbj b_zqbj_4 (mk_zqbj_4 qC qD qA qE qF qB v) (ex_zqbj_4 qC qD qA qE qF qB j v2).1 (ex_zqbj_4 qC qD qA qE qF qB j v2).2 :=
  loop_ok2 (L := find []) (n := 0) (hints := [(74, 4, { keep := [0, 1, 5], acc := [] })]) (cx_ok rfl) rdy_zqbj bs_zqbj_4 nilB (fun v => (rnd_zqbj_4 qC qD qA qE qF qB v).trans (DT.go_run _ _)) (by intro j v; unfold ex_zqbj_4; split <;> rfl)
theorem mke_zqbj_4 (qC : Option Bool) (qD : Bool) (qA : List (Ty .mat)) (qE : Option Bool) (qF : Bool) (qB : List (Ty .mat)) (v : S.zqbj_4_V) : mk_zqbj_4 qC qD qA qE qF qB v = ⟨envOf 26 [(0, V.v false [C.d (.sl qC qD ET.mat qA)]), (1, V.v false [C.d (.sl qE qF ET.mat qB)]), (5, V.v false [C.d (.sc (.int .i64 v.t_5_0))])], heapOf 7 [], 0⟩ := by kernel_rfl
theorem lo1_zqbj_4 (e0 : V) (e1 : V) (e5 : V)  e st2 (h : (T1_zqbj_4 e0 e1 e5).eval = some (e, st2)) : Circles Try.prog cx_zqbj b_zqbj_4 ⟨envOf 26 [(0, e0), (1, e1), (5, e5)], heapOf 7 [], 0⟩ e st2 := by
  unfold T1_zqbj_4 at h
  split at h
  · have := loop_tree (mk := mk_zqbj_4 _ _ _ _ _ _) (ci_zqbj_4 _ _ _ _ _ _) _ _ e st2 h
    rw [mke_zqbj_4] at this
    exact this
  · cases h
theorem lok_zqbj_4 : LoopOk Try.prog cx_zqbj b_zqbj_4 T_zqbj_4 := by
  intro st e st2 h
  unfold T_zqbj_4 at h
  cases hk : okSt 26 7 0 [] st with
  | false => rw [hk] at h; cases h
  | true =>
    rw [hk] at h
    exact circles_keep (ks := [0, 1, 5]) hk (lo1_zqbj_4 _ _ _ e st2 h)
structure S.zqbj_T where
  x0 : Bool
  deriving Inhabited
def S.zqbj_R (a0 : List (Ty .mat)) (a1 : List (Ty .mat)) : DT S.zqbj_T :=
let y0 : S.zqbj_4_V := { t_5_0 := 0 : S.zqbj_4_V }
(.br (xneI (↑a0.length : Int) (↑a1.length : Int))
(.leaf ⟨false⟩)
(.br (S.zqbj_4_j a0 a1 y0 0)
(.leaf ⟨false⟩)
(.br (S.zqbj_4_j a0 a1 y0 1)
(.leaf ⟨true⟩)
.fail)))
def S.zqbj (a0 : List (Ty .mat)) (a1 : List (Ty .mat)) : Option S.zqbj_T := (S.zqbj_R a0 a1).run
def S.zqbj_is (a0 : List (Ty .mat)) (a1 : List (Ty .mat)) : Bool := (S.zqbj a0 a1).isSome
def S.zqbj_o (a0 : List (Ty .mat)) (a1 : List (Ty .mat)) : S.zqbj_T := (S.zqbj a0 a1).getD default
def ret_zqbj (b : Bool) (r : S.zqbj_T) : Ret := ⟨b, none, [(false, [C.d (.sc (.bool r.x0))])]⟩
def g_zqbj : Con
  | [(false, [.sl a0n a0f .mat a0]), (false, [.sl a1n a1f .mat a1])] => some (ret_zqbj (S.zqbj_is a0 a1) (S.zqbj_o a0 a1))
  | _ => none
theorem raw_zqbj (a0n : Option Bool) (a0f : Bool) (a0 : List (Ty .mat)) (a1n : Option Bool) (a1f : Bool) (a1 : List (Ty .mat)) : evR2 cx_zqbj (hdI cx_zqbj (find [(4, T_zqbj_4)]) [] none 0) none Try.f74 74 none [(false, [.sl a0n a0f .mat a0]), (false, [.sl a1n a1f .mat a1])] some = (S.zqbj_R a0 a1).go (ret_zqbj true) := by kernel_rfl
theorem bs_zqbj : loopsIn Try.f74 [] = [b_zqbj_4] := by kernel_rfl
theorem zqbj_ok : Stands Try.prog tyTab 74 g_zqbj := by
  refine stands3 (L := find [(4, T_zqbj_4)]) (n := 0) (hints := [(74, 4, { keep := [0, 1, 5], acc := [] })]) (cx_ok rfl) rdy_zqbj ⟨by kernel_rfl, by kernel_rfl, by kernel_rfl⟩ bs_zqbj (consB (fun T h => by have e : T_zqbj_4 = T := Option.some.inj (show some T_zqbj_4 = some T from h); exact e ▸ lok_zqbj_4) nilB) (fun das r hG hr => ?_)
  unfold g_zqbj at hG
  split at hG
  · rename_i a0n a0f a0 a1n a1f a1
    injection hG with hG; subst hG
    exact ⟨none, true, win default ((raw_zqbj a0n a0f a0 a1n a1f a1).trans (DT.go_run _ _)) hr⟩
  · cases hG
end
end Go.Eng
