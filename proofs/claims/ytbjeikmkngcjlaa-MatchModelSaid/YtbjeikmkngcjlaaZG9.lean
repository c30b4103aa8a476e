/- Contracts, laid by program. -/
import Derived.Test.YtbjeikmkngcjlaaZG8
set_option maxHeartbeats 2000000
set_option maxRecDepth 10000
set_option linter.unusedVariables false
namespace Go.Eng
noncomputable section
open Go Go.Eng Go.Proofs Go.Eng.Tab
abbrev cx_z2j4 : Cx := mkCx2 tyTab [] [] [(74, 4, { keep := [0, 1, 5], acc := [] })] []
theorem rdy_z2j4 : Ready Try.prog tyTab [] [] [] := ⟨noneG2, noneI2, noneF2⟩
structure S.z2j4_4_V where
 t5_ : Int
def S.z2j4_4_R (qA : List (Ty .mat)) (qB : List (Ty .mat)) (v : S.z2j4_4_V) : DT (Option Nat × S.z2j4_4_V) :=
let y0 : Bool := xdec (v.t5_ < (↑qA.length : Int))
let y1 : Bool := xdec (0 ≤ v.t5_)
let y2 : Ty .mat := qA.getD v.t5_.toNat (dflt .mat)
let y3 : Ty .mat := qB.getD v.t5_.toNat (dflt .mat)
(.br (y0)
(.br (y1 && y0)
(.br (y1 && xdec (v.t5_ < (↑qB.length : Int)))
(.br (bif xeqI y2.start y3.start && (xeqI y2.fin y3.fin && (xeqI y2.agg y3.agg && xeqB y2.bad y3.bad)) then false else true)
(.leaf (some 0, v))
(.leaf (none, ⟨xwrap .i64 (v.t5_ + 1)⟩)))
.fail)
.fail)
(.leaf (some 1, v)))
def S.z2j4_4_r (qA : List (Ty .mat)) (qB : List (Ty .mat)) (v : S.z2j4_4_V) : Option (Option Nat × S.z2j4_4_V) := (S.z2j4_4_R qA qB v).run
def S.z2j4_4_j (qA : List (Ty .mat)) (qB : List (Ty .mat)) (v : S.z2j4_4_V) (j : Nat) : Bool := Lp_j (S.z2j4_4_r qA qB) v j
def S.z2j4_4_v (qA : List (Ty .mat)) (qB : List (Ty .mat)) (v : S.z2j4_4_V) : S.z2j4_4_V := Lp_v (S.z2j4_4_r qA qB) v
def mk_z2j4_4 (qC : Option Bool) (qD : Bool) (qA : List (Ty .mat)) (qE : Option Bool) (qF : Bool) (qB : List (Ty .mat)) (v : S.z2j4_4_V) : St := ⟨(V.v false [C.d (.sl qC qD .mat qA)] :: (V.v false [C.d (.sl qE qF .mat qB)] :: (vs 3 ((cV v.t5_) :: (vs 20 []))))), (ns 7 []), 0⟩
def ex_z2j4_4 (qC : Option Bool) (qD : Bool) (qA : List (Ty .mat)) (qE : Option Bool) (qF : Bool) (qB : List (Ty .mat)) (j : Nat) (v : S.z2j4_4_V) : Ex × St := match j with
 | 0 => (Ex.ret, ⟨(vs 4 (V.v false [C.d (.sc (.bool false))] :: (vs 21 []))), (ns 21 []), 0⟩)
 | 1 => (Ex.exit 0, ⟨(vs 26 []), (ns 11 []), 0⟩)
 | _ => (.ret, ⟨[], [], 0⟩)
def T1_z2j4_4 : V → V → V → Tree
 | V.v false [C.d (.sl qC qD .mat qA)], V.v false [C.d (.sl qE qF .mat qB)], V.v false [C.d (.sc (.int .i64 t5_))] => exT (fun j => ex_z2j4_4 qC qD qA qE qF qB j (S.z2j4_4_v qA qB ⟨t5_⟩)) (S.z2j4_4_j qA qB ⟨t5_⟩) [0, 1]
 | _, _, _ => .bad
def T_z2j4_4 (st : St) : Tree := bif okSt 26 7 0 [] st then T1_z2j4_4 (st.env.getD 0 .any) (st.env.getD 1 .any) (st.env.getD 5 .any) else .bad
def b_z2j4_4 : Code := loopBy Try.f74 4
theorem rnd_z2j4_4 (qC : Option Bool) (qD : Bool) (qA : List (Ty .mat)) (qE : Option Bool) (qF : Bool) (qB : List (Ty .mat)) (v : S.z2j4_4_V) : round2 cx_z2j4 (hdI cx_z2j4 (find []) [] none 0) 74 b_z2j4_4 [] 7 [4] (mk_z2j4_4 qC qD qA qE qF qB v) = (S.z2j4_4_R qA qB v).go (roundOut (mk_z2j4_4 qC qD qA qE qF qB) (ex_z2j4_4 qC qD qA qE qF qB)) := by kernel_rfl
theorem bs_z2j4_4 : loopsOf b_z2j4_4 ++ loopsInl [] = [] := by kernel_rfl
theorem ci_z2j4_4 (qC : Option Bool) (qD : Bool) (qA : List (Ty .mat)) (qE : Option Bool) (qF : Bool) (qB : List (Ty .mat)) : ∀ v j v2, Lp (S.z2j4_4_r qA qB) v = some (j, v2) → Circles Try.prog cx_z2j4 b_z2j4_4 (mk_z2j4_4 qC qD qA qE qF qB v) (ex_z2j4_4 qC qD qA qE qF qB j v2).1 (ex_z2j4_4 qC qD qA qE qF qB j v2).2 :=
 loop_ok2 (L := find []) (n := 0) (hints := [(74, 4, { keep := [0, 1, 5], acc := [] })]) (cx_ok rfl) rdy_z2j4 bs_z2j4_4 nilB (fun v => (rnd_z2j4_4 qC qD qA qE qF qB v).trans (DT.go_run _ _)) (by intro j v; unfold ex_z2j4_4; split <;> rfl)
theorem mke_z2j4_4 (qC : Option Bool) (qD : Bool) (qA : List (Ty .mat)) (qE : Option Bool) (qF : Bool) (qB : List (Ty .mat)) (v : S.z2j4_4_V) : mk_z2j4_4 qC qD qA qE qF qB v = ⟨envOf 26 [(0, V.v false [C.d (.sl qC qD .mat qA)]), (1, V.v false [C.d (.sl qE qF .mat qB)]), (5, (cV v.t5_))], heapOf 7 [], 0⟩ := by kernel_rfl
theorem lo1_z2j4_4 (e0 : V) (e1 : V) (e5 : V)  e st2 (h : (T1_z2j4_4 e0 e1 e5).eval = some (e, st2)) : Circles Try.prog cx_z2j4 b_z2j4_4 ⟨envOf 26 [(0, e0), (1, e1), (5, e5)], heapOf 7 [], 0⟩ e st2 := by
 unfold T1_z2j4_4 at h
 split at h
 ·have := loop_tree (mk := mk_z2j4_4 _ _ _ _ _ _) (ci_z2j4_4 _ _ _ _ _ _) _ _ e st2 h
  rw [mke_z2j4_4] at this
  exact this
 ·cases h
theorem lok_z2j4_4 : LoopOk Try.prog cx_z2j4 b_z2j4_4 T_z2j4_4 := by
 intro st e st2 h
 unfold T_z2j4_4 at h
 cases hk : okSt 26 7 0 [] st with
 | false => rw [hk] at h; cases h
 | true =>
  rw [hk] at h
  exact circles_keep (ks := [0, 1, 5]) hk (lo1_z2j4_4 _ _ _ e st2 h)
structure S.z2j4_T where
 x0 : Bool
 deriving Inhabited
def S.z2j4_R (a0 : List (Ty .mat)) (a1 : List (Ty .mat)) : DT S.z2j4_T :=
let y0 : S.z2j4_4_V := { t5_ := 0 : S.z2j4_4_V }
(.br (xneI (↑a0.length : Int) (↑a1.length : Int))
(.leaf ⟨false⟩)
(.br (S.z2j4_4_j a0 a1 y0 0)
(.leaf ⟨false⟩)
(.br (S.z2j4_4_j a0 a1 y0 1)
(.leaf ⟨true⟩)
.fail)))
def S.z2j4 (a0 : List (Ty .mat)) (a1 : List (Ty .mat)) : Option S.z2j4_T := (S.z2j4_R a0 a1).run
def S.z2j4_is (a0 : List (Ty .mat)) (a1 : List (Ty .mat)) : Bool := (S.z2j4 a0 a1).isSome
def S.z2j4_o (a0 : List (Ty .mat)) (a1 : List (Ty .mat)) : S.z2j4_T := (S.z2j4 a0 a1).getD default
def ret_z2j4 (b : Bool) (r : S.z2j4_T) : Ret := ⟨b, none, [(false, [C.d (.sc (.bool r.x0))])]⟩
def g_z2j4 : Con
 | [(false, [.sl a0n a0f .mat a0]), (false, [.sl a1n a1f .mat a1])] => some (ret_z2j4 (S.z2j4_is a0 a1) (S.z2j4_o a0 a1))
 | _ => none
theorem raw_z2j4 (a0n : Option Bool) (a0f : Bool) (a0 : List (Ty .mat)) (a1n : Option Bool) (a1f : Bool) (a1 : List (Ty .mat)) : evR2 cx_z2j4 (hdI cx_z2j4 (find [(4, T_z2j4_4)]) [] none 0) none Try.f74 74 none [(false, [.sl a0n a0f .mat a0]), (false, [.sl a1n a1f .mat a1])] some = (S.z2j4_R a0 a1).go (ret_z2j4 true) := by kernel_rfl
theorem bs_z2j4 : loopsIn Try.f74 [] = [b_z2j4_4] := by kernel_rfl
theorem z2j4_ok : Stands Try.prog tyTab 74 g_z2j4 := by
 refine stands3 (L := find [(4, T_z2j4_4)]) (n := 0) (hints := [(74, 4, { keep := [0, 1, 5], acc := [] })]) (cx_ok rfl) rdy_z2j4 ⟨by kernel_rfl, by kernel_rfl, by kernel_rfl⟩ bs_z2j4 (consB (fun T h => by have e : T_z2j4_4 = T := Option.some.inj (show some T_z2j4_4 = some T from h); exact e ▸ lok_z2j4_4) nilB) (fun das r hG hr => ?_)
 unfold g_z2j4 at hG
 split at hG
 ·rename_i a0n a0f a0 a1n a1f a1
  injection hG with hG; subst hG
  exact ⟨none, true, win default ((raw_z2j4 a0n a0f a0 a1n a1f a1).trans (DT.go_run _ _)) hr⟩
 ·cases hG
end
end Go.Eng
