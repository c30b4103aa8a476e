/- Contracts, laid by program. -/
import Derived.Test.YtbjeikmkngcjlaaZG5
set_option linter.unusedVariables false
set_option linter.unusedSimpArgs false
namespace Go.Eng
noncomputable section
open Go Go.Eng Go.Proofs Go.Eng.Tab
abbrev cx_zqbs : Cx := mkCx2 tyTab [(36, g_zqbo)] [] [(60, 4, { keep := [0, 5], acc := [] })] []
theorem rdy_zqbs : Ready Try.prog tyTab [(36, g_zqbo)] [] [] := ⟨consG2 zqbo_ok (noneG2), noneI2, noneF2⟩
structure S.zqbs_4_V where
  t_5_0 : Int
def S.zqbs_4_R (qA : List (Ty .evt)) (v : S.zqbs_4_V) : DT (Option Nat × S.zqbs_4_V) :=
let y0 : Bool := xdec (v.t_5_0 < (↑qA.length : Int))
let y1 : Ty ET.evt := qA.getD v.t_5_0.toNat (dflt ET.evt)
let y2 : ByteArray := y1.name
let y3 : List Val := y1.v
(.br (y0)
(.br (xdec (0 ≤ v.t_5_0) && y0)
(.br (S.zqbo_is y2 y3)
(.br (xnot (S.zqbo_o y2 y3).x0)
(.leaf (some 0, v))
(.leaf (none, ⟨xwrap IntKind.i64 (v.t_5_0 + 1)⟩)))
.fail)
.fail)
(.leaf (some 1, v)))
def S.zqbs_4_r (qA : List (Ty .evt)) (v : S.zqbs_4_V) : Option (Option Nat × S.zqbs_4_V) := (S.zqbs_4_R qA v).run
def S.zqbs_4_j (qA : List (Ty .evt)) (v : S.zqbs_4_V) (j : Nat) : Bool := Lp_j (S.zqbs_4_r qA) v j
def S.zqbs_4_v (qA : List (Ty .evt)) (v : S.zqbs_4_V) : S.zqbs_4_V := Lp_v (S.zqbs_4_r qA) v
def mk_zqbs_4 (qB : Option Bool) (qC : Bool) (qA : List (Ty .evt)) (v : S.zqbs_4_V) : St := ⟨[V.v false [C.d (.sl qB qC ET.evt qA)], V.any, V.any, V.any, V.any, V.v false [C.d (.sc (.int .i64 v.t_5_0))], V.any, V.any, V.any, V.any, V.any, V.any,
  V.any, V.any, V.any, V.any, V.any, V.any, V.any, V.any, V.any, V.any, V.any, V.any], [none, none, none, none, none, none], 0⟩
def ex_zqbs_4 (qB : Option Bool) (qC : Bool) (qA : List (Ty .evt)) (j : Nat) (v : S.zqbs_4_V) : Ex × St := match j with
  | 0 => (Ex.ret, ⟨[V.any, V.any, V.any, V.any, V.v false [C.d (.sc (.bool false))], V.any, V.any, V.any, V.any, V.any, V.any, V.any, V.any, V.any, V.any, V.any, V.any, V.any, V.any, V.any, V.any,
  V.any, V.any, V.any], [none, none, none, none, none, none, none, none, none, none, none, none, none, none, none, none, none, none, none], 0⟩)
  | 1 => (Ex.exit 0, ⟨[V.any, V.any, V.any, V.any, V.any, V.any, V.any, V.any, V.any, V.any, V.any, V.any, V.any, V.any, V.any, V.any, V.any, V.any, V.any, V.any, V.any, V.any, V.any, V.any], [none, none, none, none, none, none, none, none, none, none], 0⟩)
  | _ => (.ret, ⟨[], [], 0⟩)
def T1_zqbs_4 : V → V → Tree
  | V.v false [C.d (.sl qB qC ET.evt qA)], V.v false [C.d (.sc (.int .i64 t_5_0))] => exT (fun j => ex_zqbs_4 qB qC qA j (S.zqbs_4_v qA ⟨t_5_0⟩)) (S.zqbs_4_j qA ⟨t_5_0⟩) [0, 1]
  | _, _ => .bad
def T_zqbs_4 (st : St) : Tree := bif okSt 24 6 0 [] st then T1_zqbs_4 (st.env.getD 0 .any) (st.env.getD 5 .any) else .bad
def b_zqbs_4 : Code := loopBy Try.f60 4
theorem rnd_zqbs_4 (qB : Option Bool) (qC : Bool) (qA : List (Ty .evt)) (v : S.zqbs_4_V) : round2 cx_zqbs (hdI cx_zqbs (find []) [] none 0) 60 b_zqbs_4 [] 6 [4] (mk_zqbs_4 qB qC qA v) = (S.zqbs_4_R qA v).go (roundOut (mk_zqbs_4 qB qC qA) (ex_zqbs_4 qB qC qA)) := by kernel_rfl
theorem bs_zqbs_4 : loopsOf b_zqbs_4 ++ loopsInl [] = [] := by kernel_rfl
theorem ci_zqbs_4 (qB : Option Bool) (qC : Bool) (qA : List (Ty .evt)) : ∀ v j v2, Lp (S.zqbs_4_r qA) v = some (j, v2) → Circles Try.prog cx_zqbs b_zqbs_4 (mk_zqbs_4 qB qC qA v) (ex_zqbs_4 qB qC qA j v2).1 (ex_zqbs_4 qB qC qA j v2).2 :=
  loop_ok2 (L := find []) (n := 0) (hints := [(60, 4, { keep := [0, 5], acc := [] })]) (cx_ok rfl) rdy_zqbs bs_zqbs_4 nilB (fun v => (rnd_zqbs_4 qB qC qA v).trans (DT.go_run _ _)) (by intro j v; unfold ex_zqbs_4; split <;> rfl)
theorem mke_zqbs_4 (qB : Option Bool) (qC : Bool) (qA : List (Ty .evt)) (v : S.zqbs_4_V) : mk_zqbs_4 qB qC qA v = ⟨envOf 24 [(0, V.v false [C.d (.sl qB qC ET.evt qA)]), (5, V.v false [C.d (.sc (.int .i64 v.t_5_0))])], heapOf 6 [], 0⟩ := by kernel_rfl
theorem lo1_zqbs_4 (e0 : V) (e5 : V)  e st2 (h : (T1_zqbs_4 e0 e5).eval = some (e, st2)) : Circles Try.prog cx_zqbs b_zqbs_4 ⟨envOf 24 [(0, e0), (5, e5)], heapOf 6 [], 0⟩ e st2 := by
  unfold T1_zqbs_4 at h
  split at h
  · have := loop_tree (mk := mk_zqbs_4 _ _ _) (ci_zqbs_4 _ _ _) _ _ e st2 h
    rw [mke_zqbs_4] at this
    exact this
  · cases h
theorem lok_zqbs_4 : LoopOk Try.prog cx_zqbs b_zqbs_4 T_zqbs_4 := by
  intro st e st2 h
  unfold T_zqbs_4 at h
  cases hk : okSt 24 6 0 [] st with
  | false => rw [hk] at h; cases h
  | true =>
    rw [hk] at h
    exact circles_keep (ks := [0, 5]) hk (lo1_zqbs_4 _ _ e st2 h)
structure S.zqbs_T where
  x0 : Bool
  deriving Inhabited
def S.zqbs_R (a0 : List (Ty .evt)) (a1 : Int) : DT S.zqbs_T :=
let y0 : S.zqbs_4_V := { t_5_0 := 0 : S.zqbs_4_V }
(.br (xdec ((↑a0.length : Int) > a1))
(.leaf ⟨false⟩)
(.br (S.zqbs_4_j a0 y0 0)
(.leaf ⟨false⟩)
(.br (S.zqbs_4_j a0 y0 1)
(.leaf ⟨true⟩)
.fail)))
def S.zqbs (a0 : List (Ty .evt)) (a1 : Int) : Option S.zqbs_T := (S.zqbs_R a0 a1).run
def S.zqbs_is (a0 : List (Ty .evt)) (a1 : Int) : Bool := (S.zqbs a0 a1).isSome
def S.zqbs_o (a0 : List (Ty .evt)) (a1 : Int) : S.zqbs_T := (S.zqbs a0 a1).getD default
def ret_zqbs (b : Bool) (r : S.zqbs_T) : Ret := ⟨b, none, [(false, [C.d (.sc (.bool r.x0))])]⟩
def g_zqbs : Con
  | [(false, [.sl a0n a0f .evt a0]), (false, [.sc (.int .i64 a1)])] => some (ret_zqbs (S.zqbs_is a0 a1) (S.zqbs_o a0 a1))
  | _ => none
theorem raw_zqbs (a0n : Option Bool) (a0f : Bool) (a0 : List (Ty .evt)) (a1 : Int) : evR2 cx_zqbs (hdI cx_zqbs (find [(4, T_zqbs_4)]) [] none 0) none Try.f60 60 none [(false, [.sl a0n a0f .evt a0]), (false, [.sc (.int .i64 a1)])] some = (S.zqbs_R a0 a1).go (ret_zqbs true) := by kernel_rfl
theorem bs_zqbs : loopsIn Try.f60 [] = [b_zqbs_4] := by kernel_rfl
theorem zqbs_ok : Stands Try.prog tyTab 60 g_zqbs := by
  refine stands3 (L := find [(4, T_zqbs_4)]) (n := 0) (hints := [(60, 4, { keep := [0, 5], acc := [] })]) (cx_ok rfl) rdy_zqbs ⟨by kernel_rfl, by kernel_rfl, by kernel_rfl⟩ bs_zqbs (consB (fun T h => by have e : T_zqbs_4 = T := Option.some.inj (show some T_zqbs_4 = some T from h); exact e ▸ lok_zqbs_4) nilB) (fun das r hG hr => ?_)
  unfold g_zqbs at hG
  split at hG
  · rename_i a0n a0f a0 a1
    injection hG with hG; subst hG
    exact ⟨none, true, win default ((raw_zqbs a0n a0f a0 a1).trans (DT.go_run _ _)) hr⟩
  · cases hG
end
end Go.Eng
