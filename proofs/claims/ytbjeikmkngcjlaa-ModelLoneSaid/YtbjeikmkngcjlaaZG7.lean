/- Contracts, laid by program. -/
import Derived.Test.YtbjeikmkngcjlaaZG5
set_option linter.unusedVariables false
namespace Go.Eng
noncomputable section
open Go Go.Eng Go.Proofs Go.Eng.Tab
abbrev cx_zgwp : Cx := mkCx2 tyTab [(36, g_z6c2)] [] [(60, 4, { keep := [0, 5], acc := [] })] []
theorem rdy_zgwp : Ready Try.prog tyTab [(36, g_z6c2)] [] [] := ⟨consG2 z6c2_ok (noneG2), noneI2, noneF2⟩
structure S.zgwp_4_V where
 t5_ : Int
def S.zgwp_4_R (qA : List (Ty .evt)) (v : S.zgwp_4_V) : DT (Option Nat × S.zgwp_4_V) :=
let y0 : Bool := xdec (v.t5_ < (↑qA.length : Int))
let y1 : Ty .evt := qA.getD v.t5_.toNat (dflt .evt)
let y2 : ByteArray := y1.name
let y3 : List Val := y1.v
(.br (y0)
(.br (xdec (0 ≤ v.t5_) && y0)
(.br (S.z6c2_is y2 y3)
(.br (xnot (S.z6c2_o y2 y3).x0)
(.leaf (some 0, v))
(.leaf (none, ⟨xwrap .i64 (v.t5_ + 1)⟩)))
.fail)
.fail)
(.leaf (some 1, v)))
def S.zgwp_4_r (qA : List (Ty .evt)) (v : S.zgwp_4_V) : Option (Option Nat × S.zgwp_4_V) := (S.zgwp_4_R qA v).run
def S.zgwp_4_j (qA : List (Ty .evt)) (v : S.zgwp_4_V) (j : Nat) : Bool := Lp_j (S.zgwp_4_r qA) v j
def S.zgwp_4_v (qA : List (Ty .evt)) (v : S.zgwp_4_V) : S.zgwp_4_V := Lp_v (S.zgwp_4_r qA) v
def mk_zgwp_4 (qB : Option Bool) (qC : Bool) (qA : List (Ty .evt)) (v : S.zgwp_4_V) : St := ⟨(V.v false [C.d (.sl qB qC .evt qA)] :: (vs 4 ((cV v.t5_) :: (vs 18 [])))), (ns 6 []), 0⟩
def ex_zgwp_4 (qB : Option Bool) (qC : Bool) (qA : List (Ty .evt)) (j : Nat) (v : S.zgwp_4_V) : Ex × St := match j with
 | 0 => (Ex.ret, ⟨(vs 4 (V.v false [C.d (.sc (.bool false))] :: (vs 19 []))), (ns 19 []), 0⟩)
 | 1 => (Ex.exit 0, ⟨(vs 24 []), (ns 10 []), 0⟩)
 | _ => (.ret, ⟨[], [], 0⟩)
def T1_zgwp_4 : V → V → Tree
 | V.v false [C.d (.sl qB qC .evt qA)], V.v false [C.d (.sc (.int .i64 t5_))] => exT (fun j => ex_zgwp_4 qB qC qA j (S.zgwp_4_v qA ⟨t5_⟩)) (S.zgwp_4_j qA ⟨t5_⟩) [0, 1]
 | _, _ => .bad
def T_zgwp_4 (st : St) : Tree := bif okSt 24 6 0 [] st then T1_zgwp_4 (st.env.getD 0 .any) (st.env.getD 5 .any) else .bad
def b_zgwp_4 : Code := loopBy Try.f60 4
theorem rnd_zgwp_4 (qB : Option Bool) (qC : Bool) (qA : List (Ty .evt)) (v : S.zgwp_4_V) : round2 cx_zgwp (hdI cx_zgwp (find []) [] none 0) 60 b_zgwp_4 [] 6 [4] (mk_zgwp_4 qB qC qA v) = (S.zgwp_4_R qA v).go (roundOut (mk_zgwp_4 qB qC qA) (ex_zgwp_4 qB qC qA)) := by kernel_rfl
theorem bs_zgwp_4 : loopsOf b_zgwp_4 ++ loopsInl [] = [] := by kernel_rfl
theorem ci_zgwp_4 (qB : Option Bool) (qC : Bool) (qA : List (Ty .evt)) : ∀ v j v2, Lp (S.zgwp_4_r qA) v = some (j, v2) → Circles Try.prog cx_zgwp b_zgwp_4 (mk_zgwp_4 qB qC qA v) (ex_zgwp_4 qB qC qA j v2).1 (ex_zgwp_4 qB qC qA j v2).2 :=
 loop_ok2 (L := find []) (n := 0) (hints := [(60, 4, { keep := [0, 5], acc := [] })]) (cx_ok rfl) rdy_zgwp bs_zgwp_4 nilB (fun v => (rnd_zgwp_4 qB qC qA v).trans (DT.go_run _ _)) (by intro j v; unfold ex_zgwp_4; split <;> rfl)
theorem mke_zgwp_4 (qB : Option Bool) (qC : Bool) (qA : List (Ty .evt)) (v : S.zgwp_4_V) : mk_zgwp_4 qB qC qA v = ⟨envOf 24 [(0, V.v false [C.d (.sl qB qC .evt qA)]), (5, (cV v.t5_))], heapOf 6 [], 0⟩ := by kernel_rfl
theorem lo1_zgwp_4 (e0 : V) (e5 : V)  e st2 (h : (T1_zgwp_4 e0 e5).eval = some (e, st2)) : Circles Try.prog cx_zgwp b_zgwp_4 ⟨envOf 24 [(0, e0), (5, e5)], heapOf 6 [], 0⟩ e st2 := by
 unfold T1_zgwp_4 at h
 split at h
 ·have := loop_tree (mk := mk_zgwp_4 _ _ _) (ci_zgwp_4 _ _ _) _ _ e st2 h
  rw [mke_zgwp_4] at this
  exact this
 ·cases h
theorem lok_zgwp_4 : LoopOk Try.prog cx_zgwp b_zgwp_4 T_zgwp_4 := by
 intro st e st2 h
 unfold T_zgwp_4 at h
 cases hk : okSt 24 6 0 [] st with
 | false => rw [hk] at h; cases h
 | true =>
  rw [hk] at h
  exact circles_keep (ks := [0, 5]) hk (lo1_zgwp_4 _ _ e st2 h)
structure S.zgwp_T where
 x0 : Bool
 deriving Inhabited
def S.zgwp_R (a0 : List (Ty .evt)) (a1 : Int) : DT S.zgwp_T :=
let y0 : S.zgwp_4_V := { t5_ := 0 : S.zgwp_4_V }
(.br (xdec ((↑a0.length : Int) > a1))
(.leaf ⟨false⟩)
(.br (S.zgwp_4_j a0 y0 0)
(.leaf ⟨false⟩)
(.br (S.zgwp_4_j a0 y0 1)
(.leaf ⟨true⟩)
.fail)))
def S.zgwp (a0 : List (Ty .evt)) (a1 : Int) : Option S.zgwp_T := (S.zgwp_R a0 a1).run
def S.zgwp_is (a0 : List (Ty .evt)) (a1 : Int) : Bool := (S.zgwp a0 a1).isSome
def S.zgwp_o (a0 : List (Ty .evt)) (a1 : Int) : S.zgwp_T := (S.zgwp a0 a1).getD default
def ret_zgwp (b : Bool) (r : S.zgwp_T) : Ret := ⟨b, none, [(false, [C.d (.sc (.bool r.x0))])]⟩
def g_zgwp : Con
 | [(false, [.sl a0n a0f .evt a0]), (false, [.sc (.int .i64 a1)])] => some (ret_zgwp (S.zgwp_is a0 a1) (S.zgwp_o a0 a1))
 | _ => none
theorem raw_zgwp (a0n : Option Bool) (a0f : Bool) (a0 : List (Ty .evt)) (a1 : Int) : evR2 cx_zgwp (hdI cx_zgwp (find [(4, T_zgwp_4)]) [] none 0) none Try.f60 60 none [(false, [.sl a0n a0f .evt a0]), (false, [.sc (.int .i64 a1)])] some = (S.zgwp_R a0 a1).go (ret_zgwp true) := by kernel_rfl
theorem bs_zgwp : loopsIn Try.f60 [] = [b_zgwp_4] := by kernel_rfl
theorem zgwp_ok : Stands Try.prog tyTab 60 g_zgwp := by
 refine stands3 (L := find [(4, T_zgwp_4)]) (n := 0) (hints := [(60, 4, { keep := [0, 5], acc := [] })]) (cx_ok rfl) rdy_zgwp ⟨by kernel_rfl, by kernel_rfl, by kernel_rfl⟩ bs_zgwp (consB (fun T h => by have e : T_zgwp_4 = T := Option.some.inj (show some T_zgwp_4 = some T from h); exact e ▸ lok_zgwp_4) nilB) (fun das r hG hr => ?_)
 unfold g_zgwp at hG
 split at hG
 ·rename_i a0n a0f a0 a1
  injection hG with hG; subst hG
  exact ⟨none, true, win default ((raw_zgwp a0n a0f a0 a1).trans (DT.go_run _ _)) hr⟩
 ·cases hG
end
end Go.Eng
