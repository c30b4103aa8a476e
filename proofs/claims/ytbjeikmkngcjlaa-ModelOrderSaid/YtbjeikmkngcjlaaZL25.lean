/- Contracts, laid by program. -/
import Derived.Test.YtbjeikmkngcjlaaZG13
set_option linter.unusedVariables false
set_option linter.unusedSimpArgs false
namespace Go.Eng
noncomputable section
open Go Go.Eng Go.Proofs Go.Eng.Tab
abbrev cx_zq2d : Cx := mkCx2 tyTab [(50, g_zydq), (60, g_zgwp), (72, g_zkyx), (73, g_all2), (74, g_z2j4)] [] [(25, 9, { keep := [1, 12, 13, 14], acc := [] })] []
theorem rdy_zq2d : Ready Try.prog tyTab [(50, g_zydq), (60, g_zgwp), (72, g_zkyx), (73, g_all2), (74, g_z2j4)] [] [] := ⟨consG2 zydq_ok (consG2 zgwp_ok (consG2 zkyx_ok (consG2 all2_ok (consG2 z2j4_ok (noneG2))))), noneI2, noneF2⟩
structure S.zq2d_9_V where
 t14_ : Int
def S.zq2d_9_R (qA : List (Ty .evt)) (t12_l : Nat) (h_35 : List (Ty .mat)) (v : S.zq2d_9_V) : DT (Option Nat × S.zq2d_9_V) :=
let y0 : Int := (↑t12_l : Int)
let y1 : Bool := xdec (v.t14_ < y0)
let y2 : Bool := xdec (0 ≤ v.t14_) && y1
let y3 : Nat := 0 + v.t14_.toNat
let y4 : Nat := h_35.length
let y5 : Bool := xdec (y3 < y4)
let y6 : Ty .mat := h_35.getD y3 (dflt .mat)
let y7 : Int := y6.start
let y8 : Int := y6.fin
let y9 : Int := xwrap .i64 (v.t14_ - 1)
let y10 : Bool := xdec (0 ≤ y9) && xdec (y9 < y0)
let y11 : Nat := 0 + y9.toNat
let y12 : Bool := xdec (y11 < y4)
let y13 : Ty .mat := h_35.getD y11 (dflt .mat)
let y14 : Int := y13.fin
let y15 : Int := xwrap .i64 (v.t14_ + 1)
(.br (y1)
(.br (y2)
(.br (y5)
(.br (xdec (y7 < 0))
(.leaf (some 0, v))
(.br (y2)
(.br (y5)
(.br (y2)
(.br (y5)
(.br (xdec (y8 < y7))
(.leaf (some 0, v))
(.br (y2)
(.br (y5)
(.br (xdec (y8 ≥ (↑qA.length : Int)))
(.leaf (some 0, v))
(.br (xdec (v.t14_ > 0))
(.br (y2)
(.br (y5)
(.br (y10)
(.br (y12)
(.br (xdec (y8 < y14))
(.leaf (some 0, v))
(.br (y2)
(.br (y5)
(.br (y10)
(.br (y12)
(.br (xeqI y8 y14)
(.br (y2)
(.br (y5)
(.br (y10)
(.br (y12)
(.br (xdec (y7 ≤ y13.start))
(.leaf (some 0, v))
(.leaf (none, ⟨y15⟩)))
.fail)
.fail)
.fail)
.fail)
(.leaf (none, ⟨y15⟩)))
.fail)
.fail)
.fail)
.fail))
.fail)
.fail)
.fail)
.fail)
(.leaf (none, ⟨y15⟩))))
.fail)
.fail))
.fail)
.fail)
.fail)
.fail))
.fail)
.fail)
(.leaf (some 1, v)))
def S.zq2d_9_r (qA : List (Ty .evt)) (t12_l : Nat) (h_35 : List (Ty .mat)) (v : S.zq2d_9_V) : Option (Option Nat × S.zq2d_9_V) := (S.zq2d_9_R qA t12_l h_35 v).run
def S.zq2d_9_j (qA : List (Ty .evt)) (t12_l : Nat) (h_35 : List (Ty .mat)) (v : S.zq2d_9_V) (j : Nat) : Bool := Lp_j (S.zq2d_9_r qA t12_l h_35) v j
def S.zq2d_9_v (qA : List (Ty .evt)) (t12_l : Nat) (h_35 : List (Ty .mat)) (v : S.zq2d_9_V) : S.zq2d_9_V := Lp_v (S.zq2d_9_r qA t12_l h_35) v
def mk_zq2d_9 (qB : Option Bool) (qC : Bool) (qA : List (Ty .evt)) (qD : Bool) (t12_l : Nat) (qE : Bool) (t13_l : Nat) (qF : Option Bool) (qG : Bool) (qH : List (Ty .step)) (qI : Int) (qJ : Int) (qK : Int) (qL : Int) (h_35 : List (Ty .mat)) (h_42 : List (Ty .mat)) (v : S.zq2d_9_V) : St := ⟨(V.any :: (V.v false [C.d (.sl qB qC .evt qA)] :: (vs 10 (V.v false [C.own 35 .mat qD 0 t12_l] :: (V.v false [C.own 42 .mat qE 0 t13_l] :: ((cV v.t14_) :: (vs 137 []))))))), (some (Blk.box 45 [C.d (.sl qF qG .step qH), (cI qI), (cI qJ), (cI qK), (cI qL)]) :: (ns 34 (some (Blk.arr 81 .mat h_35) :: (ns 6 (some (Blk.arr 81 .mat h_42) :: (none :: (none :: []))))))), 0⟩
def ex_zq2d_9 (qB : Option Bool) (qC : Bool) (qA : List (Ty .evt)) (qD : Bool) (t12_l : Nat) (qE : Bool) (t13_l : Nat) (qF : Option Bool) (qG : Bool) (qH : List (Ty .step)) (qI : Int) (qJ : Int) (qK : Int) (qL : Int) (h_35 : List (Ty .mat)) (h_42 : List (Ty .mat)) (j : Nat) (v : S.zq2d_9_V) : Ex × St := match j with
 | 0 => (Ex.ret, ⟨(V.any :: (V.v false [C.d (.sl qB qC .evt qA)] :: (vs 6 (V.v false [C.d (.sc (.bool false))] :: (vs 3 (V.v false [C.own 35 .mat qD 0 t12_l] :: (V.v false [C.own 42 .mat qE 0 t13_l] :: (vs 138 [])))))))), (some
  (Blk.box 45
   [C.d (.sl qF qG .step qH), (cI qI), (cI qJ), (cI qK),
    (cI qL)]) :: (ns 34 (some (Blk.arr 81 .mat h_35) :: (ns 6 (some (Blk.arr 81 .mat h_42) :: (ns 82 [])))))), 0⟩)
 | 1 => (Ex.exit 0, ⟨(V.any :: (V.v false [C.d (.sl qB qC .evt qA)] :: (vs 10 (V.v false [C.own 35 .mat qD 0 t12_l] :: (V.v false [C.own 42 .mat qE 0 t13_l] :: (vs 138 [])))))), (some
  (Blk.box 45
   [C.d (.sl qF qG .step qH), (cI qI), (cI qJ), (cI qK),
    (cI qL)]) :: (ns 34 (some (Blk.arr 81 .mat h_35) :: (ns 6 (some (Blk.arr 81 .mat h_42) :: (ns 6 [])))))), 0⟩)
 | _ => (.ret, ⟨[], [], 0⟩)
def T1_zq2d_9 : V → V → V → V → Option Blk → Option Blk → Option Blk → Tree
 | V.v false [C.d (.sl qB qC .evt qA)], V.v false [C.own 35 .mat qD 0 t12_l], V.v false [C.own 42 .mat qE 0 t13_l], V.v false [C.d (.sc (.int .i64 t14_))], some (Blk.box 45 [C.d (.sl qF qG .step qH), C.d (.sc (.int .i64 qI)), C.d (.sc (.int .i64 qJ)), C.d (.sc (.int .i64 qK)), C.d (.sc (.int .i64 qL))]), some (Blk.arr 81 .mat h_35), some (Blk.arr 81 .mat h_42) => exT (fun j => ex_zq2d_9 qB qC qA qD t12_l qE t13_l qF qG qH qI qJ qK qL h_35 h_42 j (S.zq2d_9_v qA t12_l h_35 ⟨t14_⟩)) (S.zq2d_9_j qA t12_l h_35 ⟨t14_⟩) [0, 1]
 | _, _, _, _, _, _, _ => .bad
def T_zq2d_9 (st : St) : Tree := bif okSt 152 45 0 [0, 35, 42] st then T1_zq2d_9 (st.env.getD 1 .any) (st.env.getD 12 .any) (st.env.getD 13 .any) (st.env.getD 14 .any) (lk st.heap 0) (lk st.heap 35) (lk st.heap 42) else .bad
def b_zq2d_9 : Code := loopBy Try.f25 9
theorem rnd_zq2d_9 (qB : Option Bool) (qC : Bool) (qA : List (Ty .evt)) (qD : Bool) (t12_l : Nat) (qE : Bool) (t13_l : Nat) (qF : Option Bool) (qG : Bool) (qH : List (Ty .step)) (qI : Int) (qJ : Int) (qK : Int) (qL : Int) (h_35 : List (Ty .mat)) (h_42 : List (Ty .mat)) (v : S.zq2d_9_V) : round2 cx_zq2d (hdI cx_zq2d (find []) [] none 0) 25 b_zq2d_9 [] 45 [1, 8, 12, 13] (mk_zq2d_9 qB qC qA qD t12_l qE t13_l qF qG qH qI qJ qK qL h_35 h_42 v) = (S.zq2d_9_R qA t12_l h_35 v).go (roundOut (mk_zq2d_9 qB qC qA qD t12_l qE t13_l qF qG qH qI qJ qK qL h_35 h_42) (ex_zq2d_9 qB qC qA qD t12_l qE t13_l qF qG qH qI qJ qK qL h_35 h_42)) := by kernel_rfl
theorem bs_zq2d_9 : loopsOf b_zq2d_9 ++ loopsInl [] = [] := by kernel_rfl
theorem ci_zq2d_9 (qB : Option Bool) (qC : Bool) (qA : List (Ty .evt)) (qD : Bool) (t12_l : Nat) (qE : Bool) (t13_l : Nat) (qF : Option Bool) (qG : Bool) (qH : List (Ty .step)) (qI : Int) (qJ : Int) (qK : Int) (qL : Int) (h_35 : List (Ty .mat)) (h_42 : List (Ty .mat)) : ∀ v j v2, Lp (S.zq2d_9_r qA t12_l h_35) v = some (j, v2) → Circles Try.prog cx_zq2d b_zq2d_9 (mk_zq2d_9 qB qC qA qD t12_l qE t13_l qF qG qH qI qJ qK qL h_35 h_42 v) (ex_zq2d_9 qB qC qA qD t12_l qE t13_l qF qG qH qI qJ qK qL h_35 h_42 j v2).1 (ex_zq2d_9 qB qC qA qD t12_l qE t13_l qF qG qH qI qJ qK qL h_35 h_42 j v2).2 :=
 loop_ok2 (L := find []) (n := 0) (hints := [(25, 9, { keep := [1, 12, 13, 14], acc := [] })]) (cx_ok rfl) rdy_zq2d bs_zq2d_9 nilB (fun v => (rnd_zq2d_9 qB qC qA qD t12_l qE t13_l qF qG qH qI qJ qK qL h_35 h_42 v).trans (DT.go_run _ _)) (by intro j v; unfold ex_zq2d_9; split <;> rfl)
theorem mke_zq2d_9 (qB : Option Bool) (qC : Bool) (qA : List (Ty .evt)) (qD : Bool) (t12_l : Nat) (qE : Bool) (t13_l : Nat) (qF : Option Bool) (qG : Bool) (qH : List (Ty .step)) (qI : Int) (qJ : Int) (qK : Int) (qL : Int) (h_35 : List (Ty .mat)) (h_42 : List (Ty .mat)) (v : S.zq2d_9_V) : mk_zq2d_9 qB qC qA qD t12_l qE t13_l qF qG qH qI qJ qK qL h_35 h_42 v = ⟨envOf 152 [(1, V.v false [C.d (.sl qB qC .evt qA)]), (12, V.v false [C.own 35 .mat qD 0 t12_l]), (13, V.v false [C.own 42 .mat qE 0 t13_l]), (14, (cV v.t14_))], heapOf 45 [(0, some
 (Blk.box 45
  [C.d (.sl qF qG .step qH), (cI qI), (cI qJ), (cI qK),
   (cI qL)])), (35, some (Blk.arr 81 .mat h_35)), (42, some (Blk.arr 81 .mat h_42))], 0⟩ := by kernel_rfl
theorem lo1_zq2d_9 (e1 : V) (e12 : V) (e13 : V) (e14 : V) (h0 : Option Blk) (h35 : Option Blk) (h42 : Option Blk) e st2 (h : (T1_zq2d_9 e1 e12 e13 e14 h0 h35 h42).eval = some (e, st2)) : Circles Try.prog cx_zq2d b_zq2d_9 ⟨envOf 152 [(1, e1), (12, e12), (13, e13), (14, e14)], heapOf 45 [(0, h0), (35, h35), (42, h42)], 0⟩ e st2 := by
 unfold T1_zq2d_9 at h
 split at h
 ·have := loop_tree (mk := mk_zq2d_9 _ _ _ _ _ _ _ _ _ _ _ _ _ _ _ _) (ci_zq2d_9 _ _ _ _ _ _ _ _ _ _ _ _ _ _ _ _) _ _ e st2 h
  rw [mke_zq2d_9] at this
  exact this
 ·cases h
theorem lok_zq2d_9 : LoopOk Try.prog cx_zq2d b_zq2d_9 T_zq2d_9 := by
 intro st e st2 h
 unfold T_zq2d_9 at h
 cases hk : okSt 152 45 0 [0, 35, 42] st with
 | false => rw [hk] at h; cases h
 | true =>
  rw [hk] at h
  exact circles_keep (ks := [1, 12, 13, 14]) hk (lo1_zq2d_9 _ _ _ _ _ _ _ e st2 h)
structure S.zq2d_T where
 x0 : Bool
 deriving Inhabited
def S.zq2d_R (a0_0n : Option Bool) (a0_0f : Bool) (a0_0 : List (Ty .step)) (a0_1 : Int) (a0_2 : Int) (a0_3 : Int) (a0_4 : Int) (a1n : Option Bool) (a1f : Bool) (a1 : List (Ty .evt)) (a2 : Int) (a3 : Int) : DT S.zq2d_T :=
let y0 : Int := xwrap .i64 (a2 + a3)
let y1 : S.all2_T := S.all2_o a0_0n a0_0f a0_0 a0_1 a0_2 a0_3 a0_4 a1n a1f a1 a2
let y2 : Nat := y1.x2
let y3 : List (Ty .mat) := y1.x0
let y4 : S.zq2d_9_V := { t14_ := 0 : S.zq2d_9_V }
let y5 : Int := (↑y2 : Int)
let y6 : S.all2_T := S.all2_o a0_0n a0_0f a0_0 a0_1 a0_2 a0_3 a0_4 a1n a1f a1 y0
let y7 : Nat := y6.x2
let y8 : Int := (↑y7 : Int)
let y9 : Nat := 0 + y2
let y10 : Nat := 0 + (Int.ofNat y2).toNat
let y11 : List (Ty .mat) := y6.x0
let y12 : List (Ty .mat) := sub y3 0 y9
let y13 : List (Ty .mat) := sub y11 0 y10
(.br (S.zkyx_is)
(.br (S.zydq_is a0_0)
(.br (S.zgwp_is a1 25)
(.br (xnot S.zkyx_o.x0)
(.leaf ⟨S.zkyx_o.x0⟩)
(.br (xnot (S.zydq_o a0_0).x0)
(.leaf ⟨S.zkyx_o.x0⟩)
(.br (xnot (S.zgwp_o a1 25).x0)
(.leaf ⟨S.zkyx_o.x0⟩)
(.br (xdec (a3 < 0))
(.leaf ⟨S.zkyx_o.x0⟩)
(.br (xdec (a2 > 1099511627776))
(.leaf ⟨S.zkyx_o.x0⟩)
(.br (xdec (a3 > 1099511627776))
(.leaf ⟨S.zkyx_o.x0⟩)
(.br (S.all2_is a0_0n a0_0f a0_0 a0_1 a0_2 a0_3 a0_4 a1n a1f a1 a2)
(.br (S.all2_is a0_0n a0_0f a0_0 a0_1 a0_2 a0_3 a0_4 a1n a1f a1 y0)
(.br (S.zq2d_9_j a1 y2 y3 y4 0)
(.leaf ⟨false⟩)
(.br (S.zq2d_9_j a1 y2 y3 y4 1)
(.br (xdec (y5 > y8))
(.leaf ⟨false⟩)
(.br (xdec (y8 > (↑a1.length : Int)))
(.leaf ⟨false⟩)
(.br (xdec (0 ≤ y5) && xdec (y5 ≤ Int.ofNat y7) && true)
(.br (xdec (y9 ≤ y3.length) && true && (xdec (y10 ≤ y11.length) && true && true) && S.z2j4_is y12 y13)
(.leaf ⟨(S.z2j4_o y12 y13).x0⟩)
.fail)
.fail)))
.fail))
.fail)
.fail)))))))
.fail)
.fail)
.fail)
def S.zq2d (a0_0n : Option Bool) (a0_0f : Bool) (a0_0 : List (Ty .step)) (a0_1 : Int) (a0_2 : Int) (a0_3 : Int) (a0_4 : Int) (a1n : Option Bool) (a1f : Bool) (a1 : List (Ty .evt)) (a2 : Int) (a3 : Int) : Option S.zq2d_T := (S.zq2d_R a0_0n a0_0f a0_0 a0_1 a0_2 a0_3 a0_4 a1n a1f a1 a2 a3).run
def S.zq2d_is (a0_0n : Option Bool) (a0_0f : Bool) (a0_0 : List (Ty .step)) (a0_1 : Int) (a0_2 : Int) (a0_3 : Int) (a0_4 : Int) (a1n : Option Bool) (a1f : Bool) (a1 : List (Ty .evt)) (a2 : Int) (a3 : Int) : Bool := (S.zq2d a0_0n a0_0f a0_0 a0_1 a0_2 a0_3 a0_4 a1n a1f a1 a2 a3).isSome
def S.zq2d_o (a0_0n : Option Bool) (a0_0f : Bool) (a0_0 : List (Ty .step)) (a0_1 : Int) (a0_2 : Int) (a0_3 : Int) (a0_4 : Int) (a1n : Option Bool) (a1f : Bool) (a1 : List (Ty .evt)) (a2 : Int) (a3 : Int) : S.zq2d_T := (S.zq2d a0_0n a0_0f a0_0 a0_1 a0_2 a0_3 a0_4 a1n a1f a1 a2 a3).getD default
def ret_zq2d (b : Bool) (r : S.zq2d_T) : Ret := ⟨b, none, [(false, [C.d (.sc (.bool r.x0))])]⟩
def g_zq2d : Con
 | [(true, [.sl a0_0n a0_0f .step a0_0, .sc (.int .i64 a0_1), .sc (.int .i64 a0_2), .sc (.int .i64 a0_3), .sc (.int .i64 a0_4)]), (false, [.sl a1n a1f .evt a1]), (false, [.sc (.int .i64 a2)]), (false, [.sc (.int .i64 a3)])] => some (ret_zq2d (S.zq2d_is a0_0n a0_0f a0_0 a0_1 a0_2 a0_3 a0_4 a1n a1f a1 a2 a3) (S.zq2d_o a0_0n a0_0f a0_0 a0_1 a0_2 a0_3 a0_4 a1n a1f a1 a2 a3))
 | _ => none
theorem raw_zq2d (a0_0n : Option Bool) (a0_0f : Bool) (a0_0 : List (Ty .step)) (a0_1 : Int) (a0_2 : Int) (a0_3 : Int) (a0_4 : Int) (a1n : Option Bool) (a1f : Bool) (a1 : List (Ty .evt)) (a2 : Int) (a3 : Int) : evR2 cx_zq2d (hdI cx_zq2d (find [(9, T_zq2d_9)]) [] none 0) none Try.f25 25 none [(true, [.sl a0_0n a0_0f .step a0_0, .sc (.int .i64 a0_1), .sc (.int .i64 a0_2), .sc (.int .i64 a0_3), .sc (.int .i64 a0_4)]), (false, [.sl a1n a1f .evt a1]), (false, [.sc (.int .i64 a2)]), (false, [.sc (.int .i64 a3)])] some = (S.zq2d_R a0_0n a0_0f a0_0 a0_1 a0_2 a0_3 a0_4 a1n a1f a1 a2 a3).go (ret_zq2d true) := by kernel_rfl
theorem bs_zq2d : loopsIn Try.f25 [] = [b_zq2d_9] := by kernel_rfl
theorem zq2d_ok : Stands Try.prog tyTab 25 g_zq2d := by
 refine stands3 (L := find [(9, T_zq2d_9)]) (n := 0) (hints := [(25, 9, { keep := [1, 12, 13, 14], acc := [] })]) (cx_ok rfl) rdy_zq2d ⟨by kernel_rfl, by kernel_rfl, by kernel_rfl⟩ bs_zq2d (consB (fun T h => by have e : T_zq2d_9 = T := Option.some.inj (show some T_zq2d_9 = some T from h); exact e ▸ lok_zq2d_9) nilB) (fun das r hG hr => ?_)
 unfold g_zq2d at hG
 split at hG
 ·rename_i a0_0n a0_0f a0_0 a0_1 a0_2 a0_3 a0_4 a1n a1f a1 a2 a3
  injection hG with hG; subst hG
  exact ⟨none, true, win default ((raw_zq2d a0_0n a0_0f a0_0 a0_1 a0_2 a0_3 a0_4 a1n a1f a1 a2 a3).trans (DT.go_run _ _)) hr⟩
 ·cases hG
end
end Go.Eng
