/- Contracts, laid by program. -/
import Derived.Test.YtbjeikmkngcjlaaVZG4
import Derived.Test.YtbjeikmkngcjlaaVZN3
set_option linter.unusedVariables false
namespace Go.Eng
noncomputable section
open Go Go.Eng Go.Proofs Go.Eng.Tab
abbrev cx_ztra : Cx := mkCx2 tyTab [] [] [(128, 2, { keep := [0, 3], acc := [] })] []
theorem rdy_ztra : Ready Try.prog tyTab [] [] [] := ⟨noneG2, noneI2, noneF2⟩
structure S.ztra_2_V where
 t3_ : Int
def S.ztra_2_R (qA : ByteArray) (v : S.ztra_2_V) : DT (Option Nat × S.ztra_2_V) :=
let y0 : Bool := xdec (v.t3_ < (↑qA.size : Int))
let y1 : Int := (↑(byteAt qA v.t3_.toNat) : Int)
let y2 : Bool := xeqI v.t3_ 0
let y3 : Bool := xneI y1 95
let y4 : Bool := xdec (y1 < 48)
let y5 : Bool := xdec (y1 > 57)
let y6 : Int := xwrap .i64 (v.t3_ + 1)
(.br (y0)
(.br (xdec (0 ≤ v.t3_) && y0)
(.br (xdec (y1 ≥ 97))
(.br (xnot (xdec (y1 ≤ 122)))
(.br (y2)
(.leaf (some 0, v))
(.br (y3)
(.br (y4)
(.leaf (some 0, v))
(.br (y5)
(.leaf (some 0, v))
(.leaf (none, ⟨y6⟩))))
(.leaf (none, ⟨y6⟩))))
(.leaf (none, ⟨y6⟩)))
(.br (xnot false)
(.br (y2)
(.leaf (some 0, v))
(.br (y3)
(.br (y4)
(.leaf (some 0, v))
(.br (y5)
(.leaf (some 0, v))
(.leaf (none, ⟨y6⟩))))
(.leaf (none, ⟨y6⟩))))
(.leaf (none, ⟨y6⟩))))
.fail)
(.leaf (some 1, v)))
def S.ztra_2_r (qA : ByteArray) (v : S.ztra_2_V) : Option (Option Nat × S.ztra_2_V) := (S.ztra_2_R qA v).run
def S.ztra_2_j (qA : ByteArray) (v : S.ztra_2_V) (j : Nat) : Bool := Lp_j (S.ztra_2_r qA) v j
def S.ztra_2_v (qA : ByteArray) (v : S.ztra_2_V) : S.ztra_2_V := Lp_v (S.ztra_2_r qA) v
def mk_ztra_2 (qA : ByteArray) (v : S.ztra_2_V) : St := ⟨(V.v false [C.d (.sc (.str qA))] :: (V.any :: (V.any :: ((cV v.t3_) :: (vs 43 []))))), [none, none], 0⟩
def ex_ztra_2 (qA : ByteArray) (j : Nat) (v : S.ztra_2_V) : Ex × St := match j with
 | 0 => (Ex.ret, ⟨(V.v false [C.d (.sc (.str qA))] :: (V.any :: (V.v false [C.d (.sc (.bool false))] :: (vs 44 [])))), (ns 36 []), 0⟩)
 | 1 => (Ex.exit 0, ⟨(V.v false [C.d (.sc (.str qA))] :: (vs 46 [])), (ns 6 []), 0⟩)
 | _ => (.ret, ⟨[], [], 0⟩)
def T1_ztra_2 : V → V → Tree
 | V.v false [C.d (.sc (.str qA))], V.v false [C.d (.sc (.int .i64 t3_))] => exT (fun j => ex_ztra_2 qA j (S.ztra_2_v qA ⟨t3_⟩)) (S.ztra_2_j qA ⟨t3_⟩) [0, 1]
 | _, _ => .bad
def T_ztra_2 (st : St) : Tree := bif okSt 47 2 0 [] st then T1_ztra_2 (st.env.getD 0 .any) (st.env.getD 3 .any) else .bad
def b_ztra_2 : Code := loopBy Try.f128 2
theorem rnd_ztra_2 (qA : ByteArray) (v : S.ztra_2_V) : round2 cx_ztra (hdI cx_ztra (find []) [] none 0) 128 b_ztra_2 [] 2 [0, 2] (mk_ztra_2 qA v) = (S.ztra_2_R qA v).go (roundOut (mk_ztra_2 qA) (ex_ztra_2 qA)) := by kernel_rfl
theorem bs_ztra_2 : loopsOf b_ztra_2 ++ loopsInl [] = [] := by kernel_rfl
theorem ci_ztra_2 (qA : ByteArray) : ∀ v j v2, Lp (S.ztra_2_r qA) v = some (j, v2) → Circles Try.prog cx_ztra b_ztra_2 (mk_ztra_2 qA v) (ex_ztra_2 qA j v2).1 (ex_ztra_2 qA j v2).2 :=
 loop_ok2 (L := find []) (n := 0) (hints := [(128, 2, { keep := [0, 3], acc := [] })]) (cx_ok rfl) rdy_ztra bs_ztra_2 nilB (fun v => (rnd_ztra_2 qA v).trans (DT.go_run _ _)) (by intro j v; unfold ex_ztra_2; split <;> rfl)
theorem mke_ztra_2 (qA : ByteArray) (v : S.ztra_2_V) : mk_ztra_2 qA v = ⟨envOf 47 [(0, V.v false [C.d (.sc (.str qA))]), (3, (cV v.t3_))], heapOf 2 [], 0⟩ := by kernel_rfl
theorem lo1_ztra_2 (e0 : V) (e3 : V)  e st2 (h : (T1_ztra_2 e0 e3).eval = some (e, st2)) : Circles Try.prog cx_ztra b_ztra_2 ⟨envOf 47 [(0, e0), (3, e3)], heapOf 2 [], 0⟩ e st2 := by
 unfold T1_ztra_2 at h
 split at h
 ·have := loop_tree (mk := mk_ztra_2 _) (ci_ztra_2 _) _ _ e st2 h
  rw [mke_ztra_2] at this
  exact this
 ·cases h
theorem lok_ztra_2 : LoopOk Try.prog cx_ztra b_ztra_2 T_ztra_2 := by
 intro st e st2 h
 unfold T_ztra_2 at h
 cases hk : okSt 47 2 0 [] st with
 | false => rw [hk] at h; cases h
 | true =>
  rw [hk] at h
  exact circles_keep (ks := [0, 3]) hk (lo1_ztra_2 _ _ e st2 h)
structure S.ztra_T where
 x0 : Bool
 deriving Inhabited
def S.ztra_R (a0 : ByteArray) : DT S.ztra_T :=
let y0 : S.ztra_2_V := { t3_ := 0 : S.ztra_2_V }
let y1 : Int := (↑a0.size : Int)
(.br (S.ztra_2_j a0 y0 0)
(.leaf ⟨false⟩)
(.br (S.ztra_2_j a0 y0 1)
(.br (xdec (y1 ≥ 1))
(.leaf ⟨xdec (y1 ≤ 12)⟩)
(.leaf ⟨false⟩))
.fail))
def S.ztra (a0 : ByteArray) : Option S.ztra_T := (S.ztra_R a0).run
def S.ztra_is (a0 : ByteArray) : Bool := (S.ztra a0).isSome
def S.ztra_o (a0 : ByteArray) : S.ztra_T := (S.ztra a0).getD default
def ret_ztra (b : Bool) (r : S.ztra_T) : Ret := ⟨b, none, [(false, [C.d (.sc (.bool r.x0))])]⟩
def g_ztra : Con
 | [(false, [.sc (.str a0)])] => some (ret_ztra (S.ztra_is a0) (S.ztra_o a0))
 | _ => none
theorem raw_ztra (a0 : ByteArray) : evR2 cx_ztra (hdI cx_ztra (find [(2, T_ztra_2)]) [] none 0) none Try.f128 128 none [(false, [.sc (.str a0)])] some = (S.ztra_R a0).go (ret_ztra true) := by kernel_rfl
theorem bs_ztra : loopsIn Try.f128 [] = [b_ztra_2] := by kernel_rfl
theorem ztra_ok : Stands Try.prog tyTab 128 g_ztra := by
 refine stands3 (L := find [(2, T_ztra_2)]) (n := 0) (hints := [(128, 2, { keep := [0, 3], acc := [] })]) (cx_ok rfl) rdy_ztra ⟨by kernel_rfl, by kernel_rfl, by kernel_rfl⟩ bs_ztra (consB (fun T h => by have e : T_ztra_2 = T := Option.some.inj (show some T_ztra_2 = some T from h); exact e ▸ lok_ztra_2) nilB) (fun das r hG hr => ?_)
 unfold g_ztra at hG
 split at hG
 ·rename_i a0
  injection hG with hG; subst hG
  exact ⟨none, true, win default ((raw_ztra a0).trans (DT.go_run _ _)) hr⟩
 ·cases hG
abbrev cx_zfbt : Cx := mkCx2 tyTab [] [] [] []
theorem rdy_zfbt : Ready Try.prog tyTab [] [] [] := ⟨noneG2, noneI2, noneF2⟩
structure S.zfbt_T where
 x0 : Bool
 deriving Inhabited
def S.zfbt_R (a0_0 : Int) (a0_1 : Int) (a0_2 : ByteArray) : DT S.zfbt_T :=
let y0 : Bool := xeqI a0_0 0
let y1 : Bool := xeqI a0_0 1
let y2 : Bool := xeqI a0_1 0
let y3 : Bool := xeqI a0_1 1
let y4 : Bool := xeqI a0_0 2
let y5 : Bool := xdec ((↑a0_2.size : Int) ≤ 40)
let y6 : Bool := xeqI a0_0 3
let y7 : Bool := xdec (a0_1 ≥ 0)
let y8 : Bool := xdec (a0_1 ≤ 1125899906842624)
(.br (xneI a0_0 2)
(.br (xnot (xdec (a0_2 = { data := { toList := [] : Array UInt8 } : ByteArray })))
(.leaf ⟨false⟩)
(.br (y0)
(.leaf ⟨true⟩)
(.br (y1)
(.br (y2)
(.leaf ⟨true⟩)
(.leaf ⟨y3⟩))
(.br (y4)
(.br (y2)
(.leaf ⟨y5⟩)
(.leaf ⟨false⟩))
(.br (y6)
(.br (y7)
(.leaf ⟨y8⟩)
(.leaf ⟨false⟩))
(.leaf ⟨false⟩))))))
(.br (y0)
(.leaf ⟨true⟩)
(.br (y1)
(.br (y2)
(.leaf ⟨true⟩)
(.leaf ⟨y3⟩))
(.br (y4)
(.br (y2)
(.leaf ⟨y5⟩)
(.leaf ⟨false⟩))
(.br (y6)
(.br (y7)
(.leaf ⟨y8⟩)
(.leaf ⟨false⟩))
(.leaf ⟨false⟩))))))
def S.zfbt (a0_0 : Int) (a0_1 : Int) (a0_2 : ByteArray) : Option S.zfbt_T := (S.zfbt_R a0_0 a0_1 a0_2).run
def S.zfbt_is (a0_0 : Int) (a0_1 : Int) (a0_2 : ByteArray) : Bool := (S.zfbt a0_0 a0_1 a0_2).isSome
def S.zfbt_o (a0_0 : Int) (a0_1 : Int) (a0_2 : ByteArray) : S.zfbt_T := (S.zfbt a0_0 a0_1 a0_2).getD default
def ret_zfbt (b : Bool) (r : S.zfbt_T) : Ret := ⟨b, none, [(false, [C.d (.sc (.bool r.x0))])]⟩
def g_zfbt : Con
 | [(true, [.sc (.int .i64 a0_0), .sc (.int .i64 a0_1), .sc (.str a0_2)])] => some (ret_zfbt (S.zfbt_is a0_0 a0_1 a0_2) (S.zfbt_o a0_0 a0_1 a0_2))
 | _ => none
theorem raw_zfbt (a0_0 : Int) (a0_1 : Int) (a0_2 : ByteArray) : evR2 cx_zfbt (hdI cx_zfbt (find []) [] none 0) none Try.f153 153 none [(true, [.sc (.int .i64 a0_0), .sc (.int .i64 a0_1), .sc (.str a0_2)])] some = (S.zfbt_R a0_0 a0_1 a0_2).go (ret_zfbt true) := by kernel_rfl
theorem bs_zfbt : loopsIn Try.f153 [] = [] := by kernel_rfl
theorem zfbt_ok : Stands Try.prog tyTab 153 g_zfbt := by
 refine stands3 (L := find []) (n := 0) (hints := []) (cx_ok rfl) rdy_zfbt ⟨by kernel_rfl, by kernel_rfl, by kernel_rfl⟩ bs_zfbt nilB (fun das r hG hr => ?_)
 unfold g_zfbt at hG
 split at hG
 ·rename_i a0_0 a0_1 a0_2
  injection hG with hG; subst hG
  exact ⟨none, true, win default ((raw_zfbt a0_0 a0_1 a0_2).trans (DT.go_run _ _)) hr⟩
 ·cases hG
abbrev cx_zcnl : Cx := mkCx2 tyTab [(153, g_zfbt)] [] [(129, 2, { keep := [0, 3], acc := [] })] []
theorem rdy_zcnl : Ready Try.prog tyTab [(153, g_zfbt)] [] [] := ⟨consG2 zfbt_ok (noneG2), noneI2, noneF2⟩
structure S.zcnl_2_V where
 t3_ : Int
def S.zcnl_2_R (qA : List (Ty .op)) (v : S.zcnl_2_V) : DT (Option Nat × S.zcnl_2_V) :=
let y0 : Bool := xdec (v.t3_ < (↑qA.length : Int))
let y1 : Ty .op := qA.getD v.t3_.toNat (dflt .op)
let y2 : Val := y1.v
let y3 : Int := y2.kind
let y4 : Int := y2.n
let y5 : ByteArray := y2.s
let y6 : Int := y1.code
let y7 : Int := y1.arg
let y8 : Bool := xnot (S.zfbt_o y3 y4 y5).x0
let y9 : Bool := xneI y6 0
let y10 : Bool := bif xeqI y3 0 && (xeqI y4 0 && xdec (y5 = ByteArray.empty)) then false else true
let y11 : Int := xwrap .i64 (v.t3_ + 1)
(.br (y0)
(.br (xdec (0 ≤ v.t3_) && y0)
(.br (S.zfbt_is y3 y4 y5)
(.br (xdec (y6 < 0))
(.leaf (some 0, v))
(.br (xdec (y6 ≥ 10))
(.leaf (some 0, v))
(.br (xdec (y7 < 0))
(.leaf (some 0, v))
(.br (xdec (y7 ≥ 6))
(.leaf (some 0, v))
(.br (xneI y6 1)
(.br (xneI y7 0)
(.leaf (some 0, v))
(.br (y8)
(.leaf (some 0, v))
(.br (y9)
(.br (y10)
(.leaf (some 0, v))
(.leaf (none, ⟨y11⟩)))
(.leaf (none, ⟨y11⟩)))))
(.br (y8)
(.leaf (some 0, v))
(.br (y9)
(.br (y10)
(.leaf (some 0, v))
(.leaf (none, ⟨y11⟩)))
(.leaf (none, ⟨y11⟩)))))))))
.fail)
.fail)
(.leaf (some 1, v)))
def S.zcnl_2_r (qA : List (Ty .op)) (v : S.zcnl_2_V) : Option (Option Nat × S.zcnl_2_V) := (S.zcnl_2_R qA v).run
def S.zcnl_2_j (qA : List (Ty .op)) (v : S.zcnl_2_V) (j : Nat) : Bool := Lp_j (S.zcnl_2_r qA) v j
def S.zcnl_2_v (qA : List (Ty .op)) (v : S.zcnl_2_V) : S.zcnl_2_V := Lp_v (S.zcnl_2_r qA) v
def mk_zcnl_2 (qB : Option Bool) (qC : Bool) (qA : List (Ty .op)) (v : S.zcnl_2_V) : St := ⟨(V.v false [C.d (.sl qB qC .op qA)] :: (V.any :: (V.any :: ((cV v.t3_) :: (vs 61 []))))), [none, none], 0⟩
def ex_zcnl_2 (qB : Option Bool) (qC : Bool) (qA : List (Ty .op)) (j : Nat) (v : S.zcnl_2_V) : Ex × St := match j with
 | 0 => (Ex.ret, ⟨(V.v false [C.d (.sl qB qC .op qA)] :: (V.any :: (V.v false [C.d (.sc (.bool false))] :: (vs 62 [])))), (ns 10 (some
  (Blk.box 115
   [(cI (qA.getD v.t3_.toNat (dflt .op)).code), (cI (qA.getD v.t3_.toNat (dflt .op)).arg),
    (cI (qA.getD v.t3_.toNat (dflt .op)).v.kind), (cI (qA.getD v.t3_.toNat (dflt .op)).v.n),
    C.d (.sc (.str (qA.getD v.t3_.toNat (dflt .op)).v.s))]) :: (ns 49 []))), 0⟩)
 | 1 => (Ex.exit 0, ⟨(V.v false [C.d (.sl qB qC .op qA)] :: (vs 64 [])), (ns 6 []), 0⟩)
 | _ => (.ret, ⟨[], [], 0⟩)
def T1_zcnl_2 : V → V → Tree
 | V.v false [C.d (.sl qB qC .op qA)], V.v false [C.d (.sc (.int .i64 t3_))] => exT (fun j => ex_zcnl_2 qB qC qA j (S.zcnl_2_v qA ⟨t3_⟩)) (S.zcnl_2_j qA ⟨t3_⟩) [0, 1]
 | _, _ => .bad
def T_zcnl_2 (st : St) : Tree := bif okSt 65 2 0 [] st then T1_zcnl_2 (st.env.getD 0 .any) (st.env.getD 3 .any) else .bad
def b_zcnl_2 : Code := loopBy Try.f129 2
theorem rnd_zcnl_2 (qB : Option Bool) (qC : Bool) (qA : List (Ty .op)) (v : S.zcnl_2_V) : round2 cx_zcnl (hdI cx_zcnl (find []) [] none 0) 129 b_zcnl_2 [] 2 [0, 2] (mk_zcnl_2 qB qC qA v) = (S.zcnl_2_R qA v).go (roundOut (mk_zcnl_2 qB qC qA) (ex_zcnl_2 qB qC qA)) := by kernel_rfl
theorem bs_zcnl_2 : loopsOf b_zcnl_2 ++ loopsInl [] = [] := by kernel_rfl
theorem ci_zcnl_2 (qB : Option Bool) (qC : Bool) (qA : List (Ty .op)) : ∀ v j v2, Lp (S.zcnl_2_r qA) v = some (j, v2) → Circles Try.prog cx_zcnl b_zcnl_2 (mk_zcnl_2 qB qC qA v) (ex_zcnl_2 qB qC qA j v2).1 (ex_zcnl_2 qB qC qA j v2).2 :=
 loop_ok2 (L := find []) (n := 0) (hints := [(129, 2, { keep := [0, 3], acc := [] })]) (cx_ok rfl) rdy_zcnl bs_zcnl_2 nilB (fun v => (rnd_zcnl_2 qB qC qA v).trans (DT.go_run _ _)) (by intro j v; unfold ex_zcnl_2; split <;> rfl)
theorem mke_zcnl_2 (qB : Option Bool) (qC : Bool) (qA : List (Ty .op)) (v : S.zcnl_2_V) : mk_zcnl_2 qB qC qA v = ⟨envOf 65 [(0, V.v false [C.d (.sl qB qC .op qA)]), (3, (cV v.t3_))], heapOf 2 [], 0⟩ := by kernel_rfl
theorem lo1_zcnl_2 (e0 : V) (e3 : V)  e st2 (h : (T1_zcnl_2 e0 e3).eval = some (e, st2)) : Circles Try.prog cx_zcnl b_zcnl_2 ⟨envOf 65 [(0, e0), (3, e3)], heapOf 2 [], 0⟩ e st2 := by
 unfold T1_zcnl_2 at h
 split at h
 ·have := loop_tree (mk := mk_zcnl_2 _ _ _) (ci_zcnl_2 _ _ _) _ _ e st2 h
  rw [mke_zcnl_2] at this
  exact this
 ·cases h
theorem lok_zcnl_2 : LoopOk Try.prog cx_zcnl b_zcnl_2 T_zcnl_2 := by
 intro st e st2 h
 unfold T_zcnl_2 at h
 cases hk : okSt 65 2 0 [] st with
 | false => rw [hk] at h; cases h
 | true =>
  rw [hk] at h
  exact circles_keep (ks := [0, 3]) hk (lo1_zcnl_2 _ _ e st2 h)
structure S.zcnl_T where
 x0 : Bool
 deriving Inhabited
def S.zcnl_R (a0 : List (Ty .op)) : DT S.zcnl_T :=
let y0 : S.zcnl_2_V := { t3_ := 0 : S.zcnl_2_V }
(.br (S.zcnl_2_j a0 y0 0)
(.leaf ⟨false⟩)
(.br (S.zcnl_2_j a0 y0 1)
(.leaf ⟨xdec ((↑a0.length : Int) ≤ 12)⟩)
.fail))
def S.zcnl (a0 : List (Ty .op)) : Option S.zcnl_T := (S.zcnl_R a0).run
def S.zcnl_is (a0 : List (Ty .op)) : Bool := (S.zcnl a0).isSome
def S.zcnl_o (a0 : List (Ty .op)) : S.zcnl_T := (S.zcnl a0).getD default
def ret_zcnl (b : Bool) (r : S.zcnl_T) : Ret := ⟨b, none, [(false, [C.d (.sc (.bool r.x0))])]⟩
def g_zcnl : Con
 | [(false, [.sl a0n a0f .op a0])] => some (ret_zcnl (S.zcnl_is a0) (S.zcnl_o a0))
 | _ => none
theorem raw_zcnl (a0n : Option Bool) (a0f : Bool) (a0 : List (Ty .op)) : evR2 cx_zcnl (hdI cx_zcnl (find [(2, T_zcnl_2)]) [] none 0) none Try.f129 129 none [(false, [.sl a0n a0f .op a0])] some = (S.zcnl_R a0).go (ret_zcnl true) := by kernel_rfl
theorem bs_zcnl : loopsIn Try.f129 [] = [b_zcnl_2] := by kernel_rfl
theorem zcnl_ok : Stands Try.prog tyTab 129 g_zcnl := by
 refine stands3 (L := find [(2, T_zcnl_2)]) (n := 0) (hints := [(129, 2, { keep := [0, 3], acc := [] })]) (cx_ok rfl) rdy_zcnl ⟨by kernel_rfl, by kernel_rfl, by kernel_rfl⟩ bs_zcnl (consB (fun T h => by have e : T_zcnl_2 = T := Option.some.inj (show some T_zcnl_2 = some T from h); exact e ▸ lok_zcnl_2) nilB) (fun das r hG hr => ?_)
 unfold g_zcnl at hG
 split at hG
 ·rename_i a0n a0f a0
  injection hG with hG; subst hG
  exact ⟨none, true, win default ((raw_zcnl a0n a0f a0).trans (DT.go_run _ _)) hr⟩
 ·cases hG
end
end Go.Eng
