/- Contracts, laid by program. -/
import Derived.Test.YtbjeikmkngcjlaaZG3
set_option linter.unusedVariables false
set_option linter.unusedSimpArgs false
namespace Go.Eng
noncomputable section
open Go Go.Eng Go.Proofs Go.Eng.Tab
abbrev cx_zqbd : Cx := mkCx2 tyTab [(89, g_zqbn), (90, g_zqap)] [] [] []
theorem rdy_zqbd : Ready Try.prog tyTab [(89, g_zqbn), (90, g_zqap)] [] [] := ⟨consG2 zqbn_ok (consG2 zqap_ok (noneG2)), noneI2, noneF2⟩
structure S.zqbd_T where
  x0 : Bool
  deriving Inhabited
def S.zqbd_R (a0_0 : ByteArray) (a0_1 : Int) (a0_2 : List (Ty .val)) (a1 : List (Ty .op)) : DT S.zqbd_T :=
let y0 : S.zqbn_T := S.zqbn_o a0_0 a0_1 a0_2 a1
(.br (S.zqbn_is a0_0 a0_1 a0_2 a1)
(.br (xeqI (↑a1.length : Int) 0)
(.leaf ⟨true⟩)
(.br (xeqI y0.x3 0)
(.leaf ⟨xeqI y0.x0 (S.zqap_o true).x0 && (xeqI y0.x1 (S.zqap_o true).x1 && xdec (y0.x2 = (S.zqap_o true).x2))⟩)
(.leaf ⟨false⟩)))
.fail)
def S.zqbd (a0_0 : ByteArray) (a0_1 : Int) (a0_2 : List (Ty .val)) (a1 : List (Ty .op)) : Option S.zqbd_T := (S.zqbd_R a0_0 a0_1 a0_2 a1).run
def S.zqbd_is (a0_0 : ByteArray) (a0_1 : Int) (a0_2 : List (Ty .val)) (a1 : List (Ty .op)) : Bool := (S.zqbd a0_0 a0_1 a0_2 a1).isSome
def S.zqbd_o (a0_0 : ByteArray) (a0_1 : Int) (a0_2 : List (Ty .val)) (a1 : List (Ty .op)) : S.zqbd_T := (S.zqbd a0_0 a0_1 a0_2 a1).getD default
def ret_zqbd (b : Bool) (r : S.zqbd_T) : Ret := ⟨b, none, [(false, [C.d (.sc (.bool r.x0))])]⟩
def g_zqbd : Con
  | [(true, [.sc (.str a0_0), .sc (.int .i64 a0_1), .sl a0_2n a0_2f .val a0_2]), (false, [.sl a1n a1f .op a1])] => some (ret_zqbd (S.zqbd_is a0_0 a0_1 a0_2 a1) (S.zqbd_o a0_0 a0_1 a0_2 a1))
  | _ => none
theorem raw_zqbd (a0_0 : ByteArray) (a0_1 : Int) (a0_2n : Option Bool) (a0_2f : Bool) (a0_2 : List (Ty .val)) (a1n : Option Bool) (a1f : Bool) (a1 : List (Ty .op)) : evR2 cx_zqbd (hdI cx_zqbd (find []) [] none 0) none Try.f48 48 none [(true, [.sc (.str a0_0), .sc (.int .i64 a0_1), .sl a0_2n a0_2f .val a0_2]), (false, [.sl a1n a1f .op a1])] some = (S.zqbd_R a0_0 a0_1 a0_2 a1).go (ret_zqbd true) := by kernel_rfl
theorem bs_zqbd : loopsIn Try.f48 [] = [] := by kernel_rfl
theorem zqbd_ok : Stands Try.prog tyTab 48 g_zqbd := by
  refine stands3 (L := find []) (n := 0) (hints := []) (cx_ok rfl) rdy_zqbd ⟨by kernel_rfl, by kernel_rfl, by kernel_rfl⟩ bs_zqbd nilB (fun das r hG hr => ?_)
  unfold g_zqbd at hG
  split at hG
  · rename_i a0_0 a0_1 a0_2n a0_2f a0_2 a1n a1f a1
    injection hG with hG; subst hG
    exact ⟨none, true, win default ((raw_zqbd a0_0 a0_1 a0_2n a0_2f a0_2 a1n a1f a1).trans (DT.go_run _ _)) hr⟩
  · cases hG
abbrev cx_zqay : Cx := mkCx2 tyTab [(48, g_zqbd)] [] [] []
theorem rdy_zqay : Ready Try.prog tyTab [(48, g_zqbd)] [] [] := ⟨consG2 zqbd_ok (noneG2), noneI2, noneF2⟩
structure S.zqay_T where
  x0 : Bool
  deriving Inhabited
def S.zqay_R (a0_0 : ByteArray) (a0_1 : List (Ty .op)) (a1_0 : ByteArray) (a1_1 : Int) (a1_2 : List (Ty .val)) : DT S.zqay_T :=
(.br (xdec (a0_0 = a1_0))
(.br (S.zqbd_is a1_0 a1_1 a1_2 a0_1)
(.leaf ⟨(S.zqbd_o a1_0 a1_1 a1_2 a0_1).x0⟩)
.fail)
(.leaf ⟨false⟩))
def S.zqay (a0_0 : ByteArray) (a0_1 : List (Ty .op)) (a1_0 : ByteArray) (a1_1 : Int) (a1_2 : List (Ty .val)) : Option S.zqay_T := (S.zqay_R a0_0 a0_1 a1_0 a1_1 a1_2).run
def S.zqay_is (a0_0 : ByteArray) (a0_1 : List (Ty .op)) (a1_0 : ByteArray) (a1_1 : Int) (a1_2 : List (Ty .val)) : Bool := (S.zqay a0_0 a0_1 a1_0 a1_1 a1_2).isSome
def S.zqay_o (a0_0 : ByteArray) (a0_1 : List (Ty .op)) (a1_0 : ByteArray) (a1_1 : Int) (a1_2 : List (Ty .val)) : S.zqay_T := (S.zqay a0_0 a0_1 a1_0 a1_1 a1_2).getD default
def ret_zqay (b : Bool) (r : S.zqay_T) : Ret := ⟨b, none, [(false, [C.d (.sc (.bool r.x0))])]⟩
def g_zqay : Con
  | [(true, [.sc (.str a0_0), .sl a0_1n a0_1f .op a0_1]), (true, [.sc (.str a1_0), .sc (.int .i64 a1_1), .sl a1_2n a1_2f .val a1_2])] => some (ret_zqay (S.zqay_is a0_0 a0_1 a1_0 a1_1 a1_2) (S.zqay_o a0_0 a0_1 a1_0 a1_1 a1_2))
  | _ => none
theorem raw_zqay (a0_0 : ByteArray) (a0_1n : Option Bool) (a0_1f : Bool) (a0_1 : List (Ty .op)) (a1_0 : ByteArray) (a1_1 : Int) (a1_2n : Option Bool) (a1_2f : Bool) (a1_2 : List (Ty .val)) : evR2 cx_zqay (hdI cx_zqay (find []) [] none 0) none Try.f47 47 none [(true, [.sc (.str a0_0), .sl a0_1n a0_1f .op a0_1]), (true, [.sc (.str a1_0), .sc (.int .i64 a1_1), .sl a1_2n a1_2f .val a1_2])] some = (S.zqay_R a0_0 a0_1 a1_0 a1_1 a1_2).go (ret_zqay true) := by kernel_rfl
theorem bs_zqay : loopsIn Try.f47 [] = [] := by kernel_rfl
theorem zqay_ok : Stands Try.prog tyTab 47 g_zqay := by
  refine stands3 (L := find []) (n := 0) (hints := []) (cx_ok rfl) rdy_zqay ⟨by kernel_rfl, by kernel_rfl, by kernel_rfl⟩ bs_zqay nilB (fun das r hG hr => ?_)
  unfold g_zqay at hG
  split at hG
  · rename_i a0_0 a0_1n a0_1f a0_1 a1_0 a1_1 a1_2n a1_2f a1_2
    injection hG with hG; subst hG
    exact ⟨none, true, win default ((raw_zqay a0_0 a0_1n a0_1f a0_1 a1_0 a1_1 a1_2n a1_2f a1_2).trans (DT.go_run _ _)) hr⟩
  · cases hG
abbrev cx_zqbo : Cx := mkCx2 tyTab [] [] [(36, 4, { keep := [1, 3], acc := [] })] []
theorem rdy_zqbo : Ready Try.prog tyTab [] [] [] := ⟨noneG2, noneI2, noneF2⟩
structure S.zqbo_4_V where
  t_3_0 : Int
def S.zqbo_4_R (qA : List (Ty .val)) (v : S.zqbo_4_V) : DT (Option Nat × S.zqbo_4_V) :=
let y0 : Bool := xdec (v.t_3_0 < (↑qA.length : Int))
(.br (y0)
(.br (xdec (0 ≤ v.t_3_0) && y0)
(.br (xdec ((↑(qA.getD v.t_3_0.toNat (dflt ET.val)).s.size : Int) > 100))
(.leaf (some 0, v))
(.leaf (none, ⟨xwrap IntKind.i64 (v.t_3_0 + 1)⟩)))
.fail)
(.leaf (some 1, v)))
def S.zqbo_4_r (qA : List (Ty .val)) (v : S.zqbo_4_V) : Option (Option Nat × S.zqbo_4_V) := (S.zqbo_4_R qA v).run
def S.zqbo_4_j (qA : List (Ty .val)) (v : S.zqbo_4_V) (j : Nat) : Bool := Lp_j (S.zqbo_4_r qA) v j
def S.zqbo_4_v (qA : List (Ty .val)) (v : S.zqbo_4_V) : S.zqbo_4_V := Lp_v (S.zqbo_4_r qA) v
def mk_zqbo_4 (qB : ByteArray) (qC : Int) (qD : Option Bool) (qE : Bool) (qA : List (Ty .val)) (v : S.zqbo_4_V) : St := ⟨[V.any, V.v false [C.ptr 0 0], V.any, V.v false [C.d (.sc (.int .i64 v.t_3_0))], V.any, V.any, V.any, V.any, V.any, V.any, V.any, V.any, V.any, V.any, V.any, V.any,
  V.any, V.any, V.any, V.any, V.any, V.any, V.any, V.any, V.any, V.any, V.any, V.any, V.any], [some (Blk.box 29 [C.d (.sc (.str qB)), C.d (.sc (.int .i64 qC)), C.d (.sl qD qE ET.val qA)]), none, none, none, none, none, none, none, none, none,
  none, none, none], 0⟩
def ex_zqbo_4 (qB : ByteArray) (qC : Int) (qD : Option Bool) (qE : Bool) (qA : List (Ty .val)) (j : Nat) (v : S.zqbo_4_V) : Ex × St := match j with
  | 0 => (Ex.ret, ⟨[V.any, V.any, V.v false [C.d (.sc (.bool false))], V.any, V.any, V.any, V.any, V.any, V.any, V.any, V.any, V.any, V.any, V.any, V.any, V.any, V.any, V.any, V.any, V.any, V.any,
  V.any, V.any, V.any, V.any, V.any, V.any, V.any, V.any], [some (Blk.box 29 [C.d (.sc (.str qB)), C.d (.sc (.int .i64 qC)), C.d (.sl qD qE ET.val qA)]), none, none, none, none, none, none, none, none, none,
  none, none, none, none, none, none, none, none, none, none, none, none, none, none, none, none, none], 0⟩)
  | 1 => (Ex.exit 0, ⟨[V.any, V.any, V.any, V.any, V.any, V.any, V.any, V.any, V.any, V.any, V.any, V.any, V.any, V.any, V.any, V.any, V.any, V.any, V.any, V.any, V.any, V.any, V.any, V.any, V.any,
  V.any, V.any, V.any, V.any], [some (Blk.box 29 [C.d (.sc (.str qB)), C.d (.sc (.int .i64 qC)), C.d (.sl qD qE ET.val qA)]), none, none, none, none, none, none, none, none, none,
  none, none, none, none, none, none, none, none], 0⟩)
  | _ => (.ret, ⟨[], [], 0⟩)
def T1_zqbo_4 : V → V → Option Blk → Tree
  | V.v false [C.ptr 0 0], V.v false [C.d (.sc (.int .i64 t_3_0))], some (Blk.box 29 [C.d (.sc (.str qB)), C.d (.sc (.int .i64 qC)), C.d (.sl qD qE ET.val qA)]) => exT (fun j => ex_zqbo_4 qB qC qD qE qA j (S.zqbo_4_v qA ⟨t_3_0⟩)) (S.zqbo_4_j qA ⟨t_3_0⟩) [0, 1]
  | _, _, _ => .bad
def T_zqbo_4 (st : St) : Tree := bif okSt 29 13 0 [0] st then T1_zqbo_4 (st.env.getD 1 .any) (st.env.getD 3 .any) (lk st.heap 0) else .bad
def b_zqbo_4 : Code := loopBy Try.f36 4
theorem rnd_zqbo_4 (qB : ByteArray) (qC : Int) (qD : Option Bool) (qE : Bool) (qA : List (Ty .val)) (v : S.zqbo_4_V) : round2 cx_zqbo (hdI cx_zqbo (find []) [] none 0) 36 b_zqbo_4 [] 13 [2] (mk_zqbo_4 qB qC qD qE qA v) = (S.zqbo_4_R qA v).go (roundOut (mk_zqbo_4 qB qC qD qE qA) (ex_zqbo_4 qB qC qD qE qA)) := by kernel_rfl
theorem bs_zqbo_4 : loopsOf b_zqbo_4 ++ loopsInl [] = [] := by kernel_rfl
theorem ci_zqbo_4 (qB : ByteArray) (qC : Int) (qD : Option Bool) (qE : Bool) (qA : List (Ty .val)) : ∀ v j v2, Lp (S.zqbo_4_r qA) v = some (j, v2) → Circles Try.prog cx_zqbo b_zqbo_4 (mk_zqbo_4 qB qC qD qE qA v) (ex_zqbo_4 qB qC qD qE qA j v2).1 (ex_zqbo_4 qB qC qD qE qA j v2).2 :=
  loop_ok2 (L := find []) (n := 0) (hints := [(36, 4, { keep := [1, 3], acc := [] })]) (cx_ok rfl) rdy_zqbo bs_zqbo_4 nilB (fun v => (rnd_zqbo_4 qB qC qD qE qA v).trans (DT.go_run _ _)) (by intro j v; unfold ex_zqbo_4; split <;> rfl)
theorem mke_zqbo_4 (qB : ByteArray) (qC : Int) (qD : Option Bool) (qE : Bool) (qA : List (Ty .val)) (v : S.zqbo_4_V) : mk_zqbo_4 qB qC qD qE qA v = ⟨envOf 29 [(1, V.v false [C.ptr 0 0]), (3, V.v false [C.d (.sc (.int .i64 v.t_3_0))])], heapOf 13 [(0, some (Blk.box 29 [C.d (.sc (.str qB)), C.d (.sc (.int .i64 qC)), C.d (.sl qD qE ET.val qA)]))], 0⟩ := by kernel_rfl
theorem lo1_zqbo_4 (e1 : V) (e3 : V) (h0 : Option Blk) e st2 (h : (T1_zqbo_4 e1 e3 h0).eval = some (e, st2)) : Circles Try.prog cx_zqbo b_zqbo_4 ⟨envOf 29 [(1, e1), (3, e3)], heapOf 13 [(0, h0)], 0⟩ e st2 := by
  unfold T1_zqbo_4 at h
  split at h
  · have := loop_tree (mk := mk_zqbo_4 _ _ _ _ _) (ci_zqbo_4 _ _ _ _ _) _ _ e st2 h
    rw [mke_zqbo_4] at this
    exact this
  · cases h
theorem lok_zqbo_4 : LoopOk Try.prog cx_zqbo b_zqbo_4 T_zqbo_4 := by
  intro st e st2 h
  unfold T_zqbo_4 at h
  cases hk : okSt 29 13 0 [0] st with
  | false => rw [hk] at h; cases h
  | true =>
    rw [hk] at h
    exact circles_keep (ks := [1, 3]) hk (lo1_zqbo_4 _ _ _ e st2 h)
structure S.zqbo_T where
  x0 : Bool
  deriving Inhabited
def S.zqbo_R (a0_0 : ByteArray) (a0_2 : List (Ty .val)) : DT S.zqbo_T :=
let y0 : S.zqbo_4_V := { t_3_0 := 0 : S.zqbo_4_V }
(.br (xdec ((↑a0_0.size : Int) > 60))
(.leaf ⟨false⟩)
(.br (xdec ((↑a0_2.length : Int) > 10))
(.leaf ⟨false⟩)
(.br (S.zqbo_4_j a0_2 y0 0)
(.leaf ⟨false⟩)
(.br (S.zqbo_4_j a0_2 y0 1)
(.leaf ⟨true⟩)
.fail))))
def S.zqbo (a0_0 : ByteArray) (a0_2 : List (Ty .val)) : Option S.zqbo_T := (S.zqbo_R a0_0 a0_2).run
def S.zqbo_is (a0_0 : ByteArray) (a0_2 : List (Ty .val)) : Bool := (S.zqbo a0_0 a0_2).isSome
def S.zqbo_o (a0_0 : ByteArray) (a0_2 : List (Ty .val)) : S.zqbo_T := (S.zqbo a0_0 a0_2).getD default
def ret_zqbo (b : Bool) (r : S.zqbo_T) : Ret := ⟨b, none, [(false, [C.d (.sc (.bool r.x0))])]⟩
def g_zqbo : Con
  | [(true, [.sc (.str a0_0), .sc (.int .i64 a0_1), .sl a0_2n a0_2f .val a0_2])] => some (ret_zqbo (S.zqbo_is a0_0 a0_2) (S.zqbo_o a0_0 a0_2))
  | _ => none
theorem raw_zqbo (a0_0 : ByteArray) (a0_1 : Int) (a0_2n : Option Bool) (a0_2f : Bool) (a0_2 : List (Ty .val)) : evR2 cx_zqbo (hdI cx_zqbo (find [(4, T_zqbo_4)]) [] none 0) none Try.f36 36 none [(true, [.sc (.str a0_0), .sc (.int .i64 a0_1), .sl a0_2n a0_2f .val a0_2])] some = (S.zqbo_R a0_0 a0_2).go (ret_zqbo true) := by kernel_rfl
theorem bs_zqbo : loopsIn Try.f36 [] = [b_zqbo_4] := by kernel_rfl
theorem zqbo_ok : Stands Try.prog tyTab 36 g_zqbo := by
  refine stands3 (L := find [(4, T_zqbo_4)]) (n := 0) (hints := [(36, 4, { keep := [1, 3], acc := [] })]) (cx_ok rfl) rdy_zqbo ⟨by kernel_rfl, by kernel_rfl, by kernel_rfl⟩ bs_zqbo (consB (fun T h => by have e : T_zqbo_4 = T := Option.some.inj (show some T_zqbo_4 = some T from h); exact e ▸ lok_zqbo_4) nilB) (fun das r hG hr => ?_)
  unfold g_zqbo at hG
  split at hG
  · rename_i a0_0 a0_1 a0_2n a0_2f a0_2
    injection hG with hG; subst hG
    exact ⟨none, true, win default ((raw_zqbo a0_0 a0_1 a0_2n a0_2f a0_2).trans (DT.go_run _ _)) hr⟩
  · cases hG
abbrev cx_zqbp : Cx := mkCx2 tyTab [] [] [(37, 4, { keep := [0, 3], acc := [] })] []
theorem rdy_zqbp : Ready Try.prog tyTab [] [] [] := ⟨noneG2, noneI2, noneF2⟩
structure S.zqbp_4_V where
  t_3_0 : Int
def S.zqbp_4_R (qF : List (Ty .op)) (v : S.zqbp_4_V) : DT (Option Nat × S.zqbp_4_V) :=
let y0 : Bool := xdec (v.t_3_0 < (↑qF.length : Int))
(.br (y0)
(.br (xdec (0 ≤ v.t_3_0) && y0)
(.br (xdec ((↑(qF.getD v.t_3_0.toNat (dflt ET.op)).v.s.size : Int) > 100))
(.leaf (some 0, v))
(.leaf (none, ⟨xwrap IntKind.i64 (v.t_3_0 + 1)⟩)))
.fail)
(.leaf (some 1, v)))
def S.zqbp_4_r (qF : List (Ty .op)) (v : S.zqbp_4_V) : Option (Option Nat × S.zqbp_4_V) := (S.zqbp_4_R qF v).run
def S.zqbp_4_j (qF : List (Ty .op)) (v : S.zqbp_4_V) (j : Nat) : Bool := Lp_j (S.zqbp_4_r qF) v j
def S.zqbp_4_v (qF : List (Ty .op)) (v : S.zqbp_4_V) : S.zqbp_4_V := Lp_v (S.zqbp_4_r qF) v
def mk_zqbp_4 (qG : Option Bool) (qH : Bool) (qF : List (Ty .op)) (v : S.zqbp_4_V) : St := ⟨[V.v false [C.d (.sl qG qH ET.op qF)], V.any, V.any, V.v false [C.d (.sc (.int .i64 v.t_3_0))], V.any, V.any, V.any, V.any, V.any, V.any, V.any, V.any, V.any,
  V.any, V.any, V.any, V.any, V.any, V.any, V.any, V.any], [none, none, none, none, none], 0⟩
def ex_zqbp_4 (qG : Option Bool) (qH : Bool) (qF : List (Ty .op)) (j : Nat) (v : S.zqbp_4_V) : Ex × St := match j with
  | 0 => (Ex.ret, ⟨[V.any, V.any, V.v false [C.d (.sc (.bool false))], V.any, V.any, V.any, V.any, V.any, V.any, V.any, V.any, V.any, V.any, V.any, V.any, V.any, V.any, V.any, V.any, V.any, V.any], [none, none, none, none, none, none, none, none, none, none, none, none, none, none, none, none, none, none], 0⟩)
  | 1 => (Ex.exit 0, ⟨[V.any, V.any, V.any, V.any, V.any, V.any, V.any, V.any, V.any, V.any, V.any, V.any, V.any, V.any, V.any, V.any, V.any, V.any, V.any, V.any, V.any], [none, none, none, none, none, none, none, none, none], 0⟩)
  | _ => (.ret, ⟨[], [], 0⟩)
def T1_zqbp_4 : V → V → Tree
  | V.v false [C.d (.sl qG qH ET.op qF)], V.v false [C.d (.sc (.int .i64 t_3_0))] => exT (fun j => ex_zqbp_4 qG qH qF j (S.zqbp_4_v qF ⟨t_3_0⟩)) (S.zqbp_4_j qF ⟨t_3_0⟩) [0, 1]
  | _, _ => .bad
def T_zqbp_4 (st : St) : Tree := bif okSt 21 5 0 [] st then T1_zqbp_4 (st.env.getD 0 .any) (st.env.getD 3 .any) else .bad
def b_zqbp_4 : Code := loopBy Try.f37 4
theorem rnd_zqbp_4 (qG : Option Bool) (qH : Bool) (qF : List (Ty .op)) (v : S.zqbp_4_V) : round2 cx_zqbp (hdI cx_zqbp (find []) [] none 0) 37 b_zqbp_4 [] 5 [2] (mk_zqbp_4 qG qH qF v) = (S.zqbp_4_R qF v).go (roundOut (mk_zqbp_4 qG qH qF) (ex_zqbp_4 qG qH qF)) := by kernel_rfl
theorem bs_zqbp_4 : loopsOf b_zqbp_4 ++ loopsInl [] = [] := by kernel_rfl
theorem ci_zqbp_4 (qG : Option Bool) (qH : Bool) (qF : List (Ty .op)) : ∀ v j v2, Lp (S.zqbp_4_r qF) v = some (j, v2) → Circles Try.prog cx_zqbp b_zqbp_4 (mk_zqbp_4 qG qH qF v) (ex_zqbp_4 qG qH qF j v2).1 (ex_zqbp_4 qG qH qF j v2).2 :=
  loop_ok2 (L := find []) (n := 0) (hints := [(37, 4, { keep := [0, 3], acc := [] })]) (cx_ok rfl) rdy_zqbp bs_zqbp_4 nilB (fun v => (rnd_zqbp_4 qG qH qF v).trans (DT.go_run _ _)) (by intro j v; unfold ex_zqbp_4; split <;> rfl)
theorem mke_zqbp_4 (qG : Option Bool) (qH : Bool) (qF : List (Ty .op)) (v : S.zqbp_4_V) : mk_zqbp_4 qG qH qF v = ⟨envOf 21 [(0, V.v false [C.d (.sl qG qH ET.op qF)]), (3, V.v false [C.d (.sc (.int .i64 v.t_3_0))])], heapOf 5 [], 0⟩ := by kernel_rfl
theorem lo1_zqbp_4 (e0 : V) (e3 : V)  e st2 (h : (T1_zqbp_4 e0 e3).eval = some (e, st2)) : Circles Try.prog cx_zqbp b_zqbp_4 ⟨envOf 21 [(0, e0), (3, e3)], heapOf 5 [], 0⟩ e st2 := by
  unfold T1_zqbp_4 at h
  split at h
  · have := loop_tree (mk := mk_zqbp_4 _ _ _) (ci_zqbp_4 _ _ _) _ _ e st2 h
    rw [mke_zqbp_4] at this
    exact this
  · cases h
theorem lok_zqbp_4 : LoopOk Try.prog cx_zqbp b_zqbp_4 T_zqbp_4 := by
  intro st e st2 h
  unfold T_zqbp_4 at h
  cases hk : okSt 21 5 0 [] st with
  | false => rw [hk] at h; cases h
  | true =>
    rw [hk] at h
    exact circles_keep (ks := [0, 3]) hk (lo1_zqbp_4 _ _ e st2 h)
structure S.zqbp_T where
  x0 : Bool
  deriving Inhabited
def S.zqbp_R (a0 : List (Ty .op)) : DT S.zqbp_T :=
let y0 : S.zqbp_4_V := { t_3_0 := 0 : S.zqbp_4_V }
(.br (xdec ((↑a0.length : Int) > 20))
(.leaf ⟨false⟩)
(.br (S.zqbp_4_j a0 y0 0)
(.leaf ⟨false⟩)
(.br (S.zqbp_4_j a0 y0 1)
(.leaf ⟨true⟩)
.fail)))
def S.zqbp (a0 : List (Ty .op)) : Option S.zqbp_T := (S.zqbp_R a0).run
def S.zqbp_is (a0 : List (Ty .op)) : Bool := (S.zqbp a0).isSome
def S.zqbp_o (a0 : List (Ty .op)) : S.zqbp_T := (S.zqbp a0).getD default
def ret_zqbp (b : Bool) (r : S.zqbp_T) : Ret := ⟨b, none, [(false, [C.d (.sc (.bool r.x0))])]⟩
def g_zqbp : Con
  | [(false, [.sl a0n a0f .op a0])] => some (ret_zqbp (S.zqbp_is a0) (S.zqbp_o a0))
  | _ => none
theorem raw_zqbp (a0n : Option Bool) (a0f : Bool) (a0 : List (Ty .op)) : evR2 cx_zqbp (hdI cx_zqbp (find [(4, T_zqbp_4)]) [] none 0) none Try.f37 37 none [(false, [.sl a0n a0f .op a0])] some = (S.zqbp_R a0).go (ret_zqbp true) := by kernel_rfl
theorem bs_zqbp : loopsIn Try.f37 [] = [b_zqbp_4] := by kernel_rfl
theorem zqbp_ok : Stands Try.prog tyTab 37 g_zqbp := by
  refine stands3 (L := find [(4, T_zqbp_4)]) (n := 0) (hints := [(37, 4, { keep := [0, 3], acc := [] })]) (cx_ok rfl) rdy_zqbp ⟨by kernel_rfl, by kernel_rfl, by kernel_rfl⟩ bs_zqbp (consB (fun T h => by have e : T_zqbp_4 = T := Option.some.inj (show some T_zqbp_4 = some T from h); exact e ▸ lok_zqbp_4) nilB) (fun das r hG hr => ?_)
  unfold g_zqbp at hG
  split at hG
  · rename_i a0n a0f a0
    injection hG with hG; subst hG
    exact ⟨none, true, win default ((raw_zqbp a0n a0f a0).trans (DT.go_run _ _)) hr⟩
  · cases hG
abbrev cx_zqbq : Cx := mkCx2 tyTab [(37, g_zqbp)] [] [(50, 4, { keep := [1, 3], acc := [] })] []
theorem rdy_zqbq : Ready Try.prog tyTab [(37, g_zqbp)] [] [] := ⟨consG2 zqbp_ok (noneG2), noneI2, noneF2⟩
structure S.zqbq_4_V where
  t_3_0 : Int
def S.zqbq_4_R (qB : List (Ty .step)) (v : S.zqbq_4_V) : DT (Option Nat × S.zqbq_4_V) :=
let y0 : Bool := xdec (v.t_3_0 < (↑qB.length : Int))
let y1 : Ty ET.step := qB.getD v.t_3_0.toNat (dflt ET.step)
let y2 : List Opn := y1.ifs
let y3 : List Opn := y1.notIf
(.br (y0)
(.br (xdec (0 ≤ v.t_3_0) && y0)
(.br (S.zqbp_is y2)
(.br (S.zqbp_is y3)
(.br (xnot (S.zqbp_o y2).x0)
(.leaf (some 0, v))
(.br (xnot (S.zqbp_o y3).x0)
(.leaf (some 0, v))
(.br (xdec ((↑y1.name.size : Int) > 60))
(.leaf (some 0, v))
(.br (xdec ((↑y1.notName.size : Int) > 60))
(.leaf (some 0, v))
(.leaf (none, ⟨xwrap IntKind.i64 (v.t_3_0 + 1)⟩))))))
.fail)
.fail)
.fail)
(.leaf (some 1, v)))
def S.zqbq_4_r (qB : List (Ty .step)) (v : S.zqbq_4_V) : Option (Option Nat × S.zqbq_4_V) := (S.zqbq_4_R qB v).run
def S.zqbq_4_j (qB : List (Ty .step)) (v : S.zqbq_4_V) (j : Nat) : Bool := Lp_j (S.zqbq_4_r qB) v j
def S.zqbq_4_v (qB : List (Ty .step)) (v : S.zqbq_4_V) : S.zqbq_4_V := Lp_v (S.zqbq_4_r qB) v
def mk_zqbq_4 (qI : Option Bool) (qJ : Bool) (qB : List (Ty .step)) (qC : Int) (qA : Int) (qK : Int) (qL : Int) (v : S.zqbq_4_V) : St := ⟨[V.any, V.v false [C.ptr 0 0], V.any, V.v false [C.d (.sc (.int .i64 v.t_3_0))], V.any, V.any, V.any, V.any, V.any, V.any, V.any, V.any, V.any, V.any, V.any, V.any,
  V.any, V.any, V.any, V.any, V.any, V.any, V.any, V.any, V.any, V.any, V.any, V.any, V.any, V.any, V.any, V.any, V.any, V.any, V.any, V.any, V.any, V.any, V.any, V.any, V.any,
  V.any, V.any, V.any, V.any, V.any, V.any], [some
    (Blk.box 45
      [C.d (.sl qI qJ ET.step qB), C.d (.sc (.int .i64 qC)), C.d (.sc (.int .i64 qA)), C.d (.sc (.int .i64 qK)),
        C.d (.sc (.int .i64 qL))]),
  none, none, none, none, none, none], 0⟩
def ex_zqbq_4 (qI : Option Bool) (qJ : Bool) (qB : List (Ty .step)) (qC : Int) (qA : Int) (qK : Int) (qL : Int) (j : Nat) (v : S.zqbq_4_V) : Ex × St := match j with
  | 0 => (Ex.ret, ⟨[V.any, V.any, V.v false [C.d (.sc (.bool false))], V.any, V.any, V.any, V.any, V.any, V.any, V.any, V.any, V.any, V.any, V.any, V.any, V.any, V.any, V.any, V.any, V.any, V.any,
  V.any, V.any, V.any, V.any, V.any, V.any, V.any, V.any, V.any, V.any, V.any, V.any, V.any, V.any, V.any, V.any, V.any, V.any, V.any, V.any, V.any, V.any, V.any, V.any, V.any,
  V.any], [some
    (Blk.box 45
      [C.d (.sl qI qJ ET.step qB), C.d (.sc (.int .i64 qC)), C.d (.sc (.int .i64 qA)), C.d (.sc (.int .i64 qK)),
        C.d (.sc (.int .i64 qL))]),
  none, none, none, none, none, none, none, none, none, none, none, none, none, none, none, none,
  some
    (Blk.box 47
      [C.d (.sc (.str (qB.getD v.t_3_0.toNat (dflt ET.step)).name)), C.d (.sl none false ET.op (qB.getD v.t_3_0.toNat (dflt ET.step)).ifs),
        C.d (.sc (.int .i64 (qB.getD v.t_3_0.toNat (dflt ET.step)).min)), C.d (.sc (.int .i64 (qB.getD v.t_3_0.toNat (dflt ET.step)).max)),
        C.d (.sc (.bool (qB.getD v.t_3_0.toNat (dflt ET.step)).guard)), C.d (.sc (.str (qB.getD v.t_3_0.toNat (dflt ET.step)).notName)),
        C.d (.sl none false ET.op (qB.getD v.t_3_0.toNat (dflt ET.step)).notIf)]),
  none, none, none, none, none, none, none, none, none, none, none, none, none, none, none, none, none, none, none, none, none, none, none, none, none, none, none, none], 0⟩)
  | 1 => (Ex.exit 0, ⟨[V.any, V.any, V.any, V.any, V.any, V.any, V.any, V.any, V.any, V.any, V.any, V.any, V.any, V.any, V.any, V.any, V.any, V.any, V.any, V.any, V.any, V.any, V.any, V.any, V.any,
  V.any, V.any, V.any, V.any, V.any, V.any, V.any, V.any, V.any, V.any, V.any, V.any, V.any, V.any, V.any, V.any, V.any, V.any, V.any, V.any, V.any, V.any], [some
    (Blk.box 45
      [C.d (.sl qI qJ ET.step qB), C.d (.sc (.int .i64 qC)), C.d (.sc (.int .i64 qA)), C.d (.sc (.int .i64 qK)),
        C.d (.sc (.int .i64 qL))]),
  none, none, none, none, none, none, none, none, none, none, none], 0⟩)
  | _ => (.ret, ⟨[], [], 0⟩)
def T1_zqbq_4 : V → V → Option Blk → Tree
  | V.v false [C.ptr 0 0], V.v false [C.d (.sc (.int .i64 t_3_0))], some (Blk.box 45 [C.d (.sl qI qJ ET.step qB), C.d (.sc (.int .i64 qC)), C.d (.sc (.int .i64 qA)), C.d (.sc (.int .i64 qK)), C.d (.sc (.int .i64 qL))]) => exT (fun j => ex_zqbq_4 qI qJ qB qC qA qK qL j (S.zqbq_4_v qB ⟨t_3_0⟩)) (S.zqbq_4_j qB ⟨t_3_0⟩) [0, 1]
  | _, _, _ => .bad
def T_zqbq_4 (st : St) : Tree := bif okSt 47 7 0 [0] st then T1_zqbq_4 (st.env.getD 1 .any) (st.env.getD 3 .any) (lk st.heap 0) else .bad
def b_zqbq_4 : Code := loopBy Try.f50 4
theorem rnd_zqbq_4 (qI : Option Bool) (qJ : Bool) (qB : List (Ty .step)) (qC : Int) (qA : Int) (qK : Int) (qL : Int) (v : S.zqbq_4_V) : round2 cx_zqbq (hdI cx_zqbq (find []) [] none 0) 50 b_zqbq_4 [] 7 [2] (mk_zqbq_4 qI qJ qB qC qA qK qL v) = (S.zqbq_4_R qB v).go (roundOut (mk_zqbq_4 qI qJ qB qC qA qK qL) (ex_zqbq_4 qI qJ qB qC qA qK qL)) := by kernel_rfl
theorem bs_zqbq_4 : loopsOf b_zqbq_4 ++ loopsInl [] = [] := by kernel_rfl
theorem ci_zqbq_4 (qI : Option Bool) (qJ : Bool) (qB : List (Ty .step)) (qC : Int) (qA : Int) (qK : Int) (qL : Int) : ∀ v j v2, Lp (S.zqbq_4_r qB) v = some (j, v2) → Circles Try.prog cx_zqbq b_zqbq_4 (mk_zqbq_4 qI qJ qB qC qA qK qL v) (ex_zqbq_4 qI qJ qB qC qA qK qL j v2).1 (ex_zqbq_4 qI qJ qB qC qA qK qL j v2).2 :=
  loop_ok2 (L := find []) (n := 0) (hints := [(50, 4, { keep := [1, 3], acc := [] })]) (cx_ok rfl) rdy_zqbq bs_zqbq_4 nilB (fun v => (rnd_zqbq_4 qI qJ qB qC qA qK qL v).trans (DT.go_run _ _)) (by intro j v; unfold ex_zqbq_4; split <;> rfl)
theorem mke_zqbq_4 (qI : Option Bool) (qJ : Bool) (qB : List (Ty .step)) (qC : Int) (qA : Int) (qK : Int) (qL : Int) (v : S.zqbq_4_V) : mk_zqbq_4 qI qJ qB qC qA qK qL v = ⟨envOf 47 [(1, V.v false [C.ptr 0 0]), (3, V.v false [C.d (.sc (.int .i64 v.t_3_0))])], heapOf 7 [(0, some
  (Blk.box 45
    [C.d (.sl qI qJ ET.step qB), C.d (.sc (.int .i64 qC)), C.d (.sc (.int .i64 qA)), C.d (.sc (.int .i64 qK)),
      C.d (.sc (.int .i64 qL))]))], 0⟩ := by kernel_rfl
theorem lo1_zqbq_4 (e1 : V) (e3 : V) (h0 : Option Blk) e st2 (h : (T1_zqbq_4 e1 e3 h0).eval = some (e, st2)) : Circles Try.prog cx_zqbq b_zqbq_4 ⟨envOf 47 [(1, e1), (3, e3)], heapOf 7 [(0, h0)], 0⟩ e st2 := by
  unfold T1_zqbq_4 at h
  split at h
  · have := loop_tree (mk := mk_zqbq_4 _ _ _ _ _ _ _) (ci_zqbq_4 _ _ _ _ _ _ _) _ _ e st2 h
    rw [mke_zqbq_4] at this
    exact this
  · cases h
theorem lok_zqbq_4 : LoopOk Try.prog cx_zqbq b_zqbq_4 T_zqbq_4 := by
  intro st e st2 h
  unfold T_zqbq_4 at h
  cases hk : okSt 47 7 0 [0] st with
  | false => rw [hk] at h; cases h
  | true =>
    rw [hk] at h
    exact circles_keep (ks := [1, 3]) hk (lo1_zqbq_4 _ _ _ e st2 h)
structure S.zqbq_T where
  x0 : Bool
  deriving Inhabited
def S.zqbq_R (a0_0 : List (Ty .step)) : DT S.zqbq_T :=
let y0 : S.zqbq_4_V := { t_3_0 := 0 : S.zqbq_4_V }
(.br (xdec ((↑a0_0.length : Int) > 8))
(.leaf ⟨false⟩)
(.br (S.zqbq_4_j a0_0 y0 0)
(.leaf ⟨false⟩)
(.br (S.zqbq_4_j a0_0 y0 1)
(.leaf ⟨true⟩)
.fail)))
def S.zqbq (a0_0 : List (Ty .step)) : Option S.zqbq_T := (S.zqbq_R a0_0).run
def S.zqbq_is (a0_0 : List (Ty .step)) : Bool := (S.zqbq a0_0).isSome
def S.zqbq_o (a0_0 : List (Ty .step)) : S.zqbq_T := (S.zqbq a0_0).getD default
def ret_zqbq (b : Bool) (r : S.zqbq_T) : Ret := ⟨b, none, [(false, [C.d (.sc (.bool r.x0))])]⟩
def g_zqbq : Con
  | [(true, [.sl a0_0n a0_0f .step a0_0, .sc (.int .i64 a0_1), .sc (.int .i64 a0_2), .sc (.int .i64 a0_3), .sc (.int .i64 a0_4)])] => some (ret_zqbq (S.zqbq_is a0_0) (S.zqbq_o a0_0))
  | _ => none
theorem raw_zqbq (a0_0n : Option Bool) (a0_0f : Bool) (a0_0 : List (Ty .step)) (a0_1 : Int) (a0_2 : Int) (a0_3 : Int) (a0_4 : Int) : evR2 cx_zqbq (hdI cx_zqbq (find [(4, T_zqbq_4)]) [] none 0) none Try.f50 50 none [(true, [.sl a0_0n a0_0f .step a0_0, .sc (.int .i64 a0_1), .sc (.int .i64 a0_2), .sc (.int .i64 a0_3), .sc (.int .i64 a0_4)])] some = (S.zqbq_R a0_0).go (ret_zqbq true) := by kernel_rfl
theorem bs_zqbq : loopsIn Try.f50 [] = [b_zqbq_4] := by kernel_rfl
theorem zqbq_ok : Stands Try.prog tyTab 50 g_zqbq := by
  refine stands3 (L := find [(4, T_zqbq_4)]) (n := 0) (hints := [(50, 4, { keep := [1, 3], acc := [] })]) (cx_ok rfl) rdy_zqbq ⟨by kernel_rfl, by kernel_rfl, by kernel_rfl⟩ bs_zqbq (consB (fun T h => by have e : T_zqbq_4 = T := Option.some.inj (show some T_zqbq_4 = some T from h); exact e ▸ lok_zqbq_4) nilB) (fun das r hG hr => ?_)
  unfold g_zqbq at hG
  split at hG
  · rename_i a0_0n a0_0f a0_0 a0_1 a0_2 a0_3 a0_4
    injection hG with hG; subst hG
    exact ⟨none, true, win default ((raw_zqbq a0_0n a0_0f a0_0 a0_1 a0_2 a0_3 a0_4).trans (DT.go_run _ _)) hr⟩
  · cases hG
abbrev cx_zqby : Cx := mkCx2 tyTab [(47, g_zqay)] [] [] []
theorem rdy_zqby : Ready Try.prog tyTab [(47, g_zqay)] [] [] := ⟨consG2 zqay_ok (noneG2), noneI2, noneF2⟩
structure S.zqby_T where
  x0 : Bool
  deriving Inhabited
def S.zqby_R (a0_0 : ByteArray) (a0_1 : List (Ty .op)) (a1_0 : ByteArray) (a1_1 : Int) (a1_2 : List (Ty .val)) : DT S.zqby_T :=
(.br (S.zqay_is a0_0 a0_1 a1_0 a1_1 a1_2)
(.leaf ⟨(S.zqay_o a0_0 a0_1 a1_0 a1_1 a1_2).x0⟩)
.fail)
def S.zqby (a0_0 : ByteArray) (a0_1 : List (Ty .op)) (a1_0 : ByteArray) (a1_1 : Int) (a1_2 : List (Ty .val)) : Option S.zqby_T := (S.zqby_R a0_0 a0_1 a1_0 a1_1 a1_2).run
def S.zqby_is (a0_0 : ByteArray) (a0_1 : List (Ty .op)) (a1_0 : ByteArray) (a1_1 : Int) (a1_2 : List (Ty .val)) : Bool := (S.zqby a0_0 a0_1 a1_0 a1_1 a1_2).isSome
def S.zqby_o (a0_0 : ByteArray) (a0_1 : List (Ty .op)) (a1_0 : ByteArray) (a1_1 : Int) (a1_2 : List (Ty .val)) : S.zqby_T := (S.zqby a0_0 a0_1 a1_0 a1_1 a1_2).getD default
def ret_zqby (b : Bool) (r : S.zqby_T) : Ret := ⟨b, none, [(false, [C.d (.sc (.bool r.x0))])]⟩
def g_zqby : Con
  | [(true, [.sc (.str a0_0), .sl a0_1n a0_1f .op a0_1, .sc (.int .i64 a0_2), .sc (.int .i64 a0_3), .sc (.bool a0_4), .sc (.str a0_5), .sl a0_6n a0_6f .op a0_6]), (true, [.sc (.str a1_0), .sc (.int .i64 a1_1), .sl a1_2n a1_2f .val a1_2])] => some (ret_zqby (S.zqby_is a0_0 a0_1 a1_0 a1_1 a1_2) (S.zqby_o a0_0 a0_1 a1_0 a1_1 a1_2))
  | _ => none
theorem raw_zqby (a0_0 : ByteArray) (a0_1n : Option Bool) (a0_1f : Bool) (a0_1 : List (Ty .op)) (a0_2 : Int) (a0_3 : Int) (a0_4 : Bool) (a0_5 : ByteArray) (a0_6n : Option Bool) (a0_6f : Bool) (a0_6 : List (Ty .op)) (a1_0 : ByteArray) (a1_1 : Int) (a1_2n : Option Bool) (a1_2f : Bool) (a1_2 : List (Ty .val)) : evR2 cx_zqby (hdI cx_zqby (find []) [] none 0) none Try.f93 93 none [(true, [.sc (.str a0_0), .sl a0_1n a0_1f .op a0_1, .sc (.int .i64 a0_2), .sc (.int .i64 a0_3), .sc (.bool a0_4), .sc (.str a0_5), .sl a0_6n a0_6f .op a0_6]), (true, [.sc (.str a1_0), .sc (.int .i64 a1_1), .sl a1_2n a1_2f .val a1_2])] some = (S.zqby_R a0_0 a0_1 a1_0 a1_1 a1_2).go (ret_zqby true) := by kernel_rfl
theorem bs_zqby : loopsIn Try.f93 [] = [] := by kernel_rfl
theorem zqby_ok : Stands Try.prog tyTab 93 g_zqby := by
  refine stands3 (L := find []) (n := 0) (hints := []) (cx_ok rfl) rdy_zqby ⟨by kernel_rfl, by kernel_rfl, by kernel_rfl⟩ bs_zqby nilB (fun das r hG hr => ?_)
  unfold g_zqby at hG
  split at hG
  · rename_i a0_0 a0_1n a0_1f a0_1 a0_2 a0_3 a0_4 a0_5 a0_6n a0_6f a0_6 a1_0 a1_1 a1_2n a1_2f a1_2
    injection hG with hG; subst hG
    exact ⟨none, true, win default ((raw_zqby a0_0 a0_1n a0_1f a0_1 a0_2 a0_3 a0_4 a0_5 a0_6n a0_6f a0_6 a1_0 a1_1 a1_2n a1_2f a1_2).trans (DT.go_run _ _)) hr⟩
  · cases hG
abbrev cx_zqba : Cx := mkCx2 tyTab [(47, g_zqay)] [] [] []
theorem rdy_zqba : Ready Try.prog tyTab [(47, g_zqay)] [] [] := ⟨consG2 zqay_ok (noneG2), noneI2, noneF2⟩
structure S.zqba_T where
  x0 : Bool
  deriving Inhabited
def S.zqba_R (a0_4 : Bool) (a0_5 : ByteArray) (a0_6 : List (Ty .op)) (a1_0 : ByteArray) (a1_1 : Int) (a1_2 : List (Ty .val)) : DT S.zqba_T :=
(.br (a0_4)
(.br (S.zqay_is a0_5 a0_6 a1_0 a1_1 a1_2)
(.leaf ⟨(S.zqay_o a0_5 a0_6 a1_0 a1_1 a1_2).x0⟩)
.fail)
(.leaf ⟨false⟩))
def S.zqba (a0_4 : Bool) (a0_5 : ByteArray) (a0_6 : List (Ty .op)) (a1_0 : ByteArray) (a1_1 : Int) (a1_2 : List (Ty .val)) : Option S.zqba_T := (S.zqba_R a0_4 a0_5 a0_6 a1_0 a1_1 a1_2).run
def S.zqba_is (a0_4 : Bool) (a0_5 : ByteArray) (a0_6 : List (Ty .op)) (a1_0 : ByteArray) (a1_1 : Int) (a1_2 : List (Ty .val)) : Bool := (S.zqba a0_4 a0_5 a0_6 a1_0 a1_1 a1_2).isSome
def S.zqba_o (a0_4 : Bool) (a0_5 : ByteArray) (a0_6 : List (Ty .op)) (a1_0 : ByteArray) (a1_1 : Int) (a1_2 : List (Ty .val)) : S.zqba_T := (S.zqba a0_4 a0_5 a0_6 a1_0 a1_1 a1_2).getD default
def ret_zqba (b : Bool) (r : S.zqba_T) : Ret := ⟨b, none, [(false, [C.d (.sc (.bool r.x0))])]⟩
def g_zqba : Con
  | [(true, [.sc (.str a0_0), .sl a0_1n a0_1f .op a0_1, .sc (.int .i64 a0_2), .sc (.int .i64 a0_3), .sc (.bool a0_4), .sc (.str a0_5), .sl a0_6n a0_6f .op a0_6]), (true, [.sc (.str a1_0), .sc (.int .i64 a1_1), .sl a1_2n a1_2f .val a1_2])] => some (ret_zqba (S.zqba_is a0_4 a0_5 a0_6 a1_0 a1_1 a1_2) (S.zqba_o a0_4 a0_5 a0_6 a1_0 a1_1 a1_2))
  | _ => none
theorem raw_zqba (a0_0 : ByteArray) (a0_1n : Option Bool) (a0_1f : Bool) (a0_1 : List (Ty .op)) (a0_2 : Int) (a0_3 : Int) (a0_4 : Bool) (a0_5 : ByteArray) (a0_6n : Option Bool) (a0_6f : Bool) (a0_6 : List (Ty .op)) (a1_0 : ByteArray) (a1_1 : Int) (a1_2n : Option Bool) (a1_2f : Bool) (a1_2 : List (Ty .val)) : evR2 cx_zqba (hdI cx_zqba (find []) [] none 0) none Try.f97 97 none [(true, [.sc (.str a0_0), .sl a0_1n a0_1f .op a0_1, .sc (.int .i64 a0_2), .sc (.int .i64 a0_3), .sc (.bool a0_4), .sc (.str a0_5), .sl a0_6n a0_6f .op a0_6]), (true, [.sc (.str a1_0), .sc (.int .i64 a1_1), .sl a1_2n a1_2f .val a1_2])] some = (S.zqba_R a0_4 a0_5 a0_6 a1_0 a1_1 a1_2).go (ret_zqba true) := by kernel_rfl
theorem bs_zqba : loopsIn Try.f97 [] = [] := by kernel_rfl
theorem zqba_ok : Stands Try.prog tyTab 97 g_zqba := by
  refine stands3 (L := find []) (n := 0) (hints := []) (cx_ok rfl) rdy_zqba ⟨by kernel_rfl, by kernel_rfl, by kernel_rfl⟩ bs_zqba nilB (fun das r hG hr => ?_)
  unfold g_zqba at hG
  split at hG
  · rename_i a0_0 a0_1n a0_1f a0_1 a0_2 a0_3 a0_4 a0_5 a0_6n a0_6f a0_6 a1_0 a1_1 a1_2n a1_2f a1_2
    injection hG with hG; subst hG
    exact ⟨none, true, win default ((raw_zqba a0_0 a0_1n a0_1f a0_1 a0_2 a0_3 a0_4 a0_5 a0_6n a0_6f a0_6 a1_0 a1_1 a1_2n a1_2f a1_2).trans (DT.go_run _ _)) hr⟩
  · cases hG
abbrev cx_zqcf : Cx := mkCx2 tyTab [] [] [] []
theorem rdy_zqcf : Ready Try.prog tyTab [] [] [] := ⟨noneG2, noneI2, noneF2⟩
structure S.zqcf_T where
  x0 : Bool
  deriving Inhabited
def S.zqcf_R (a0_1 : Int) (a1_1 : Int) (a2_1 : Int) : DT S.zqcf_T :=
(.br (xdec (a0_1 < 0))
(.leaf ⟨true⟩)
(.leaf ⟨xdec (xwrap IntKind.u64 (IntKind.u64.wrap a2_1 - IntKind.u64.wrap a1_1) > IntKind.u64.wrap a0_1)⟩))
def S.zqcf (a0_1 : Int) (a1_1 : Int) (a2_1 : Int) : Option S.zqcf_T := (S.zqcf_R a0_1 a1_1 a2_1).run
def S.zqcf_is (a0_1 : Int) (a1_1 : Int) (a2_1 : Int) : Bool := (S.zqcf a0_1 a1_1 a2_1).isSome
def S.zqcf_o (a0_1 : Int) (a1_1 : Int) (a2_1 : Int) : S.zqcf_T := (S.zqcf a0_1 a1_1 a2_1).getD default
def ret_zqcf (b : Bool) (r : S.zqcf_T) : Ret := ⟨b, none, [(false, [C.d (.sc (.bool r.x0))])]⟩
def g_zqcf : Con
  | [(true, [.sl a0_0n a0_0f .step a0_0, .sc (.int .i64 a0_1), .sc (.int .i64 a0_2), .sc (.int .i64 a0_3), .sc (.int .i64 a0_4)]), (true, [.sc (.int .i64 a1_0), .sc (.int .i64 a1_1), .sc (.int .i64 a1_2), .sc (.int .i64 a1_3), .sc (.int .i64 a1_4), .sc (.int .i64 a1_5), .sc (.bool a1_6)]), (true, [.sc (.str a2_0), .sc (.int .i64 a2_1), .sl a2_2n a2_2f .val a2_2])] => some (ret_zqcf (S.zqcf_is a0_1 a1_1 a2_1) (S.zqcf_o a0_1 a1_1 a2_1))
  | _ => none
theorem raw_zqcf (a0_0n : Option Bool) (a0_0f : Bool) (a0_0 : List (Ty .step)) (a0_1 : Int) (a0_2 : Int) (a0_3 : Int) (a0_4 : Int) (a1_0 : Int) (a1_1 : Int) (a1_2 : Int) (a1_3 : Int) (a1_4 : Int) (a1_5 : Int) (a1_6 : Bool) (a2_0 : ByteArray) (a2_1 : Int) (a2_2n : Option Bool) (a2_2f : Bool) (a2_2 : List (Ty .val)) : evR2 cx_zqcf (hdI cx_zqcf (find []) [] none 0) none Try.f96 96 none [(true, [.sl a0_0n a0_0f .step a0_0, .sc (.int .i64 a0_1), .sc (.int .i64 a0_2), .sc (.int .i64 a0_3), .sc (.int .i64 a0_4)]), (true, [.sc (.int .i64 a1_0), .sc (.int .i64 a1_1), .sc (.int .i64 a1_2), .sc (.int .i64 a1_3), .sc (.int .i64 a1_4), .sc (.int .i64 a1_5), .sc (.bool a1_6)]), (true, [.sc (.str a2_0), .sc (.int .i64 a2_1), .sl a2_2n a2_2f .val a2_2])] some = (S.zqcf_R a0_1 a1_1 a2_1).go (ret_zqcf true) := by kernel_rfl
theorem bs_zqcf : loopsIn Try.f96 [] = [] := by kernel_rfl
theorem zqcf_ok : Stands Try.prog tyTab 96 g_zqcf := by
  refine stands3 (L := find []) (n := 0) (hints := []) (cx_ok rfl) rdy_zqcf ⟨by kernel_rfl, by kernel_rfl, by kernel_rfl⟩ bs_zqcf nilB (fun das r hG hr => ?_)
  unfold g_zqcf at hG
  split at hG
  · rename_i a0_0n a0_0f a0_0 a0_1 a0_2 a0_3 a0_4 a1_0 a1_1 a1_2 a1_3 a1_4 a1_5 a1_6 a2_0 a2_1 a2_2n a2_2f a2_2
    injection hG with hG; subst hG
    exact ⟨none, true, win default ((raw_zqcf a0_0n a0_0f a0_0 a0_1 a0_2 a0_3 a0_4 a1_0 a1_1 a1_2 a1_3 a1_4 a1_5 a1_6 a2_0 a2_1 a2_2n a2_2f a2_2).trans (DT.go_run _ _)) hr⟩
  · cases hG
abbrev cx_zqce : Cx := mkCx2 tyTab [] [] [] []
theorem rdy_zqce : Ready Try.prog tyTab [] [] [] := ⟨noneG2, noneI2, noneF2⟩
structure S.zqce_T where
  x0 : Int
  deriving Inhabited
def S.zqce_R (a0_0 : List (Ty .step)) (a1_2 : Int) (a1_3 : Int) : DT S.zqce_T :=
let y0 : Int := (↑a0_0.length : Int)
(.br (xeqI a1_2 (xwrap IntKind.i64 (y0 - 1)))
(.br (xdec (0 ≤ a1_2) && xdec (a1_2 < y0))
(.br (xdec (a1_3 ≥ (a0_0.getD a1_2.toNat (dflt ET.step)).min))
(.leaf ⟨2⟩)
(.leaf ⟨0⟩))
.fail)
(.leaf ⟨0⟩))
def S.zqce (a0_0 : List (Ty .step)) (a1_2 : Int) (a1_3 : Int) : Option S.zqce_T := (S.zqce_R a0_0 a1_2 a1_3).run
def S.zqce_is (a0_0 : List (Ty .step)) (a1_2 : Int) (a1_3 : Int) : Bool := (S.zqce a0_0 a1_2 a1_3).isSome
def S.zqce_o (a0_0 : List (Ty .step)) (a1_2 : Int) (a1_3 : Int) : S.zqce_T := (S.zqce a0_0 a1_2 a1_3).getD default
def ret_zqce (b : Bool) (r : S.zqce_T) : Ret := ⟨b, none, [(false, [C.d (.sc (.int .i64 r.x0))])]⟩
def g_zqce : Con
  | [(true, [.sl a0_0n a0_0f .step a0_0, .sc (.int .i64 a0_1), .sc (.int .i64 a0_2), .sc (.int .i64 a0_3), .sc (.int .i64 a0_4)]), (true, [.sc (.int .i64 a1_0), .sc (.int .i64 a1_1), .sc (.int .i64 a1_2), .sc (.int .i64 a1_3), .sc (.int .i64 a1_4), .sc (.int .i64 a1_5), .sc (.bool a1_6)])] => some (ret_zqce (S.zqce_is a0_0 a1_2 a1_3) (S.zqce_o a0_0 a1_2 a1_3))
  | _ => none
theorem raw_zqce (a0_0n : Option Bool) (a0_0f : Bool) (a0_0 : List (Ty .step)) (a0_1 : Int) (a0_2 : Int) (a0_3 : Int) (a0_4 : Int) (a1_0 : Int) (a1_1 : Int) (a1_2 : Int) (a1_3 : Int) (a1_4 : Int) (a1_5 : Int) (a1_6 : Bool) : evR2 cx_zqce (hdI cx_zqce (find []) [] none 0) none Try.f95 95 none [(true, [.sl a0_0n a0_0f .step a0_0, .sc (.int .i64 a0_1), .sc (.int .i64 a0_2), .sc (.int .i64 a0_3), .sc (.int .i64 a0_4)]), (true, [.sc (.int .i64 a1_0), .sc (.int .i64 a1_1), .sc (.int .i64 a1_2), .sc (.int .i64 a1_3), .sc (.int .i64 a1_4), .sc (.int .i64 a1_5), .sc (.bool a1_6)])] some = (S.zqce_R a0_0 a1_2 a1_3).go (ret_zqce true) := by kernel_rfl
theorem bs_zqce : loopsIn Try.f95 [] = [] := by kernel_rfl
theorem zqce_ok : Stands Try.prog tyTab 95 g_zqce := by
  refine stands3 (L := find []) (n := 0) (hints := []) (cx_ok rfl) rdy_zqce ⟨by kernel_rfl, by kernel_rfl, by kernel_rfl⟩ bs_zqce nilB (fun das r hG hr => ?_)
  unfold g_zqce at hG
  split at hG
  · rename_i a0_0n a0_0f a0_0 a0_1 a0_2 a0_3 a0_4 a1_0 a1_1 a1_2 a1_3 a1_4 a1_5 a1_6
    injection hG with hG; subst hG
    exact ⟨none, true, win default ((raw_zqce a0_0n a0_0f a0_0 a0_1 a0_2 a0_3 a0_4 a1_0 a1_1 a1_2 a1_3 a1_4 a1_5 a1_6).trans (DT.go_run _ _)) hr⟩
  · cases hG
abbrev cx_zqci : Cx := mkCx2 tyTab [] [] [] []
theorem rdy_zqci : Ready Try.prog tyTab [] [] [] := ⟨noneG2, noneI2, noneF2⟩
structure S.zqci_T where
  x0 : Int
  x1 : Bool
  deriving Inhabited
def S.zqci_R (a0 : Int) (a1 : Int) : DT S.zqci_T :=
let y0 : Int := xwrap IntKind.i64 (a0 + a1)
(.br (bif xdec (y0 > a0) == xdec (a1 > 0) then false else true)
(.leaf ⟨a0, false⟩)
(.leaf ⟨y0, true⟩))
def S.zqci (a0 : Int) (a1 : Int) : Option S.zqci_T := (S.zqci_R a0 a1).run
def S.zqci_is (a0 : Int) (a1 : Int) : Bool := (S.zqci a0 a1).isSome
def S.zqci_o (a0 : Int) (a1 : Int) : S.zqci_T := (S.zqci a0 a1).getD default
def ret_zqci (b : Bool) (r : S.zqci_T) : Ret := ⟨b, none, [(false, [C.d (.sc (.int .i64 r.x0))]), (false, [C.d (.sc (.bool r.x1))])]⟩
def g_zqci : Con
  | [(false, [.sc (.int .i64 a0)]), (false, [.sc (.int .i64 a1)])] => some (ret_zqci (S.zqci_is a0 a1) (S.zqci_o a0 a1))
  | _ => none
theorem raw_zqci (a0 : Int) (a1 : Int) : evR2 cx_zqci (hdI cx_zqci (find []) [] none 0) none Try.f154 154 none [(false, [.sc (.int .i64 a0)]), (false, [.sc (.int .i64 a1)])] some = (S.zqci_R a0 a1).go (ret_zqci true) := by kernel_rfl
theorem bs_zqci : loopsIn Try.f154 [] = [] := by kernel_rfl
theorem zqci_ok : Stands Try.prog tyTab 154 g_zqci := by
  refine stands3 (L := find []) (n := 0) (hints := []) (cx_ok rfl) rdy_zqci ⟨by kernel_rfl, by kernel_rfl, by kernel_rfl⟩ bs_zqci nilB (fun das r hG hr => ?_)
  unfold g_zqci at hG
  split at hG
  · rename_i a0 a1
    injection hG with hG; subst hG
    exact ⟨none, true, win default ((raw_zqci a0 a1).trans (DT.go_run _ _)) hr⟩
  · cases hG
abbrev cx_zqbw : Cx := mkCx2 tyTab [] [] [] []
theorem rdy_zqbw : Ready Try.prog tyTab [] [] [] := ⟨noneG2, noneI2, noneF2⟩
structure S.zqbw_T where
  x0 : Int
  x1 : Bool
  deriving Inhabited
def S.zqbw_R (a0 : Int) (a1 : Int) : DT S.zqbw_T :=
(.leaf ⟨if a1 < a0 then a1 else a0, true⟩)
def S.zqbw (a0 : Int) (a1 : Int) : Option S.zqbw_T := (S.zqbw_R a0 a1).run
def S.zqbw_is (a0 : Int) (a1 : Int) : Bool := (S.zqbw a0 a1).isSome
def S.zqbw_o (a0 : Int) (a1 : Int) : S.zqbw_T := (S.zqbw a0 a1).getD default
def ret_zqbw (b : Bool) (r : S.zqbw_T) : Ret := ⟨b, none, [(false, [C.d (.sc (.int .i64 r.x0))]), (false, [C.d (.sc (.bool r.x1))])]⟩
def g_zqbw : Con
  | [(false, [.sc (.int .i64 a0)]), (false, [.sc (.int .i64 a1)])] => some (ret_zqbw (S.zqbw_is a0 a1) (S.zqbw_o a0 a1))
  | _ => none
theorem raw_zqbw (a0 : Int) (a1 : Int) : evR2 cx_zqbw (hdI cx_zqbw (find []) [] none 0) none Try.f155 155 none [(false, [.sc (.int .i64 a0)]), (false, [.sc (.int .i64 a1)])] some = (S.zqbw_R a0 a1).go (ret_zqbw true) := by kernel_rfl
theorem bs_zqbw : loopsIn Try.f155 [] = [] := by kernel_rfl
theorem zqbw_ok : Stands Try.prog tyTab 155 g_zqbw := by
  refine stands3 (L := find []) (n := 0) (hints := []) (cx_ok rfl) rdy_zqbw ⟨by kernel_rfl, by kernel_rfl, by kernel_rfl⟩ bs_zqbw nilB (fun das r hG hr => ?_)
  unfold g_zqbw at hG
  split at hG
  · rename_i a0 a1
    injection hG with hG; subst hG
    exact ⟨none, true, win default ((raw_zqbw a0 a1).trans (DT.go_run _ _)) hr⟩
  · cases hG
abbrev cx_zqcg : Cx := mkCx2 tyTab [] [] [] []
theorem rdy_zqcg : Ready Try.prog tyTab [] [] [] := ⟨noneG2, noneI2, noneF2⟩
structure S.zqcg_T where
  x0 : Int
  x1 : Bool
  deriving Inhabited
def S.zqcg_R (a0 : Int) (a1 : Int) : DT S.zqcg_T :=
(.leaf ⟨if a1 > a0 then a1 else a0, true⟩)
def S.zqcg (a0 : Int) (a1 : Int) : Option S.zqcg_T := (S.zqcg_R a0 a1).run
def S.zqcg_is (a0 : Int) (a1 : Int) : Bool := (S.zqcg a0 a1).isSome
def S.zqcg_o (a0 : Int) (a1 : Int) : S.zqcg_T := (S.zqcg a0 a1).getD default
def ret_zqcg (b : Bool) (r : S.zqcg_T) : Ret := ⟨b, none, [(false, [C.d (.sc (.int .i64 r.x0))]), (false, [C.d (.sc (.bool r.x1))])]⟩
def g_zqcg : Con
  | [(false, [.sc (.int .i64 a0)]), (false, [.sc (.int .i64 a1)])] => some (ret_zqcg (S.zqcg_is a0 a1) (S.zqcg_o a0 a1))
  | _ => none
theorem raw_zqcg (a0 : Int) (a1 : Int) : evR2 cx_zqcg (hdI cx_zqcg (find []) [] none 0) none Try.f156 156 none [(false, [.sc (.int .i64 a0)]), (false, [.sc (.int .i64 a1)])] some = (S.zqcg_R a0 a1).go (ret_zqcg true) := by kernel_rfl
theorem bs_zqcg : loopsIn Try.f156 [] = [] := by kernel_rfl
theorem zqcg_ok : Stands Try.prog tyTab 156 g_zqcg := by
  refine stands3 (L := find []) (n := 0) (hints := []) (cx_ok rfl) rdy_zqcg ⟨by kernel_rfl, by kernel_rfl, by kernel_rfl⟩ bs_zqcg nilB (fun das r hG hr => ?_)
  unfold g_zqcg at hG
  split at hG
  · rename_i a0 a1
    injection hG with hG; subst hG
    exact ⟨none, true, win default ((raw_zqcg a0 a1).trans (DT.go_run _ _)) hr⟩
  · cases hG
abbrev cx_zqbr : Cx := mkCx2 tyTab [] [] [] []
theorem rdy_zqbr : Ready Try.prog tyTab [] [] [] := ⟨noneG2, noneI2, noneF2⟩
structure S.zqbr_T where
  x0 : List (Ty .step)
  x1 : Int
  x2 : Int
  x3 : Int
  x4 : Int
  deriving Inhabited
def S.zqbr_R (a0 : Int) : DT S.zqbr_T :=
let y0 : Nat := 0 + 2
let y1 : Step := { name := { data := { toList := [97] : Array UInt8 } : ByteArray }, ifs := [], min := 1, max := 1, guard := false, notName := ByteArray.empty, notIf := [] : Step }
let y2 : Step := { name := { data := { toList := [98] : Array UInt8 } : ByteArray }, ifs := [], min := 1, max := 1, guard := false, notName := ByteArray.empty, notIf := [] : Step }
(.br (xdec (y0 ≤ (((List.replicate 2 (dflt ET.step)).set 0 y1).set 1 y2).length) && true && true && true)
(.leaf ⟨sub [y1, y2] 0 y0, a0, 0, 0, 0⟩)
.fail)
def S.zqbr (a0 : Int) : Option S.zqbr_T := (S.zqbr_R a0).run
def S.zqbr_is (a0 : Int) : Bool := (S.zqbr a0).isSome
def S.zqbr_o (a0 : Int) : S.zqbr_T := (S.zqbr a0).getD default
def ret_zqbr (b : Bool) (r : S.zqbr_T) : Ret := ⟨b, none, [(true,
    [C.d (.sl none false ET.step r.x0), C.d (.sc (.int .i64 r.x1)), C.d (.sc (.int .i64 r.x2)), C.d (.sc (.int .i64 r.x3)),
      C.d (.sc (.int .i64 r.x4))])]⟩
def g_zqbr : Con
  | [(false, [.sc (.int .i64 a0)])] => some (ret_zqbr (S.zqbr_is a0) (S.zqbr_o a0))
  | _ => none
theorem raw_zqbr (a0 : Int) : evR2 cx_zqbr (hdI cx_zqbr (find []) [] none 0) none Try.f91 91 none [(false, [.sc (.int .i64 a0)])] some = (S.zqbr_R a0).go (ret_zqbr true) := by kernel_rfl
theorem bs_zqbr : loopsIn Try.f91 [] = [] := by kernel_rfl
theorem zqbr_ok : Stands Try.prog tyTab 91 g_zqbr := by
  refine stands3 (L := find []) (n := 0) (hints := []) (cx_ok rfl) rdy_zqbr ⟨by kernel_rfl, by kernel_rfl, by kernel_rfl⟩ bs_zqbr nilB (fun das r hG hr => ?_)
  unfold g_zqbr at hG
  split at hG
  · rename_i a0
    injection hG with hG; subst hG
    exact ⟨none, true, win default ((raw_zqbr a0).trans (DT.go_run _ _)) hr⟩
  · cases hG
abbrev cx_told0 : Cx := mkCx2 tyTab [(154, g_zqci), (155, g_zqbw), (156, g_zqcg)] [] [] []
theorem rdy_told0 : Ready Try.prog tyTab [(154, g_zqci), (155, g_zqbw), (156, g_zqcg)] [] [] := ⟨consG2 zqci_ok (consG2 zqbw_ok (consG2 zqcg_ok (noneG2))), noneI2, noneF2⟩
structure S.told0_T where
  x0 : Int
  x1 : Int
  x2 : Int
  x3 : Int
  x4 : Int
  x5 : Int
  x6 : Bool
  deriving Inhabited
def S.told0_R (a0_3 : Int) (a0_4 : Int) (a1_0 : Int) (a1_1 : Int) (a1_2 : Int) (a1_3 : Int) (a1_4 : Int) (a1_5 : Int) (a1_6 : Bool) (a2_2 : List (Ty .val)) : DT S.told0_T :=
let y0 : Int := xwrap IntKind.i64 (a1_4 + 1)
let y1 : Int := (↑a2_2.length : Int)
let y2 : Bool := xdec (0 ≤ a0_4) && xdec (a0_4 < y1)
let y3 : Ty ET.val := a2_2.getD a0_4.toNat (dflt ET.val)
let y4 : Int := (↑4 : Int)
let y5 : Bool := xdec (0 ≤ 0) && xdec (0 < y4)
let y6 : Bool := xeqI y0 1
let y7 : Bool := xneI 0 1
let y8 : Int := y3.n
let y9 : S.zqcg_T := S.zqcg_o y8 y8
let y10 : Int := y9.x0
let y11 : S.zqcg_T := S.zqcg_o a1_5 y8
let y12 : Int := y11.x0
let y13 : Bool := xnot y11.x1
(.br (xneI a1_2 a0_3)
(.leaf ⟨a1_0, a1_1, a1_2, a1_3, a1_4, a1_5, a1_6⟩)
(.br (xeqI 0 0)
(.leaf ⟨a1_0, a1_1, a1_2, a1_3, y0, y0, a1_6⟩)
(.br (xdec (a0_4 < 0))
(.leaf ⟨a1_0, a1_1, a1_2, a1_3, y0, a1_5, true⟩)
(.br (xdec (a0_4 ≥ y1))
(.leaf ⟨a1_0, a1_1, a1_2, a1_3, y0, a1_5, true⟩)
(.br (y2)
(.br (xneI y3.kind 0)
(.leaf ⟨a1_0, a1_1, a1_2, a1_3, y0, a1_5, true⟩)
(.br (y2)
(.br (xdec (0 ≤ 3) && xdec (3 < y4))
(.br (xeqI 0 1)
(.br (y5)
(.br (y6)
(.br (y7)
.fail
.fail)
.fail)
.fail)
(.br (xeqI 0 2)
(.br (y5)
(.br (y6)
(.br (y7)
.fail
.fail)
.fail)
.fail)
(.br (y6)
(.br (y7)
(.br (a1_6)
(.leaf ⟨a1_0, a1_1, a1_2, a1_3, y0, y10, true⟩)
(.leaf ⟨a1_0, a1_1, a1_2, a1_3, y0, y10, xnot y9.x1⟩))
(.br (a1_6)
(.leaf ⟨a1_0, a1_1, a1_2, a1_3, y0, y12, true⟩)
(.leaf ⟨a1_0, a1_1, a1_2, a1_3, y0, y12, y13⟩)))
(.br (a1_6)
(.leaf ⟨a1_0, a1_1, a1_2, a1_3, y0, y12, true⟩)
(.leaf ⟨a1_0, a1_1, a1_2, a1_3, y0, y12, y13⟩)))))
.fail)
.fail))
.fail)))))
def S.told0 (a0_3 : Int) (a0_4 : Int) (a1_0 : Int) (a1_1 : Int) (a1_2 : Int) (a1_3 : Int) (a1_4 : Int) (a1_5 : Int) (a1_6 : Bool) (a2_2 : List (Ty .val)) : Option S.told0_T := (S.told0_R a0_3 a0_4 a1_0 a1_1 a1_2 a1_3 a1_4 a1_5 a1_6 a2_2).run
def S.told0_is (a0_3 : Int) (a0_4 : Int) (a1_0 : Int) (a1_1 : Int) (a1_2 : Int) (a1_3 : Int) (a1_4 : Int) (a1_5 : Int) (a1_6 : Bool) (a2_2 : List (Ty .val)) : Bool := (S.told0 a0_3 a0_4 a1_0 a1_1 a1_2 a1_3 a1_4 a1_5 a1_6 a2_2).isSome
def S.told0_o (a0_3 : Int) (a0_4 : Int) (a1_0 : Int) (a1_1 : Int) (a1_2 : Int) (a1_3 : Int) (a1_4 : Int) (a1_5 : Int) (a1_6 : Bool) (a2_2 : List (Ty .val)) : S.told0_T := (S.told0 a0_3 a0_4 a1_0 a1_1 a1_2 a1_3 a1_4 a1_5 a1_6 a2_2).getD default
def ret_told0 (b : Bool) (r : S.told0_T) : Ret := ⟨b, none, [(true,
    [C.d (.sc (.int .i64 r.x0)), C.d (.sc (.int .i64 r.x1)), C.d (.sc (.int .i64 r.x2)), C.d (.sc (.int .i64 r.x3)),
      C.d (.sc (.int .i64 r.x4)), C.d (.sc (.int .i64 r.x5)), C.d (.sc (.bool r.x6))])]⟩
def g_told0 : Con
  | [(true, [.sl a0_0n a0_0f .step a0_0, .sc (.int .i64 a0_1), .sc (.int .i64 0), .sc (.int .i64 a0_3), .sc (.int .i64 a0_4)]), (true, [.sc (.int .i64 a1_0), .sc (.int .i64 a1_1), .sc (.int .i64 a1_2), .sc (.int .i64 a1_3), .sc (.int .i64 a1_4), .sc (.int .i64 a1_5), .sc (.bool a1_6)]), (true, [.sc (.str a2_0), .sc (.int .i64 a2_1), .sl a2_2n a2_2f .val a2_2])] => some (ret_told0 (S.told0_is a0_3 a0_4 a1_0 a1_1 a1_2 a1_3 a1_4 a1_5 a1_6 a2_2) (S.told0_o a0_3 a0_4 a1_0 a1_1 a1_2 a1_3 a1_4 a1_5 a1_6 a2_2))
  | _ => none
theorem raw_told0 (a0_0n : Option Bool) (a0_0f : Bool) (a0_0 : List (Ty .step)) (a0_1 : Int) (a0_3 : Int) (a0_4 : Int) (a1_0 : Int) (a1_1 : Int) (a1_2 : Int) (a1_3 : Int) (a1_4 : Int) (a1_5 : Int) (a1_6 : Bool) (a2_0 : ByteArray) (a2_1 : Int) (a2_2n : Option Bool) (a2_2f : Bool) (a2_2 : List (Ty .val)) : evR2 cx_told0 (hdI cx_told0 (find []) [] none 0) none Try.f130 130 none [(true, [.sl a0_0n a0_0f .step a0_0, .sc (.int .i64 a0_1), .sc (.int .i64 0), .sc (.int .i64 a0_3), .sc (.int .i64 a0_4)]), (true, [.sc (.int .i64 a1_0), .sc (.int .i64 a1_1), .sc (.int .i64 a1_2), .sc (.int .i64 a1_3), .sc (.int .i64 a1_4), .sc (.int .i64 a1_5), .sc (.bool a1_6)]), (true, [.sc (.str a2_0), .sc (.int .i64 a2_1), .sl a2_2n a2_2f .val a2_2])] some = (S.told0_R a0_3 a0_4 a1_0 a1_1 a1_2 a1_3 a1_4 a1_5 a1_6 a2_2).go (ret_told0 true) := by kernel_rfl
theorem bs_told0 : loopsIn Try.f130 [] = [] := by kernel_rfl
theorem told0_ok : Stands Try.prog tyTab 130 g_told0 := by
  refine stands3 (L := find []) (n := 0) (hints := []) (cx_ok rfl) rdy_told0 ⟨by kernel_rfl, by kernel_rfl, by kernel_rfl⟩ bs_told0 nilB (fun das r hG hr => ?_)
  unfold g_told0 at hG
  split at hG
  · rename_i a0_0n a0_0f a0_0 a0_1 a0_3 a0_4 a1_0 a1_1 a1_2 a1_3 a1_4 a1_5 a1_6 a2_0 a2_1 a2_2n a2_2f a2_2
    injection hG with hG; subst hG
    exact ⟨none, true, win default ((raw_told0 a0_0n a0_0f a0_0 a0_1 a0_3 a0_4 a1_0 a1_1 a1_2 a1_3 a1_4 a1_5 a1_6 a2_0 a2_1 a2_2n a2_2f a2_2).trans (DT.go_run _ _)) hr⟩
  · cases hG
abbrev cx_toldp : Cx := mkCx2 tyTab [(154, g_zqci), (155, g_zqbw), (156, g_zqcg)] [] [] []
theorem rdy_toldp : Ready Try.prog tyTab [(154, g_zqci), (155, g_zqbw), (156, g_zqcg)] [] [] := ⟨consG2 zqci_ok (consG2 zqbw_ok (consG2 zqcg_ok (noneG2))), noneI2, noneF2⟩
structure S.toldp_T where
  x0 : Int
  x1 : Int
  x2 : Int
  x3 : Int
  x4 : Int
  x5 : Int
  x6 : Bool
  deriving Inhabited
def S.toldp_R (a0_3 : Int) (a0_4 : Int) (a1_0 : Int) (a1_1 : Int) (a1_2 : Int) (a1_3 : Int) (a1_4 : Int) (a1_5 : Int) (a1_6 : Bool) (a2_2 : List (Ty .val)) : DT S.toldp_T :=
let y0 : Int := xwrap IntKind.i64 (a1_4 + 1)
let y1 : Int := (↑a2_2.length : Int)
let y2 : Bool := xdec (0 ≤ a0_4) && xdec (a0_4 < y1)
let y3 : Ty ET.val := a2_2.getD a0_4.toNat (dflt ET.val)
let y4 : Int := y3.n
let y5 : S.zqcg_T := S.zqcg_o y4 y4
let y6 : Int := y5.x0
let y7 : S.zqcg_T := S.zqcg_o a1_5 y4
let y8 : Int := y7.x0
(.br (xneI a1_2 a0_3)
(.leaf ⟨a1_0, a1_1, a1_2, a1_3, a1_4, a1_5, a1_6⟩)
(.br (xdec (a0_4 < 0))
(.leaf ⟨a1_0, a1_1, a1_2, a1_3, y0, a1_5, true⟩)
(.br (xdec (a0_4 ≥ y1))
(.leaf ⟨a1_0, a1_1, a1_2, a1_3, y0, a1_5, true⟩)
(.br (y2)
(.br (xneI y3.kind 0)
(.leaf ⟨a1_0, a1_1, a1_2, a1_3, y0, a1_5, true⟩)
(.br (y2)
(.br (xdec (0 ≤ 3) && xdec (3 < (↑4 : Int)))
(.br (xeqI y0 1)
(.br (a1_6)
(.leaf ⟨a1_0, a1_1, a1_2, a1_3, y0, y6, true⟩)
(.leaf ⟨a1_0, a1_1, a1_2, a1_3, y0, y6, xnot y5.x1⟩))
(.br (a1_6)
(.leaf ⟨a1_0, a1_1, a1_2, a1_3, y0, y8, true⟩)
(.leaf ⟨a1_0, a1_1, a1_2, a1_3, y0, y8, xnot y7.x1⟩)))
.fail)
.fail))
.fail))))
def S.toldp (a0_3 : Int) (a0_4 : Int) (a1_0 : Int) (a1_1 : Int) (a1_2 : Int) (a1_3 : Int) (a1_4 : Int) (a1_5 : Int) (a1_6 : Bool) (a2_2 : List (Ty .val)) : Option S.toldp_T := (S.toldp_R a0_3 a0_4 a1_0 a1_1 a1_2 a1_3 a1_4 a1_5 a1_6 a2_2).run
def S.toldp_is (a0_3 : Int) (a0_4 : Int) (a1_0 : Int) (a1_1 : Int) (a1_2 : Int) (a1_3 : Int) (a1_4 : Int) (a1_5 : Int) (a1_6 : Bool) (a2_2 : List (Ty .val)) : Bool := (S.toldp a0_3 a0_4 a1_0 a1_1 a1_2 a1_3 a1_4 a1_5 a1_6 a2_2).isSome
def S.toldp_o (a0_3 : Int) (a0_4 : Int) (a1_0 : Int) (a1_1 : Int) (a1_2 : Int) (a1_3 : Int) (a1_4 : Int) (a1_5 : Int) (a1_6 : Bool) (a2_2 : List (Ty .val)) : S.toldp_T := (S.toldp a0_3 a0_4 a1_0 a1_1 a1_2 a1_3 a1_4 a1_5 a1_6 a2_2).getD default
def ret_toldp (b : Bool) (r : S.toldp_T) : Ret := ⟨b, none, [(true,
    [C.d (.sc (.int .i64 r.x0)), C.d (.sc (.int .i64 r.x1)), C.d (.sc (.int .i64 r.x2)), C.d (.sc (.int .i64 r.x3)),
      C.d (.sc (.int .i64 r.x4)), C.d (.sc (.int .i64 r.x5)), C.d (.sc (.bool r.x6))])]⟩
def g_toldp : Con
  | [(true, [.sl a0_0n a0_0f .step a0_0, .sc (.int .i64 a0_1), .sc (.int .i64 (Int.ofNat (a0_2 + 3))), .sc (.int .i64 a0_3), .sc (.int .i64 a0_4)]), (true, [.sc (.int .i64 a1_0), .sc (.int .i64 a1_1), .sc (.int .i64 a1_2), .sc (.int .i64 a1_3), .sc (.int .i64 a1_4), .sc (.int .i64 a1_5), .sc (.bool a1_6)]), (true, [.sc (.str a2_0), .sc (.int .i64 a2_1), .sl a2_2n a2_2f .val a2_2])] => some (ret_toldp (S.toldp_is a0_3 a0_4 a1_0 a1_1 a1_2 a1_3 a1_4 a1_5 a1_6 a2_2) (S.toldp_o a0_3 a0_4 a1_0 a1_1 a1_2 a1_3 a1_4 a1_5 a1_6 a2_2))
  | _ => none
theorem raw_toldp (a0_0n : Option Bool) (a0_0f : Bool) (a0_0 : List (Ty .step)) (a0_1 : Int) (a0_2 : Nat) (a0_3 : Int) (a0_4 : Int) (a1_0 : Int) (a1_1 : Int) (a1_2 : Int) (a1_3 : Int) (a1_4 : Int) (a1_5 : Int) (a1_6 : Bool) (a2_0 : ByteArray) (a2_1 : Int) (a2_2n : Option Bool) (a2_2f : Bool) (a2_2 : List (Ty .val)) : evR2 cx_toldp (hdI cx_toldp (find []) [] none 0) none Try.f130 130 none [(true, [.sl a0_0n a0_0f .step a0_0, .sc (.int .i64 a0_1), .sc (.int .i64 (Int.ofNat (a0_2 + 3))), .sc (.int .i64 a0_3), .sc (.int .i64 a0_4)]), (true, [.sc (.int .i64 a1_0), .sc (.int .i64 a1_1), .sc (.int .i64 a1_2), .sc (.int .i64 a1_3), .sc (.int .i64 a1_4), .sc (.int .i64 a1_5), .sc (.bool a1_6)]), (true, [.sc (.str a2_0), .sc (.int .i64 a2_1), .sl a2_2n a2_2f .val a2_2])] some = (S.toldp_R a0_3 a0_4 a1_0 a1_1 a1_2 a1_3 a1_4 a1_5 a1_6 a2_2).go (ret_toldp true) := by kernel_rfl
theorem bs_toldp : loopsIn Try.f130 [] = [] := by kernel_rfl
theorem toldp_ok : Stands Try.prog tyTab 130 g_toldp := by
  refine stands3 (L := find []) (n := 0) (hints := []) (cx_ok rfl) rdy_toldp ⟨by kernel_rfl, by kernel_rfl, by kernel_rfl⟩ bs_toldp nilB (fun das r hG hr => ?_)
  unfold g_toldp at hG
  split at hG
  · rename_i a0_0n a0_0f a0_0 a0_1 a0_2 a0_3 a0_4 a1_0 a1_1 a1_2 a1_3 a1_4 a1_5 a1_6 a2_0 a2_1 a2_2n a2_2f a2_2
    injection hG with hG; subst hG
    exact ⟨none, true, win default ((raw_toldp a0_0n a0_0f a0_0 a0_1 a0_2 a0_3 a0_4 a1_0 a1_1 a1_2 a1_3 a1_4 a1_5 a1_6 a2_0 a2_1 a2_2n a2_2f a2_2).trans (DT.go_run _ _)) hr⟩
  · cases hG
abbrev cx_toldn : Cx := mkCx2 tyTab [(154, g_zqci), (155, g_zqbw), (156, g_zqcg)] [] [] []
theorem rdy_toldn : Ready Try.prog tyTab [(154, g_zqci), (155, g_zqbw), (156, g_zqcg)] [] [] := ⟨consG2 zqci_ok (consG2 zqbw_ok (consG2 zqcg_ok (noneG2))), noneI2, noneF2⟩
structure S.toldn_T where
  x0 : Int
  x1 : Int
  x2 : Int
  x3 : Int
  x4 : Int
  x5 : Int
  x6 : Bool
  deriving Inhabited
def S.toldn_R (a0_3 : Int) (a0_4 : Int) (a1_0 : Int) (a1_1 : Int) (a1_2 : Int) (a1_3 : Int) (a1_4 : Int) (a1_5 : Int) (a1_6 : Bool) (a2_2 : List (Ty .val)) : DT S.toldn_T :=
let y0 : Int := xwrap IntKind.i64 (a1_4 + 1)
let y1 : Int := (↑a2_2.length : Int)
let y2 : Bool := xdec (0 ≤ a0_4) && xdec (a0_4 < y1)
let y3 : Ty ET.val := a2_2.getD a0_4.toNat (dflt ET.val)
let y4 : Int := y3.n
let y5 : S.zqcg_T := S.zqcg_o y4 y4
let y6 : Int := y5.x0
let y7 : S.zqcg_T := S.zqcg_o a1_5 y4
let y8 : Int := y7.x0
(.br (xneI a1_2 a0_3)
(.leaf ⟨a1_0, a1_1, a1_2, a1_3, a1_4, a1_5, a1_6⟩)
(.br (xdec (a0_4 < 0))
(.leaf ⟨a1_0, a1_1, a1_2, a1_3, y0, a1_5, true⟩)
(.br (xdec (a0_4 ≥ y1))
(.leaf ⟨a1_0, a1_1, a1_2, a1_3, y0, a1_5, true⟩)
(.br (y2)
(.br (xneI y3.kind 0)
(.leaf ⟨a1_0, a1_1, a1_2, a1_3, y0, a1_5, true⟩)
(.br (y2)
(.br (xdec (0 ≤ 3) && xdec (3 < (↑4 : Int)))
(.br (xeqI y0 1)
(.br (a1_6)
(.leaf ⟨a1_0, a1_1, a1_2, a1_3, y0, y6, true⟩)
(.leaf ⟨a1_0, a1_1, a1_2, a1_3, y0, y6, xnot y5.x1⟩))
(.br (a1_6)
(.leaf ⟨a1_0, a1_1, a1_2, a1_3, y0, y8, true⟩)
(.leaf ⟨a1_0, a1_1, a1_2, a1_3, y0, y8, xnot y7.x1⟩)))
.fail)
.fail))
.fail))))
def S.toldn (a0_3 : Int) (a0_4 : Int) (a1_0 : Int) (a1_1 : Int) (a1_2 : Int) (a1_3 : Int) (a1_4 : Int) (a1_5 : Int) (a1_6 : Bool) (a2_2 : List (Ty .val)) : Option S.toldn_T := (S.toldn_R a0_3 a0_4 a1_0 a1_1 a1_2 a1_3 a1_4 a1_5 a1_6 a2_2).run
def S.toldn_is (a0_3 : Int) (a0_4 : Int) (a1_0 : Int) (a1_1 : Int) (a1_2 : Int) (a1_3 : Int) (a1_4 : Int) (a1_5 : Int) (a1_6 : Bool) (a2_2 : List (Ty .val)) : Bool := (S.toldn a0_3 a0_4 a1_0 a1_1 a1_2 a1_3 a1_4 a1_5 a1_6 a2_2).isSome
def S.toldn_o (a0_3 : Int) (a0_4 : Int) (a1_0 : Int) (a1_1 : Int) (a1_2 : Int) (a1_3 : Int) (a1_4 : Int) (a1_5 : Int) (a1_6 : Bool) (a2_2 : List (Ty .val)) : S.toldn_T := (S.toldn a0_3 a0_4 a1_0 a1_1 a1_2 a1_3 a1_4 a1_5 a1_6 a2_2).getD default
def ret_toldn (b : Bool) (r : S.toldn_T) : Ret := ⟨b, none, [(true,
    [C.d (.sc (.int .i64 r.x0)), C.d (.sc (.int .i64 r.x1)), C.d (.sc (.int .i64 r.x2)), C.d (.sc (.int .i64 r.x3)),
      C.d (.sc (.int .i64 r.x4)), C.d (.sc (.int .i64 r.x5)), C.d (.sc (.bool r.x6))])]⟩
def g_toldn : Con
  | [(true, [.sl a0_0n a0_0f .step a0_0, .sc (.int .i64 a0_1), .sc (.int .i64 (Int.negSucc a0_2)), .sc (.int .i64 a0_3), .sc (.int .i64 a0_4)]), (true, [.sc (.int .i64 a1_0), .sc (.int .i64 a1_1), .sc (.int .i64 a1_2), .sc (.int .i64 a1_3), .sc (.int .i64 a1_4), .sc (.int .i64 a1_5), .sc (.bool a1_6)]), (true, [.sc (.str a2_0), .sc (.int .i64 a2_1), .sl a2_2n a2_2f .val a2_2])] => some (ret_toldn (S.toldn_is a0_3 a0_4 a1_0 a1_1 a1_2 a1_3 a1_4 a1_5 a1_6 a2_2) (S.toldn_o a0_3 a0_4 a1_0 a1_1 a1_2 a1_3 a1_4 a1_5 a1_6 a2_2))
  | _ => none
theorem raw_toldn (a0_0n : Option Bool) (a0_0f : Bool) (a0_0 : List (Ty .step)) (a0_1 : Int) (a0_2 : Nat) (a0_3 : Int) (a0_4 : Int) (a1_0 : Int) (a1_1 : Int) (a1_2 : Int) (a1_3 : Int) (a1_4 : Int) (a1_5 : Int) (a1_6 : Bool) (a2_0 : ByteArray) (a2_1 : Int) (a2_2n : Option Bool) (a2_2f : Bool) (a2_2 : List (Ty .val)) : evR2 cx_toldn (hdI cx_toldn (find []) [] none 0) none Try.f130 130 none [(true, [.sl a0_0n a0_0f .step a0_0, .sc (.int .i64 a0_1), .sc (.int .i64 (Int.negSucc a0_2)), .sc (.int .i64 a0_3), .sc (.int .i64 a0_4)]), (true, [.sc (.int .i64 a1_0), .sc (.int .i64 a1_1), .sc (.int .i64 a1_2), .sc (.int .i64 a1_3), .sc (.int .i64 a1_4), .sc (.int .i64 a1_5), .sc (.bool a1_6)]), (true, [.sc (.str a2_0), .sc (.int .i64 a2_1), .sl a2_2n a2_2f .val a2_2])] some = (S.toldn_R a0_3 a0_4 a1_0 a1_1 a1_2 a1_3 a1_4 a1_5 a1_6 a2_2).go (ret_toldn true) := by kernel_rfl
theorem bs_toldn : loopsIn Try.f130 [] = [] := by kernel_rfl
theorem toldn_ok : Stands Try.prog tyTab 130 g_toldn := by
  refine stands3 (L := find []) (n := 0) (hints := []) (cx_ok rfl) rdy_toldn ⟨by kernel_rfl, by kernel_rfl, by kernel_rfl⟩ bs_toldn nilB (fun das r hG hr => ?_)
  unfold g_toldn at hG
  split at hG
  · rename_i a0_0n a0_0f a0_0 a0_1 a0_2 a0_3 a0_4 a1_0 a1_1 a1_2 a1_3 a1_4 a1_5 a1_6 a2_0 a2_1 a2_2n a2_2f a2_2
    injection hG with hG; subst hG
    exact ⟨none, true, win default ((raw_toldn a0_0n a0_0f a0_0 a0_1 a0_2 a0_3 a0_4 a1_0 a1_1 a1_2 a1_3 a1_4 a1_5 a1_6 a2_0 a2_1 a2_2n a2_2f a2_2).trans (DT.go_run _ _)) hr⟩
  · cases hG
abbrev cx_told1 : Cx := mkCx2 tyTab [(154, g_zqci), (155, g_zqbw), (156, g_zqcg)] [] [] []
theorem rdy_told1 : Ready Try.prog tyTab [(154, g_zqci), (155, g_zqbw), (156, g_zqcg)] [] [] := ⟨consG2 zqci_ok (consG2 zqbw_ok (consG2 zqcg_ok (noneG2))), noneI2, noneF2⟩
structure S.told1_T where
  x0 : Int
  x1 : Int
  x2 : Int
  x3 : Int
  x4 : Int
  x5 : Int
  x6 : Bool
  deriving Inhabited
def S.told1_R (a0_3 : Int) (a0_4 : Int) (a1_0 : Int) (a1_1 : Int) (a1_2 : Int) (a1_3 : Int) (a1_4 : Int) (a1_5 : Int) (a1_6 : Bool) (a2_2 : List (Ty .val)) : DT S.told1_T :=
let y0 : Int := xwrap IntKind.i64 (a1_4 + 1)
let y1 : Int := (↑a2_2.length : Int)
let y2 : Bool := xdec (0 ≤ a0_4) && xdec (a0_4 < y1)
let y3 : Ty ET.val := a2_2.getD a0_4.toNat (dflt ET.val)
let y4 : Int := (↑4 : Int)
let y5 : Bool := xdec (0 ≤ 1) && xdec (1 < y4)
let y6 : Bool := xeqI y0 1
let y7 : Bool := xneI 1 1
let y8 : Int := y3.n
let y9 : Bool := S.zqci_is y8 y8
let y10 : S.zqci_T := S.zqci_o y8 y8
let y11 : Int := y10.x0
let y12 : Bool := xnot y10.x1
let y13 : Bool := S.zqci_is a1_5 y8
let y14 : S.zqci_T := S.zqci_o a1_5 y8
let y15 : Int := y14.x0
let y16 : Bool := xnot y14.x1
let y17 : S.zqcg_T := S.zqcg_o y8 y8
let y18 : Int := y17.x0
let y19 : S.zqcg_T := S.zqcg_o a1_5 y8
let y20 : Int := y19.x0
let y21 : Bool := xnot y19.x1
(.br (xneI a1_2 a0_3)
(.leaf ⟨a1_0, a1_1, a1_2, a1_3, a1_4, a1_5, a1_6⟩)
(.br (xeqI 1 0)
(.leaf ⟨a1_0, a1_1, a1_2, a1_3, y0, y0, a1_6⟩)
(.br (xdec (a0_4 < 0))
(.leaf ⟨a1_0, a1_1, a1_2, a1_3, y0, a1_5, true⟩)
(.br (xdec (a0_4 ≥ y1))
(.leaf ⟨a1_0, a1_1, a1_2, a1_3, y0, a1_5, true⟩)
(.br (y2)
(.br (xneI y3.kind 0)
(.leaf ⟨a1_0, a1_1, a1_2, a1_3, y0, a1_5, true⟩)
(.br (y2)
(.br (xdec (0 ≤ 3) && xdec (3 < y4))
(.br (xeqI 1 1)
(.br (y5)
(.br (y6)
(.br (y7)
(.br (y9)
(.br (a1_6)
(.leaf ⟨a1_0, a1_1, a1_2, a1_3, y0, y11, true⟩)
(.leaf ⟨a1_0, a1_1, a1_2, a1_3, y0, y11, y12⟩))
.fail)
(.br (y13)
(.br (a1_6)
(.leaf ⟨a1_0, a1_1, a1_2, a1_3, y0, y15, true⟩)
(.leaf ⟨a1_0, a1_1, a1_2, a1_3, y0, y15, y16⟩))
.fail))
(.br (y13)
(.br (a1_6)
(.leaf ⟨a1_0, a1_1, a1_2, a1_3, y0, y15, true⟩)
(.leaf ⟨a1_0, a1_1, a1_2, a1_3, y0, y15, y16⟩))
.fail))
.fail)
(.br (xeqI 1 2)
(.br (y5)
(.br (y6)
(.br (y7)
(.br (y9)
(.br (a1_6)
(.leaf ⟨a1_0, a1_1, a1_2, a1_3, y0, y11, true⟩)
(.leaf ⟨a1_0, a1_1, a1_2, a1_3, y0, y11, y12⟩))
.fail)
(.br (y13)
(.br (a1_6)
(.leaf ⟨a1_0, a1_1, a1_2, a1_3, y0, y15, true⟩)
(.leaf ⟨a1_0, a1_1, a1_2, a1_3, y0, y15, y16⟩))
.fail))
(.br (y13)
(.br (a1_6)
(.leaf ⟨a1_0, a1_1, a1_2, a1_3, y0, y15, true⟩)
(.leaf ⟨a1_0, a1_1, a1_2, a1_3, y0, y15, y16⟩))
.fail))
.fail)
(.br (y6)
(.br (y7)
(.br (a1_6)
(.leaf ⟨a1_0, a1_1, a1_2, a1_3, y0, y18, true⟩)
(.leaf ⟨a1_0, a1_1, a1_2, a1_3, y0, y18, xnot y17.x1⟩))
(.br (a1_6)
(.leaf ⟨a1_0, a1_1, a1_2, a1_3, y0, y20, true⟩)
(.leaf ⟨a1_0, a1_1, a1_2, a1_3, y0, y20, y21⟩)))
(.br (a1_6)
(.leaf ⟨a1_0, a1_1, a1_2, a1_3, y0, y20, true⟩)
(.leaf ⟨a1_0, a1_1, a1_2, a1_3, y0, y20, y21⟩)))))
.fail)
.fail))
.fail)))))
def S.told1 (a0_3 : Int) (a0_4 : Int) (a1_0 : Int) (a1_1 : Int) (a1_2 : Int) (a1_3 : Int) (a1_4 : Int) (a1_5 : Int) (a1_6 : Bool) (a2_2 : List (Ty .val)) : Option S.told1_T := (S.told1_R a0_3 a0_4 a1_0 a1_1 a1_2 a1_3 a1_4 a1_5 a1_6 a2_2).run
def S.told1_is (a0_3 : Int) (a0_4 : Int) (a1_0 : Int) (a1_1 : Int) (a1_2 : Int) (a1_3 : Int) (a1_4 : Int) (a1_5 : Int) (a1_6 : Bool) (a2_2 : List (Ty .val)) : Bool := (S.told1 a0_3 a0_4 a1_0 a1_1 a1_2 a1_3 a1_4 a1_5 a1_6 a2_2).isSome
def S.told1_o (a0_3 : Int) (a0_4 : Int) (a1_0 : Int) (a1_1 : Int) (a1_2 : Int) (a1_3 : Int) (a1_4 : Int) (a1_5 : Int) (a1_6 : Bool) (a2_2 : List (Ty .val)) : S.told1_T := (S.told1 a0_3 a0_4 a1_0 a1_1 a1_2 a1_3 a1_4 a1_5 a1_6 a2_2).getD default
def ret_told1 (b : Bool) (r : S.told1_T) : Ret := ⟨b, none, [(true,
    [C.d (.sc (.int .i64 r.x0)), C.d (.sc (.int .i64 r.x1)), C.d (.sc (.int .i64 r.x2)), C.d (.sc (.int .i64 r.x3)),
      C.d (.sc (.int .i64 r.x4)), C.d (.sc (.int .i64 r.x5)), C.d (.sc (.bool r.x6))])]⟩
def g_told1 : Con
  | [(true, [.sl a0_0n a0_0f .step a0_0, .sc (.int .i64 a0_1), .sc (.int .i64 1), .sc (.int .i64 a0_3), .sc (.int .i64 a0_4)]), (true, [.sc (.int .i64 a1_0), .sc (.int .i64 a1_1), .sc (.int .i64 a1_2), .sc (.int .i64 a1_3), .sc (.int .i64 a1_4), .sc (.int .i64 a1_5), .sc (.bool a1_6)]), (true, [.sc (.str a2_0), .sc (.int .i64 a2_1), .sl a2_2n a2_2f .val a2_2])] => some (ret_told1 (S.told1_is a0_3 a0_4 a1_0 a1_1 a1_2 a1_3 a1_4 a1_5 a1_6 a2_2) (S.told1_o a0_3 a0_4 a1_0 a1_1 a1_2 a1_3 a1_4 a1_5 a1_6 a2_2))
  | _ => none
theorem raw_told1 (a0_0n : Option Bool) (a0_0f : Bool) (a0_0 : List (Ty .step)) (a0_1 : Int) (a0_3 : Int) (a0_4 : Int) (a1_0 : Int) (a1_1 : Int) (a1_2 : Int) (a1_3 : Int) (a1_4 : Int) (a1_5 : Int) (a1_6 : Bool) (a2_0 : ByteArray) (a2_1 : Int) (a2_2n : Option Bool) (a2_2f : Bool) (a2_2 : List (Ty .val)) : evR2 cx_told1 (hdI cx_told1 (find []) [] none 0) none Try.f130 130 none [(true, [.sl a0_0n a0_0f .step a0_0, .sc (.int .i64 a0_1), .sc (.int .i64 1), .sc (.int .i64 a0_3), .sc (.int .i64 a0_4)]), (true, [.sc (.int .i64 a1_0), .sc (.int .i64 a1_1), .sc (.int .i64 a1_2), .sc (.int .i64 a1_3), .sc (.int .i64 a1_4), .sc (.int .i64 a1_5), .sc (.bool a1_6)]), (true, [.sc (.str a2_0), .sc (.int .i64 a2_1), .sl a2_2n a2_2f .val a2_2])] some = (S.told1_R a0_3 a0_4 a1_0 a1_1 a1_2 a1_3 a1_4 a1_5 a1_6 a2_2).go (ret_told1 true) := by kernel_rfl
theorem bs_told1 : loopsIn Try.f130 [] = [] := by kernel_rfl
theorem told1_ok : Stands Try.prog tyTab 130 g_told1 := by
  refine stands3 (L := find []) (n := 0) (hints := []) (cx_ok rfl) rdy_told1 ⟨by kernel_rfl, by kernel_rfl, by kernel_rfl⟩ bs_told1 nilB (fun das r hG hr => ?_)
  unfold g_told1 at hG
  split at hG
  · rename_i a0_0n a0_0f a0_0 a0_1 a0_3 a0_4 a1_0 a1_1 a1_2 a1_3 a1_4 a1_5 a1_6 a2_0 a2_1 a2_2n a2_2f a2_2
    injection hG with hG; subst hG
    exact ⟨none, true, win default ((raw_told1 a0_0n a0_0f a0_0 a0_1 a0_3 a0_4 a1_0 a1_1 a1_2 a1_3 a1_4 a1_5 a1_6 a2_0 a2_1 a2_2n a2_2f a2_2).trans (DT.go_run _ _)) hr⟩
  · cases hG
abbrev cx_told2 : Cx := mkCx2 tyTab [(154, g_zqci), (155, g_zqbw), (156, g_zqcg)] [] [] []
theorem rdy_told2 : Ready Try.prog tyTab [(154, g_zqci), (155, g_zqbw), (156, g_zqcg)] [] [] := ⟨consG2 zqci_ok (consG2 zqbw_ok (consG2 zqcg_ok (noneG2))), noneI2, noneF2⟩
structure S.told2_T where
  x0 : Int
  x1 : Int
  x2 : Int
  x3 : Int
  x4 : Int
  x5 : Int
  x6 : Bool
  deriving Inhabited
def S.told2_R (a0_3 : Int) (a0_4 : Int) (a1_0 : Int) (a1_1 : Int) (a1_2 : Int) (a1_3 : Int) (a1_4 : Int) (a1_5 : Int) (a1_6 : Bool) (a2_2 : List (Ty .val)) : DT S.told2_T :=
let y0 : Int := xwrap IntKind.i64 (a1_4 + 1)
let y1 : Int := (↑a2_2.length : Int)
let y2 : Bool := xdec (0 ≤ a0_4) && xdec (a0_4 < y1)
let y3 : Ty ET.val := a2_2.getD a0_4.toNat (dflt ET.val)
let y4 : Int := (↑4 : Int)
let y5 : Bool := xdec (0 ≤ 2) && xdec (2 < y4)
let y6 : Bool := xeqI y0 1
let y7 : Bool := xneI 2 1
let y8 : Int := y3.n
let y9 : S.zqbw_T := S.zqbw_o y8 y8
let y10 : Int := y9.x0
let y11 : Bool := xnot y9.x1
let y12 : S.zqbw_T := S.zqbw_o a1_5 y8
let y13 : Int := y12.x0
let y14 : Bool := xnot y12.x1
let y15 : S.zqcg_T := S.zqcg_o y8 y8
let y16 : Int := y15.x0
let y17 : S.zqcg_T := S.zqcg_o a1_5 y8
let y18 : Int := y17.x0
let y19 : Bool := xnot y17.x1
(.br (xneI a1_2 a0_3)
(.leaf ⟨a1_0, a1_1, a1_2, a1_3, a1_4, a1_5, a1_6⟩)
(.br (xeqI 2 0)
(.leaf ⟨a1_0, a1_1, a1_2, a1_3, y0, y0, a1_6⟩)
(.br (xdec (a0_4 < 0))
(.leaf ⟨a1_0, a1_1, a1_2, a1_3, y0, a1_5, true⟩)
(.br (xdec (a0_4 ≥ y1))
(.leaf ⟨a1_0, a1_1, a1_2, a1_3, y0, a1_5, true⟩)
(.br (y2)
(.br (xneI y3.kind 0)
(.leaf ⟨a1_0, a1_1, a1_2, a1_3, y0, a1_5, true⟩)
(.br (y2)
(.br (xdec (0 ≤ 3) && xdec (3 < y4))
(.br (xeqI 2 1)
(.br (y5)
(.br (y6)
(.br (y7)
(.br (a1_6)
(.leaf ⟨a1_0, a1_1, a1_2, a1_3, y0, y10, true⟩)
(.leaf ⟨a1_0, a1_1, a1_2, a1_3, y0, y10, y11⟩))
(.br (a1_6)
(.leaf ⟨a1_0, a1_1, a1_2, a1_3, y0, y13, true⟩)
(.leaf ⟨a1_0, a1_1, a1_2, a1_3, y0, y13, y14⟩)))
(.br (a1_6)
(.leaf ⟨a1_0, a1_1, a1_2, a1_3, y0, y13, true⟩)
(.leaf ⟨a1_0, a1_1, a1_2, a1_3, y0, y13, y14⟩)))
.fail)
(.br (xeqI 2 2)
(.br (y5)
(.br (y6)
(.br (y7)
(.br (a1_6)
(.leaf ⟨a1_0, a1_1, a1_2, a1_3, y0, y10, true⟩)
(.leaf ⟨a1_0, a1_1, a1_2, a1_3, y0, y10, y11⟩))
(.br (a1_6)
(.leaf ⟨a1_0, a1_1, a1_2, a1_3, y0, y13, true⟩)
(.leaf ⟨a1_0, a1_1, a1_2, a1_3, y0, y13, y14⟩)))
(.br (a1_6)
(.leaf ⟨a1_0, a1_1, a1_2, a1_3, y0, y13, true⟩)
(.leaf ⟨a1_0, a1_1, a1_2, a1_3, y0, y13, y14⟩)))
.fail)
(.br (y6)
(.br (y7)
(.br (a1_6)
(.leaf ⟨a1_0, a1_1, a1_2, a1_3, y0, y16, true⟩)
(.leaf ⟨a1_0, a1_1, a1_2, a1_3, y0, y16, xnot y15.x1⟩))
(.br (a1_6)
(.leaf ⟨a1_0, a1_1, a1_2, a1_3, y0, y18, true⟩)
(.leaf ⟨a1_0, a1_1, a1_2, a1_3, y0, y18, y19⟩)))
(.br (a1_6)
(.leaf ⟨a1_0, a1_1, a1_2, a1_3, y0, y18, true⟩)
(.leaf ⟨a1_0, a1_1, a1_2, a1_3, y0, y18, y19⟩)))))
.fail)
.fail))
.fail)))))
def S.told2 (a0_3 : Int) (a0_4 : Int) (a1_0 : Int) (a1_1 : Int) (a1_2 : Int) (a1_3 : Int) (a1_4 : Int) (a1_5 : Int) (a1_6 : Bool) (a2_2 : List (Ty .val)) : Option S.told2_T := (S.told2_R a0_3 a0_4 a1_0 a1_1 a1_2 a1_3 a1_4 a1_5 a1_6 a2_2).run
def S.told2_is (a0_3 : Int) (a0_4 : Int) (a1_0 : Int) (a1_1 : Int) (a1_2 : Int) (a1_3 : Int) (a1_4 : Int) (a1_5 : Int) (a1_6 : Bool) (a2_2 : List (Ty .val)) : Bool := (S.told2 a0_3 a0_4 a1_0 a1_1 a1_2 a1_3 a1_4 a1_5 a1_6 a2_2).isSome
def S.told2_o (a0_3 : Int) (a0_4 : Int) (a1_0 : Int) (a1_1 : Int) (a1_2 : Int) (a1_3 : Int) (a1_4 : Int) (a1_5 : Int) (a1_6 : Bool) (a2_2 : List (Ty .val)) : S.told2_T := (S.told2 a0_3 a0_4 a1_0 a1_1 a1_2 a1_3 a1_4 a1_5 a1_6 a2_2).getD default
def ret_told2 (b : Bool) (r : S.told2_T) : Ret := ⟨b, none, [(true,
    [C.d (.sc (.int .i64 r.x0)), C.d (.sc (.int .i64 r.x1)), C.d (.sc (.int .i64 r.x2)), C.d (.sc (.int .i64 r.x3)),
      C.d (.sc (.int .i64 r.x4)), C.d (.sc (.int .i64 r.x5)), C.d (.sc (.bool r.x6))])]⟩
def g_told2 : Con
  | [(true, [.sl a0_0n a0_0f .step a0_0, .sc (.int .i64 a0_1), .sc (.int .i64 2), .sc (.int .i64 a0_3), .sc (.int .i64 a0_4)]), (true, [.sc (.int .i64 a1_0), .sc (.int .i64 a1_1), .sc (.int .i64 a1_2), .sc (.int .i64 a1_3), .sc (.int .i64 a1_4), .sc (.int .i64 a1_5), .sc (.bool a1_6)]), (true, [.sc (.str a2_0), .sc (.int .i64 a2_1), .sl a2_2n a2_2f .val a2_2])] => some (ret_told2 (S.told2_is a0_3 a0_4 a1_0 a1_1 a1_2 a1_3 a1_4 a1_5 a1_6 a2_2) (S.told2_o a0_3 a0_4 a1_0 a1_1 a1_2 a1_3 a1_4 a1_5 a1_6 a2_2))
  | _ => none
theorem raw_told2 (a0_0n : Option Bool) (a0_0f : Bool) (a0_0 : List (Ty .step)) (a0_1 : Int) (a0_3 : Int) (a0_4 : Int) (a1_0 : Int) (a1_1 : Int) (a1_2 : Int) (a1_3 : Int) (a1_4 : Int) (a1_5 : Int) (a1_6 : Bool) (a2_0 : ByteArray) (a2_1 : Int) (a2_2n : Option Bool) (a2_2f : Bool) (a2_2 : List (Ty .val)) : evR2 cx_told2 (hdI cx_told2 (find []) [] none 0) none Try.f130 130 none [(true, [.sl a0_0n a0_0f .step a0_0, .sc (.int .i64 a0_1), .sc (.int .i64 2), .sc (.int .i64 a0_3), .sc (.int .i64 a0_4)]), (true, [.sc (.int .i64 a1_0), .sc (.int .i64 a1_1), .sc (.int .i64 a1_2), .sc (.int .i64 a1_3), .sc (.int .i64 a1_4), .sc (.int .i64 a1_5), .sc (.bool a1_6)]), (true, [.sc (.str a2_0), .sc (.int .i64 a2_1), .sl a2_2n a2_2f .val a2_2])] some = (S.told2_R a0_3 a0_4 a1_0 a1_1 a1_2 a1_3 a1_4 a1_5 a1_6 a2_2).go (ret_told2 true) := by kernel_rfl
theorem bs_told2 : loopsIn Try.f130 [] = [] := by kernel_rfl
theorem told2_ok : Stands Try.prog tyTab 130 g_told2 := by
  refine stands3 (L := find []) (n := 0) (hints := []) (cx_ok rfl) rdy_told2 ⟨by kernel_rfl, by kernel_rfl, by kernel_rfl⟩ bs_told2 nilB (fun das r hG hr => ?_)
  unfold g_told2 at hG
  split at hG
  · rename_i a0_0n a0_0f a0_0 a0_1 a0_3 a0_4 a1_0 a1_1 a1_2 a1_3 a1_4 a1_5 a1_6 a2_0 a2_1 a2_2n a2_2f a2_2
    injection hG with hG; subst hG
    exact ⟨none, true, win default ((raw_told2 a0_0n a0_0f a0_0 a0_1 a0_3 a0_4 a1_0 a1_1 a1_2 a1_3 a1_4 a1_5 a1_6 a2_0 a2_1 a2_2n a2_2f a2_2).trans (DT.go_run _ _)) hr⟩
  · cases hG
end
end Go.Eng
