/- Plain texts: P0, P1, P2, P3, P4, P5, P6, P9, P11, P12, P13, R1, P17, P18, P25, P26. -/
import Derived.Test.YtoohnjneocohnaaGreatZG2
import Derived.Test.YtoohnjneocohnaaGreatZE3
import Derived.Test.YtoohnjneocohnaaGreatZG3
import Derived.Test.YtoohnjneocohnaaGreatZG4
import Derived.Test.YtoohnjneocohnaaGreatZW1
import Derived.Test.YtoohnjneocohnaaGreatZN3
import Derived.Test.YtoohnjneocohnaaGreatZG5
import Derived.Test.YtoohnjneocohnaaGreatZG6
import Derived.Test.YtoohnjneocohnaaGreatZG7
import Derived.Test.YtoohnjneocohnaaGreatZG8
import Derived.Test.YtoohnjneocohnaaGreatZG1
import Derived.Test.YtoohnjneocohnaaGreatZG9
import Derived.Test.YtoohnjneocohnaaGreatZG20
import Derived.Test.YtoohnjneocohnaaGreatZG11
set_option linter.unusedVariables false
set_option linter.unusedSimpArgs false
namespace Go.Eng
open Go Go.Eng
theorem q_held (k n : Int) (s : ByteArray) : S.z2bt_is k n s = true := DT.all_is (P := fun _ => True) (by
 unfold S.z2bt_R; try dsimp only
 simp only [DT.all_br, DT.all_leaf, DT.all_fail, implies_true, and_self])
theorem q_valMay (k n : Int) (s : ByteArray) : S.z3yc_is k n s = true := DT.all_is (P := fun _ => True) (by
 unfold S.z3yc_R; try dsimp only
 simp [DT.all_br, DT.all_leaf, DT.all_fail, q_held])
theorem q_evMay1 (k n : Int) (s : ByteArray) : S.zajt_is k n s = true := DT.all_is (P := fun _ => True) (by
 unfold S.zajt_R; try dsimp only
 simp [DT.all_br, DT.all_leaf, DT.all_fail, q_valMay])
theorem q_idxVal (l : List (Ty .val)) (hb : l.length ≤ 1048576) : S.zzbr_is l = true := by
 obtain ⟨j, v', h1, h2⟩ := Lp_all (R := S.zzbr_2_R l l.length) (r := S.zzbr_2_r l l.length) (fun v => rfl) (fun v => 0 ≤ v.t8_ ∧ v.t8_ ≤ l.length) (fun j v => j = 0 ∨ j = 1) (fun v => ((l.length : Int) - v.t8_).toNat) (fun v hv => by
  unfold S.zzbr_2_R; try dsimp only
  simp only [DT.all_br, DT.all_leaf, DT.all_fail, Stp_none, Stp_some, xdec, xwrap, decide_eq_true_eq, decide_eq_false_iff_not, Bool.and_eq_true, Bool.and_eq_false_iff, q_evMay1, implies_true, or_true, true_or, and_true, true_and, reduceCtorEq, false_implies]
  intro g1
  refine ⟨?_, fun g2 => by omega⟩
  intros
  rw [e_wrap (by omega) (by omega)]
  omega) ⟨0⟩ ⟨Int.le_refl _, by simp⟩
 refine DT.all_is (P := fun _ => True) ?_
 unfold S.zzbr_R; try dsimp only
 simp only [DT.all_br, DT.all_leaf, DT.all_fail, S.zzbr_2_j, Lp_j_of h1]
 rcases h2 with rfl | rfl <;> simp
theorem q_conVal (l : List (Ty .val)) (hb : l.length ≤ 1048576) : S.z2hn_is l = true := DT.all_is (P := fun _ => True) (by
 unfold S.z2hn_R; try dsimp only
 simp [DT.all_br, DT.all_leaf, DT.all_fail, q_idxVal l hb])
theorem q_opMay1 (a b c d : Int) (s : ByteArray) : (S.zk4o_R a b c d s).all (fun r => r.x0 = false → 0 ≤ b) := by
 unfold S.zk4o_R; try dsimp only
 by_cases h : b < 0
 ·simp [DT.all_br, DT.all_leaf, DT.all_fail, q_valMay, xdec, h]
 ·have h2 : 0 ≤ b := by omega
  simp [DT.all_br, DT.all_leaf, DT.all_fail, q_valMay, h2]
theorem q_opMay1_is (a b c d : Int) (s : ByteArray) : S.zk4o_is a b c d s = true := DT.all_is (q_opMay1 a b c d s)
theorem q_opMay1_o (a b c d : Int) (s : ByteArray) : (S.zk4o_o a b c d s).x0 = false → 0 ≤ b := DT.all_o (q_opMay1 a b c d s)
noncomputable def badOp (x : Opn) : Bool := (S.zk4o_o x.code x.arg x.v.kind x.v.n x.v.s).x0
theorem q_idxOp_lp (l : List (Ty .op)) (hb : l.length ≤ 1048576) : Lp (S.z6r7_2_r l l.length) (⟨0⟩ : S.z6r7_2_V) = match l.findIdx? badOp with
    | some j => some (0, ⟨j⟩)
    | none => some (1, ⟨l.length⟩) := by
 refine Lp_idx (fun i => (⟨i⟩ : S.z6r7_2_V)) l badOp (fun i h => ?_) ?_
 ·have h1 : ((i : Int) < (l.length : Int)) := by omega
  have h2 : (0 : Int) ≤ (i : Int) := by omega
  unfold S.z6r7_2_r S.z6r7_2_R
  simp only [DT.run_br, DT.run_leaf, DT.run_fail, xdec, xwrap, h1, h2, decide_true, Bool.and_self, cond_true, Int.toNat_natCast, getD_of l i _ h, q_opMay1_is, e_wrap1 (show i ≤ 1048576 by omega)]
  show (bif badOp l[i] then _ else _) = if badOp l[i] = true then _ else _
  cases badOp l[i] <;> rfl
 ·unfold S.z6r7_2_r S.z6r7_2_R
  simp [DT.run_br, DT.run_leaf, xdec]
theorem q_idxOp (l : List (Ty .op)) (hb : l.length ≤ 1048576) : ∃ n, S.z6r7 l = some ⟨n⟩ ∧ (¬ n ≥ 0 → ∀ x ∈ l, badOp x = false) := by
 have e := q_idxOp_lp l hb
 cases hf : l.findIdx? badOp with
 | none =>
  rw [hf] at e
  refine ⟨-1, ?_, fun _ => List.findIdx?_eq_none_iff.1 hf⟩
  simp only [S.z6r7, S.z6r7_R, DT.run_br, DT.run_leaf, DT.run_fail, S.z6r7_2_j, S.z6r7_2_v, Lp_j_of e, Lp_v_of e]
  rfl
 | some j =>
  rw [hf] at e
  refine ⟨j, ?_, fun h => by omega⟩
  simp only [S.z6r7, S.z6r7_R, DT.run_br, DT.run_leaf, DT.run_fail, S.z6r7_2_j, S.z6r7_2_v, Lp_j_of e, Lp_v_of e]
  rfl
theorem q_conOp (l : List (Ty .op)) (hb : l.length ≤ 1048576) : ∃ b, S.zfbb l = some ⟨b⟩ ∧ (b = false → ∀ x ∈ l, badOp x = false) := by
 obtain ⟨n, h1, h2⟩ := q_idxOp l hb
 refine ⟨decide (n ≥ 0), ?_, fun h => h2 (by simpa using h)⟩
 unfold S.zfbb S.zfbb_R
 simp [DT.run_br, DT.run_leaf, S.z6r7_is, S.z6r7_o, h1, xdec]
theorem q_opMay (l : List (Ty .op)) : (S.zk66_R l).all (fun r => r.x0 = true → l.length ≤ 12 ∧ ∀ x ∈ l, 0 ≤ x.arg) := by
 unfold S.zk66_R; try dsimp only
 by_cases h : (l.length : Int) ≤ 12
 ·have h2 : l.length ≤ 12 := by omega
  obtain ⟨b, h3, h4⟩ := q_conOp l (by omega)
  simp only [DT.all_br, DT.all_leaf, DT.all_fail, xdec, h, decide_true, S.zfbb_is, S.zfbb_o, h3, Option.isSome_some, Option.getD_some, xnot]
  refine ⟨fun _ => ⟨fun _ hb => ⟨h2, fun x hx => q_opMay1_o _ _ _ _ _ (h4 (by simpa using hb) x hx)⟩, fun g => by cases g⟩, fun g => by cases g⟩
 ·simp [DT.all_br, DT.all_leaf, DT.all_fail, xdec, h]
theorem q_opMay_is (l : List (Ty .op)) : S.zk66_is l = true := DT.all_is (q_opMay l)
theorem q_isNaN (a : Int) : S.zc3b_is a = true := DT.all_is (P := fun _ => True) (by unfold S.zc3b_R; trivial)
theorem q_isNaNs (a : ByteArray) : S.zong_is a = true := DT.all_is (P := fun _ => True) (by unfold S.zong_R; trivial)
theorem q_cmp (a b : Int) : S.zlpd_is a b = true := DT.all_is (P := fun _ => True) (by
 unfold S.zlpd_R; try dsimp only
 simp [DT.all_br, DT.all_leaf, DT.all_fail, q_isNaN])
theorem q_cmps (a b : ByteArray) : S.zcxf_is a b = true := DT.all_is (P := fun _ => True) (by
 unfold S.zcxf_R; try dsimp only
 simp [DT.all_br, DT.all_leaf, DT.all_fail, q_isNaNs])
theorem q_or (l : List (Ty .int)) (hb : l.length ≤ 1048576) : S.zto6_is l = true := by
 obtain ⟨j, v', h1, h2⟩ := Lp_all (R := S.zto6_3_R 0 l l.length) (r := S.zto6_3_r 0 l l.length) (fun v => rfl) (fun v => 0 ≤ v.t8_ ∧ v.t8_ ≤ l.length) (fun j v => j = 0 ∨ j = 1) (fun v => ((l.length : Int) - v.t8_).toNat) (fun v hv => by
  unfold S.zto6_3_R; try dsimp only
  simp only [DT.all_br, DT.all_leaf, DT.all_fail, Stp_none, Stp_some, xdec, xwrap, decide_eq_true_eq, decide_eq_false_iff_not, Bool.and_eq_true, Bool.and_eq_false_iff, implies_true, or_true, true_or, and_true, true_and, reduceCtorEq, false_implies]
  intro g1
  refine ⟨?_, fun g2 => by omega⟩
  intros
  rw [e_wrap (by omega) (by omega)]
  omega) ⟨0⟩ ⟨Int.le_refl _, by simp⟩
 refine DT.all_is (P := fun _ => True) ?_
 unfold S.zto6_R; try dsimp only
 simp only [DT.all_br, DT.all_leaf, DT.all_fail, S.zto6_3_j, Lp_j_of h1]
 rcases h2 with rfl | rfl <;> simp
theorem q_less (a b : Int) (s : ByteArray) (c d : Int) (t : ByteArray) : S.zzxm_is a b s c d t = true := DT.all_is (P := fun _ => True) (by
 unfold S.zzxm_R; try dsimp only
 simp [DT.all_br, DT.all_leaf, DT.all_fail, q_valMay, q_cmp, q_cmps, xdec, sub, q_or])
theorem q_sum (c a b : Int) : S.zost_is c a b = true := DT.all_is (P := fun _ => True) (by
 unfold S.zost_R; try dsimp only
 simp only [DT.all_br, DT.all_leaf, DT.all_fail, xdec, e_xeqI, decide_eq_true_eq, decide_eq_false_iff_not, implies_true, and_true, true_and]
 intros; simp_all)
theorem q_evMay (n : ByteArray) (a : Int) (l : List (Ty .val)) : (S.zwl5_R n a l).all (fun r => r.x0 = true → l.length ≤ 6) := by
 unfold S.zwl5_R; try dsimp only
 by_cases h : (l.length : Int) ≤ 6
 ·have h2 : l.length ≤ 6 := by omega
  simp [DT.all_br, DT.all_leaf, DT.all_fail, xdec, q_conVal l (by omega), h2]
 ·simp [DT.all_br, DT.all_leaf, DT.all_fail, xdec, h]
theorem q_evMay_is (n : ByteArray) (a : Int) (l : List (Ty .val)) : S.zwl5_is n a l = true := DT.all_is (q_evMay n a l)
def GoodT (t : Thing) : Prop := (∃ n, t = .one 165 (.int .i64 n)) ∨ (∃ b, t = .one 142 (.bool b)) ∨ (∃ v : Val, t = .val 167 v ∧ v.kind ≠ 0 ∧ v.kind ≠ 1)
theorem q_of (k n : Int) (s : ByteArray) : (S.zq6h_R k n s).all (fun r => GoodT r.x0) := by
 unfold S.zq6h_R; try dsimp only
 simp only [DT.all_br, DT.all_leaf, e_xeqI, decide_eq_true_eq, decide_eq_false_iff_not]
 exact ⟨fun _ => .inl ⟨_, rfl⟩, fun h1 => ⟨fun _ => .inr (.inl ⟨_, rfl⟩), fun h2 => .inr (.inr ⟨_, rfl, h1, h2⟩)⟩⟩
theorem q_of_is (k n : Int) (s : ByteArray) : S.zq6h_is k n s = true := DT.all_is (q_of k n s)
theorem q_of_o (k n : Int) (s : ByteArray) : GoodT (S.zq6h_o k n s).x0 := DT.all_o (q_of k n s)
theorem GoodT_is {t : Thing} (h : GoodT t) : S.thingIs t = true := by
 rcases h with ⟨n, rfl⟩ | ⟨b, rfl⟩ | ⟨v, rfl, _, _⟩ <;> rfl
theorem GoodT_num (n : Int) : GoodT (.one 165 (.int .i64 n)) := .inl ⟨n, rfl⟩
theorem GoodT_bool (b : Bool) : GoodT (.one 142 (.bool b)) := .inr (.inl ⟨b, rfl⟩)
theorem q_two (c : Int) {a b : Thing} (ha : GoodT a) (hb : GoodT b) : (S.zoxb_R c a b).all (fun r => r.x1 = 0 → GoodT r.x0) := by
 unfold S.zoxb_R
 rcases ha with ⟨n, rfl⟩ | ⟨x, rfl⟩ | ⟨v, rfl, h1, h2⟩ <;> rcases hb with ⟨m, rfl⟩ | ⟨y, rfl⟩ | ⟨w, rfl, h3, h4⟩ <;>
  (try have h3' := Ne.symm h3) <;> (try have h4' := Ne.symm h4) <;>
  simp (config := { contextual := true }) [DT.all_br, DT.all_leaf, DT.all_fail, S.thingIs, S.thingV, Thing.isI, Thing.isB, Thing.isV, Thing.asI, Thing.asB, Thing.asV, xneI, xeqI, xnot, q_less, q_sum, GoodT_num, GoodT_bool, *]
theorem pile_sub {h : List Thing} {l k : Nat} (hk : k ≤ l) (hg : ∀ x ∈ h.take l, GoodT x) : ∀ x ∈ h.take k, GoodT x := by
 intro x hx
 refine hg x ?_
 have : h.take k = (h.take l).take k := by rw [List.take_take, Nat.min_eq_left hk]
 rw [this] at hx
 exact List.mem_of_mem_take hx
theorem pile_lay {h : List Thing} {l k : Nat} {t : Thing} (hk : k ≤ l) (hl : l ≤ h.length) (hg : ∀ x ∈ h.take l, GoodT x) (ht : GoodT t) : k + 1 ≤ (h.take k ++ [t]).length ∧ ∀ x ∈ (h.take k ++ [t]).take (k + 1), GoodT x := by
 have e : (h.take k ++ [t]).length = k + 1 := by rw [List.length_append, List.length_take, Nat.min_eq_left (by omega)]; rfl
 refine ⟨by omega, fun x hx => ?_⟩
 rw [List.take_of_length_le (by omega)] at hx
 rcases List.mem_append.1 hx with hx | hx
 ·exact pile_sub hk hg x hx
 ·have : x = t := by simpa using hx
  subst this; exact ht
theorem pile_len {h : List Thing} {l k : Nat} (hl : l ≤ h.length) : (sub h (0 + k) (0 + k + (l - k))).length = l - k := by simp only [sub, List.length_take, List.length_drop]; omega
theorem pile_get {h : List Thing} {l k j : Nat} (hl : l ≤ h.length) (hj : j < l - k) (hg : ∀ x ∈ h.take l, GoodT x) : GoodT ((sub h (0 + k) (0 + k + (l - k))).getD j (dflt ET.thing)) := by
 have e := pile_len (k := k) hl
 rw [getD_of _ _ _ (by omega)]
 refine hg _ ?_
 rw [List.mem_take_iff_getElem]
 refine ⟨k + j, by omega, ?_⟩
 simp [sub]
theorem q_cloneT {a : List (Ty .thing)} (hb : a.length ≤ 1048576) : S.zfst a = some ⟨a, a.length⟩ := by
 unfold S.zfst S.zfst_R
 have h2 : (a.length : Int) ≤ 1048576 := by omega
 simp [DT.run_br, DT.run_leaf, xdec, hb]
theorem q_cloneT_is {a : List (Ty .thing)} (hb : a.length ≤ 1048576) : S.zfst_is a = true := by unfold S.zfst_is; rw [q_cloneT hb]; rfl
theorem q_cloneT_o {a : List (Ty .thing)} (hb : a.length ≤ 1048576) : S.zfst_o a = ⟨a, a.length⟩ := by unfold S.zfst_o; rw [q_cloneT hb]; rfl
theorem q_two_is (c : Int) {a b : Thing} (ha : GoodT a) (hb : GoodT b) : S.zoxb_is c a b = true := DT.all_is (q_two c ha hb)
theorem q_two_o (c : Int) {a b : Thing} (ha : GoodT a) (hb : GoodT b) : (S.zoxb_o c a b).x1 = 0 → GoodT (S.zoxb_o c a b).x0 := DT.all_o (q_two c ha hb)
def PileI (n : Nat) (v : S.zn3l_2_V) : Prop := 0 ≤ v.t11_ ∧ v.t11_ ≤ n ∧ (v.h14_l : Int) ≤ v.t11_ ∧ v.h14_l ≤ v.h_28.length ∧ ∀ x ∈ v.h_28.take v.h14_l, GoodT x
def PileQ (j : Nat) (v : S.zn3l_2_V) : Prop := j ≤ 6 ∧ (j = 6 → v.h14_l ≤ v.h_28.length ∧ ∀ x ∈ v.h_28.take v.h14_l, GoodT x)
theorem PileQ_of {j : Nat} {v : S.zn3l_2_V} (h : j < 6) : PileQ j v := ⟨by omega, fun h2 => by omega⟩
theorem q_round (ops : List (Ty .op)) (ev : List (Ty .val)) (hb : ops.length ≤ 12) (ha : ∀ x ∈ ops, 0 ≤ x.arg) (v : S.zn3l_2_V) (hv : PileI ops.length v) :
    (S.zn3l_2_R ops ops.length ev false v).all (Stp (PileI ops.length) PileQ (fun v => ((ops.length : Int) - v.t11_).toNat) ((ops.length : Int) - v.t11_).toNat) := by
 obtain ⟨i, f, l, h⟩ := v
 obtain ⟨h0, h1, h2, h3, h4⟩ := hv
 dsimp only at h0 h1 h2 h3 h4
 have w2 : IntKind.i64.wrap ((l : Int) - 1) = l - 1 := e_wrap (by omega) (by omega)
 have w3 : IntKind.i64.wrap ((l : Int) - 2) = l - 2 := e_wrap (by omega) (by omega)
 unfold S.zn3l_2_R
 dsimp only
 refine ⟨fun g1 => ?_, fun _ => ⟨Nat.le_refl _, fun _ => ⟨h3, h4⟩⟩⟩
 simp only [xdec, decide_eq_true_eq] at g1
 have w1 : IntKind.i64.wrap (i + 1) = i + 1 := e_wrap (by omega) (by omega)
 have hm : ((ops.length : Int) - (i + 1)).toNat < ((ops.length : Int) - i).toNat := by omega
 simp only [xwrap, w1, w2, w3]
 have stay : PileI ops.length ⟨i + 1, f, l, h⟩ := ⟨by dsimp only; omega, by dsimp only; omega, by dsimp only; omega, h3, h4⟩
 have lay : ∀ (k : Nat) (b : Bool) (t : Thing), k ≤ l → GoodT t → PileI ops.length ⟨i + 1, b, k + 1, h.take k ++ [t]⟩ := fun k b t hk ht =>
  ⟨by dsimp only; omega, by dsimp only; omega, by dsimp only; omega, (pile_lay hk h3 h4 ht).1, (pile_lay hk h3 h4 ht).2⟩
 have less : ∀ (k : Nat) (b : Bool), k ≤ l → PileI ops.length ⟨i + 1, b, k, h⟩ := fun k b hk =>
  ⟨by dsimp only; omega, by dsimp only; omega, by dsimp only; omega, by dsimp only; omega, pile_sub hk h4⟩
 have y0 : ∀ t : Thing, decide (0 + 1 ≤ ((List.replicate 1 (dflt ET.thing)).set 0 t).length) = true := fun t => by simp
 have yl : decide (l ≤ h.length) = true := by simpa using h3
 have yb : decide (l + 1 ≤ 1048576) = true := by simp; omega
 refine ⟨fun _ => ?_, fun g => by simp [xdec, h0, g1] at g⟩
 refine ⟨fun _ => ?_, fun _ => ⟨fun _ => ?_, fun _ => ⟨fun _ => ?_, fun _ => ?_⟩⟩⟩
 ·refine ⟨fun _ => ⟨fun _ => ⟨lay l _ _ (Nat.le_refl l) (q_of_o _ _ _), hm⟩, fun g => ?_⟩, fun g => ?_⟩
  ·simp only [xdec, y0, yl, yb, Bool.and_self, Bool.true_eq_false] at g
  ·rw [q_of_is] at g; cases g
 ·refine ⟨fun _ => PileQ_of (by decide), fun g5 => ⟨fun g6 => ⟨fun _ => ⟨fun _ => ⟨lay l _ _ (Nat.le_refl l) (q_of_o _ _ _), hm⟩, fun g => ?_⟩, fun g => ?_⟩, fun g => ?_⟩⟩
  ·simp only [xdec, y0, yl, yb, Bool.and_self, Bool.true_eq_false] at g
  ·rw [q_of_is] at g; cases g
  ·have hi : i.toNat < ops.length := by omega
   have := ha (ops.getD i.toNat (dflt ET.op)) (by rw [getD_of _ _ _ hi]; exact List.getElem_mem hi)
   simp only [xdec, Bool.and_eq_false_iff, decide_eq_false_iff_not] at g g5
   omega
 ·refine ⟨fun _ => PileQ_of (by decide), fun g5 => ?_⟩
  simp only [xdec, decide_eq_false_iff_not] at g5
  have hk : ((l : Int) - 1).toNat = l - 1 := by omega
  have hsl : (sub h (0 + ((l : Int) - 1).toNat) (0 + ((l : Int) - 1).toNat + (l - ((l : Int) - 1).toNat))).length = 1 := by rw [pile_len h3, hk]; omega
  have hcl := q_cloneT_is (a := sub h (0 + ((l : Int) - 1).toNat) (0 + ((l : Int) - 1).toNat + (l - ((l : Int) - 1).toNat))) (by rw [hsl]; decide)
  have hco := q_cloneT_o (a := sub h (0 + ((l : Int) - 1).toNat) (0 + ((l : Int) - 1).toNat + (l - ((l : Int) - 1).toNat))) (by rw [hsl]; decide)
  rw [hcl, hco]
  dsimp only
  rw [hsl]
  refine ⟨fun _ => ⟨fun _ => ⟨fun _ => ⟨fun _ => ⟨fun _ => ⟨fun _ => PileQ_of (by decide), fun _ => ⟨fun _ => ⟨lay _ _ _ (by omega) (GoodT_bool _), hm⟩, fun g => ?_⟩⟩, fun g => ?_⟩, fun g => ?_⟩, fun g => ?_⟩, fun g => ?_⟩, fun g => ?_⟩
  all_goals (simp [xdec] at g <;> omega)
 ·refine ⟨fun _ => PileQ_of (by decide), fun g5 => ?_⟩
  simp only [xdec, decide_eq_false_iff_not] at g5
  have hk : ((l : Int) - 2).toNat = l - 2 := by omega
  have hsl : (sub h (0 + ((l : Int) - 2).toNat) (0 + ((l : Int) - 2).toNat + (l - ((l : Int) - 2).toNat))).length = 2 := by rw [pile_len h3, hk]; omega
  have hcl := q_cloneT_is (a := sub h (0 + ((l : Int) - 2).toNat) (0 + ((l : Int) - 2).toNat + (l - ((l : Int) - 2).toNat))) (by rw [hsl]; decide)
  have hco := q_cloneT_o (a := sub h (0 + ((l : Int) - 2).toNat) (0 + ((l : Int) - 2).toNat + (l - ((l : Int) - 2).toNat))) (by rw [hsl]; decide)
  rw [hcl, hco]
  dsimp only
  rw [hsl]
  have t0 : GoodT ((sub h (0 + ((l : Int) - 2).toNat) (0 + ((l : Int) - 2).toNat + (l - ((l : Int) - 2).toNat))).getD (0 + Int.toNat 0) (dflt ET.thing)) := pile_get h3 (by rw [hk]; show 0 < _; omega) h4
  have t1 : GoodT ((sub h (0 + ((l : Int) - 2).toNat) (0 + ((l : Int) - 2).toNat + (l - ((l : Int) - 2).toNat))).getD (0 + Int.toNat 1) (dflt ET.thing)) := pile_get h3 (by rw [hk]; show 1 < _; omega) h4
  have z1 := q_two_is (ops.getD i.toNat (dflt ET.op)).code t0 t1
  have z2 := q_two_o (ops.getD i.toNat (dflt ET.op)).code t0 t1
  rw [z1]
  generalize S.zoxb_o (ops.getD i.toNat (dflt ET.op)).code _ _ = w at z2 ⊢
  refine ⟨fun _ => ⟨fun _ => ⟨fun _ => ⟨fun _ => ⟨fun _ => ⟨fun _ => ⟨fun _ => ⟨fun _ => ⟨fun g => (by cases g), fun _ => ⟨fun g6 => ⟨fun _ => ⟨fun _ => PileQ_of (by decide), fun _ => ⟨lay _ _ _ (by omega) (z2 (by simpa [xeqI] using g6)), hm⟩⟩, fun g => ?_⟩, fun g6 => ⟨fun _ => PileQ_of (by decide), fun _ => ⟨less _ _ (by omega), hm⟩⟩⟩⟩, fun g => ?_⟩, fun g => ?_⟩, fun g => ?_⟩, fun g => ?_⟩, fun g => ?_⟩, fun g => ?_⟩, fun g => ?_⟩, fun g => ?_⟩
  all_goals (simp [xdec] at g <;> omega)
theorem q_eval (n : ByteArray) (a : Int) (ev : List (Ty .val)) (ops : List (Ty .op)) : S.zn3l_is n a ev ops = true := by
 refine DT.all_is (P := fun _ => True) ?_
 unfold S.zn3l_R
 dsimp only
 have hm := DT.all_o (q_opMay ops)
 rw [q_opMay_is, q_evMay_is]
 refine ⟨fun _ => ⟨fun _ => trivial, fun g1 => ⟨fun _ => ⟨fun _ => trivial, fun _ => ?_⟩, fun g => (by cases g)⟩⟩, fun g => (by cases g)⟩
 have g2 : (S.zk66_o ops).x0 = true := by simpa [xnot] using g1
 obtain ⟨hb, ha⟩ := hm g2
 obtain ⟨j, v', h1, h2, h3⟩ := Lp_all (R := S.zn3l_2_R ops ops.length ev false) (r := S.zn3l_2_r ops ops.length ev false) (fun v => rfl) (PileI ops.length) PileQ (fun v => ((ops.length : Int) - v.t11_).toNat) (q_round ops ev hb ha) ⟨0, true, 0, []⟩ ⟨Int.le_refl _, by simp, by simp, by simp, by simp⟩
 simp only [S.zn3l_2_j, S.zn3l_2_v, Lp_j_of h1, Lp_v_of h1]
 by_cases hj : j = 6
 ·subst hj
  obtain ⟨h4, h5⟩ := h3 rfl
  simp only [DT.all_br, DT.all_leaf, DT.all_fail, xdec, e_xneI]
  have hd : v'.h14_l = 1 → S.thingIs (v'.h_28.getD (0 + Int.toNat 0) (dflt ET.thing)) = true := by
   intro h6
   have : 0 < v'.h_28.length := by omega
   rw [getD_of _ _ _ (by exact this)]
   refine GoodT_is (h5 _ ?_)
   rw [List.mem_take_iff_getElem]
   exact ⟨0, by omega, rfl⟩
  by_cases h6 : v'.h14_l = 1
  ·simp [h6, hd h6]
   exact ⟨fun _ => by simpa using hd h6, fun hn => by rw [hn] at h4; simp at h4; omega⟩
  ·have h7 : ¬ ((v'.h14_l : Int) = 1) := by omega
   simp [h7]
 ·have : j = 0 ∨ j = 1 ∨ j = 2 ∨ j = 3 ∨ j = 4 ∨ j = 5 := by omega
  rcases this with rfl | rfl | rfl | rfl | rfl | rfl <;> simp [DT.all_br, DT.all_leaf, DT.all_fail]
theorem q_few06 (n : ByteArray) (l : List (Ty .val)) : (S.z6c2_R n l).all (fun r => r.x0 = true → n.size ≤ 60 ∧ l.length ≤ 10) := by
 by_cases hn : (n.size : Int) > 60
 ·unfold S.z6c2_R; try dsimp only
  simp [DT.all_br, DT.all_leaf, xdec, hn]
 by_cases hb : (l.length : Int) > 10
 ·unfold S.z6c2_R; try dsimp only
  simp [DT.all_br, DT.all_leaf, xdec, hn, hb]
 obtain ⟨j, v', h1, h2⟩ := Lp_all (R := S.z6c2_4_R l) (r := S.z6c2_4_r l) (fun v => rfl) (fun v => 0 ≤ v.t3_ ∧ v.t3_ ≤ l.length) (fun j v => j = 0 ∨ j = 1) (fun v => ((l.length : Int) - v.t3_).toNat) (fun v hv => by
  unfold S.z6c2_4_R; try dsimp only
  simp only [DT.all_br, DT.all_leaf, DT.all_fail, Stp_none, Stp_some, xdec, xwrap, decide_eq_true_eq, decide_eq_false_iff_not, Bool.and_eq_true, Bool.and_eq_false_iff, implies_true, or_true, true_or, and_true, true_and, reduceCtorEq, false_implies]
  intro g1
  refine ⟨?_, fun g2 => by omega⟩
  intros
  rw [e_wrap (by omega) (by omega)]
  omega) ⟨0⟩ ⟨Int.le_refl _, by simp⟩
 have k1 : n.size ≤ 60 := by omega
 have k2 : l.length ≤ 10 := by omega
 unfold S.z6c2_R; try dsimp only
 simp only [DT.all_br, DT.all_leaf, DT.all_fail, S.z6c2_4_j, Lp_j_of h1]
 rcases h2 with rfl | rfl <;> simp [k1, k2]
theorem q_few06_is (n : ByteArray) (l : List (Ty .val)) : S.z6c2_is n l = true := DT.all_is (q_few06 n l)
theorem q_few08 (l : List (Ty .op)) : (S.zzsx_R l).all (fun r => r.x0 = true → l.length ≤ 20) := by
 by_cases hb : (l.length : Int) > 20
 ·unfold S.zzsx_R; try dsimp only
  simp [DT.all_br, DT.all_leaf, xdec, hb]
 obtain ⟨j, v', h1, h2⟩ := Lp_all (R := S.zzsx_4_R l) (r := S.zzsx_4_r l) (fun v => rfl) (fun v => 0 ≤ v.t3_ ∧ v.t3_ ≤ l.length) (fun j v => j = 0 ∨ j = 1) (fun v => ((l.length : Int) - v.t3_).toNat) (fun v hv => by
  unfold S.zzsx_4_R; try dsimp only
  simp only [DT.all_br, DT.all_leaf, DT.all_fail, Stp_none, Stp_some, xdec, xwrap, decide_eq_true_eq, decide_eq_false_iff_not, Bool.and_eq_true, Bool.and_eq_false_iff, implies_true, or_true, true_or, and_true, true_and, reduceCtorEq, false_implies]
  intro g1
  refine ⟨?_, fun g2 => by omega⟩
  intros
  rw [e_wrap (by omega) (by omega)]
  omega) ⟨0⟩ ⟨Int.le_refl _, by simp⟩
 have k2 : l.length ≤ 20 := by omega
 unfold S.zzsx_R; try dsimp only
 simp only [DT.all_br, DT.all_leaf, DT.all_fail, S.zzsx_4_j, Lp_j_of h1]
 rcases h2 with rfl | rfl <;> simp [k2]
theorem q_few08_is (l : List (Ty .op)) : S.zzsx_is l = true := DT.all_is (q_few08 l)
theorem q_few09 (l : List (Ty .step)) : (S.zydq_R l).all (fun r => r.x0 = true → l.length ≤ 8) := by
 by_cases hb : (l.length : Int) > 8
 ·unfold S.zydq_R; try dsimp only
  simp [DT.all_br, DT.all_leaf, xdec, hb]
 obtain ⟨j, v', h1, h2⟩ := Lp_all (R := S.zydq_4_R l) (r := S.zydq_4_r l) (fun v => rfl) (fun v => 0 ≤ v.t3_ ∧ v.t3_ ≤ l.length) (fun j v => j = 0 ∨ j = 1) (fun v => ((l.length : Int) - v.t3_).toNat) (fun v hv => by
  unfold S.zydq_4_R; try dsimp only
  simp only [DT.all_br, DT.all_leaf, DT.all_fail, Stp_none, Stp_some, xdec, xwrap, xnot, q_few08_is, decide_eq_true_eq, decide_eq_false_iff_not, Bool.and_eq_true, Bool.and_eq_false_iff, implies_true, or_true, true_or, and_true, true_and, reduceCtorEq, false_implies]
  intro g1
  refine ⟨?_, fun g2 => by omega⟩
  intros
  rw [e_wrap (by omega) (by omega)]
  omega) ⟨0⟩ ⟨Int.le_refl _, by simp⟩
 have k2 : l.length ≤ 8 := by omega
 unfold S.zydq_R; try dsimp only
 simp only [DT.all_br, DT.all_leaf, DT.all_fail, S.zydq_4_j, Lp_j_of h1]
 rcases h2 with rfl | rfl <;> simp [k2]
theorem q_few09_is (l : List (Ty .step)) : S.zydq_is l = true := DT.all_is (q_few09 l)
theorem q_few09_o (l : List (Ty .step)) : (S.zydq_o l).x0 = true → l.length ≤ 8 := DT.all_o (q_few09 l)
theorem q_holds (n : ByteArray) (a : Int) (v : List (Ty .val)) (l : List (Ty .op)) : (S.zvnj_R n a v l).all (fun r => l = [] → r.x0 = true) := by
 unfold S.zvnj_R; dsimp only
 rw [q_eval]
 cases l with
 | nil => simp [DT.all_br, DT.all_leaf, DT.all_fail, e_xeqI]
 | cons x l => simp [DT.all_br, DT.all_leaf, DT.all_fail]
theorem q_holds_is (n : ByteArray) (a : Int) (v : List (Ty .val)) (l : List (Ty .op)) : S.zvnj_is n a v l = true := DT.all_is (q_holds n a v l)
theorem q_holds_nil (n : ByteArray) (a : Int) (v : List (Ty .val)) : (S.zvnj_o n a v []).x0 = true := DT.all_o (q_holds n a v []) rfl
noncomputable def HB : HH := fun nm ifs e => decide (nm = e.name) && (S.zvnj_o e.name e.at_ e.v ifs).x0
theorem HB_plain (nm : ByteArray) (e : Evt) : HB nm [] e = decide (nm = e.name) := by
 have h : (S.zvnj_o e.name e.at_ e.v ([] : List Opn)).x0 = true := q_holds_nil e.name e.at_ e.v
 unfold HB
 rw [h]; simp
theorem q_iHolds (nm : ByteArray) (ifs : List (Ty .op)) (en : ByteArray) (ea : Int) (ev : List (Ty .val)) : S.zh5h nm ifs en ea ev = some ⟨HB nm ifs ⟨en, ea, ev⟩⟩ := by
 unfold S.zh5h S.zh5h_R HB
 by_cases h : nm = en
 ·simp [DT.run_br, DT.run_leaf, xdec, h, q_holds_is]
 ·simp [DT.run_br, DT.run_leaf, xdec, h]
theorem q_takes (nm : ByteArray) (ifs : List (Ty .op)) (en : ByteArray) (ea : Int) (ev : List (Ty .val)) : S.z5c6 nm ifs en ea ev = some ⟨HB nm ifs ⟨en, ea, ev⟩⟩ := by
 unfold S.z5c6 S.z5c6_R
 simp [DT.run_br, DT.run_leaf, S.zh5h_is, S.zh5h_o, q_iHolds]
theorem q_forbids (g : Bool) (nm : ByteArray) (ifs : List (Ty .op)) (en : ByteArray) (ea : Int) (ev : List (Ty .val)) : S.zrsz g nm ifs en ea ev = some ⟨g && HB nm ifs ⟨en, ea, ev⟩⟩ := by
 unfold S.zrsz S.zrsz_R
 cases g <;> simp [DT.run_br, DT.run_leaf, S.zh5h_is, S.zh5h_o, q_iHolds]
theorem q_takes_is (nm : ByteArray) (ifs : List (Ty .op)) (en : ByteArray) (ea : Int) (ev : List (Ty .val)) : S.z5c6_is nm ifs en ea ev = true := by simp [S.z5c6_is, q_takes]
theorem q_takes_o (nm : ByteArray) (ifs : List (Ty .op)) (en : ByteArray) (ea : Int) (ev : List (Ty .val)) : (S.z5c6_o nm ifs en ea ev).x0 = HB nm ifs ⟨en, ea, ev⟩ := by simp [S.z5c6_o, q_takes]
theorem q_forbids_is (g : Bool) (nm : ByteArray) (ifs : List (Ty .op)) (en : ByteArray) (ea : Int) (ev : List (Ty .val)) : S.zrsz_is g nm ifs en ea ev = true := by simp [S.zrsz_is, q_forbids]
theorem q_forbids_o (g : Bool) (nm : ByteArray) (ifs : List (Ty .op)) (en : ByteArray) (ea : Int) (ev : List (Ty .val)) : (S.zrsz_o g nm ifs en ea ev).x0 = (g && HB nm ifs ⟨en, ea, ev⟩) := by simp [S.zrsz_o, q_forbids]
theorem q_late (q : Query) (r : Run) (e : Evt) : S.zfzb q.within r.at_ e.at_ = some ⟨lateL q r e⟩ := by
 unfold S.zfzb S.zfzb_R lateL
 by_cases h : q.within < 0
 ·simp [DT.run_br, DT.run_leaf, xdec, h]
 ·simp [DT.run_br, DT.run_leaf, xdec, xwrap, h]
theorem q_late_is (w a b : Int) : S.zfzb_is w a b = true := by
 have := q_late ⟨[], w, 0, 0, 0⟩ ⟨0, a, 0, 0, 0, 0, false⟩ ⟨ByteArray.empty, b, []⟩
 dsimp only at this
 simp [S.zfzb_is, this]
theorem q_late_o (q : Query) (r : Run) (e : Evt) : (S.zfzb_o q.within r.at_ e.at_).x0 = lateL q r e := by simp [S.zfzb_o, q_late]
theorem q_fate (q : Query) (r : Run) (hl : q.steps.length ≤ 1048576) (h0 : 0 ≤ r.step) : S.zahd q.steps r.step r.n = some ⟨fateL q r⟩ := by
 unfold S.zahd S.zahd_R fateL
 have w : IntKind.i64.wrap ((q.steps.length : Int) - 1) = q.steps.length - 1 := e_wrap (by omega) (by omega)
 by_cases h : r.step = (q.steps.length : Int) - 1
 ·have h1 : r.step < (q.steps.length : Int) := by omega
  by_cases h2 : r.n ≥ (stp q.steps r.step).min
  ·have h3 : r.n ≥ (q.steps.getD r.step.toNat (dflt ET.step)).min := h2
   simp only [DT.run_br, DT.run_leaf, DT.run_fail, xdec, xwrap, w, e_xeqI, h0, h1, h3, decide_true, Bool.and_self, cond_true]
   rw [if_pos ⟨h, h2⟩, decide_eq_true h]; rfl
  ·have h3 : ¬ r.n ≥ (q.steps.getD r.step.toNat (dflt ET.step)).min := h2
   simp only [DT.run_br, DT.run_leaf, DT.run_fail, xdec, xwrap, w, e_xeqI, h0, h1, h3, decide_true, decide_false, Bool.and_self, cond_true, cond_false]
   rw [if_neg (fun h => h2 h.2), decide_eq_true h]; rfl
 ·simp only [DT.run_br, DT.run_leaf, DT.run_fail, xdec, xwrap, w, e_xeqI, h, decide_false, cond_false]
  rw [if_neg (fun h2 => h2.1)]
theorem q_fate_is (l : List (Ty .step)) (s n : Int) (hl : l.length ≤ 1048576) (h0 : 0 ≤ s) : S.zahd_is l s n = true := by
 have := q_fate ⟨l, 0, 0, 0, 0⟩ ⟨0, 0, s, n, 0, 0, false⟩ hl h0
 dsimp only at this
 simp [S.zahd_is, this]
theorem q_fate_o (q : Query) (r : Run) (hl : q.steps.length ≤ 1048576) (h0 : 0 ≤ r.step) : (S.zahd_o q.steps r.step r.n).x0 = fateL q r := by simp [S.zahd_o, q_fate q r hl h0]
theorem q_sumR (a b : Int) : S.zs6k a b = some ⟨(sumL a b).1, (sumL a b).2⟩ := by
 unfold S.zs6k S.zs6k_R sumL
 have e : ∀ x y : Bool, (bif (x == y) then false else true) = decide (x ≠ y) := by decide
 simp only [DT.run_br, DT.run_leaf, xdec, xwrap, e]
 by_cases h : decide (IntKind.i64.wrap (a + b) > a) = decide (b > 0)
 ·rw [if_pos h]; simp [h]
 ·rw [if_neg h]; simp [h]
theorem q_sumR_is (a b : Int) : S.zs6k_is a b = true := by simp [S.zs6k_is, q_sumR]
theorem q_sumR_o (a b : Int) : S.zs6k_o a b = ⟨(sumL a b).1, (sumL a b).2⟩ := by simp [S.zs6k_o, q_sumR]
theorem q_least_o (a b : Int) : S.zmak_o a b = ⟨min a b, true⟩ := by
 have : (if b < a then b else a) = min a b := by rw [Int.min_def]; split <;> split <;> omega
 unfold S.zmak_o S.zmak S.zmak_R
 rw [this]; rfl
theorem q_most_o (a b : Int) : S.zrqv_o a b = ⟨max a b, true⟩ := by
 have : (if b > a then b else a) = max a b := by rw [Int.max_def]; split <;> split <;> omega
 unfold S.zrqv_o S.zrqv S.zrqv_R
 rw [this]; rfl
theorem q_told0 (st af r0 r1 r2 r3 r4 r5 : Int) (r6 : Bool) (v : List (Ty .val)) : S.told0 st r0 r1 r2 r3 r4 r5 r6 = some ⟨(toldL ⟨[], 0, 0, st, af⟩ ⟨r0, r1, r2, r3, r4, r5, r6⟩ v).first, (toldL ⟨[], 0, 0, st, af⟩ ⟨r0, r1, r2, r3, r4, r5, r6⟩ v).at_, (toldL ⟨[], 0, 0, st, af⟩ ⟨r0, r1, r2, r3, r4, r5, r6⟩ v).step, (toldL ⟨[], 0, 0, st, af⟩ ⟨r0, r1, r2, r3, r4, r5, r6⟩ v).n, (toldL ⟨[], 0, 0, st, af⟩ ⟨r0, r1, r2, r3, r4, r5, r6⟩ v).many, (toldL ⟨[], 0, 0, st, af⟩ ⟨r0, r1, r2, r3, r4, r5, r6⟩ v).agg, (toldL ⟨[], 0, 0, st, af⟩ ⟨r0, r1, r2, r3, r4, r5, r6⟩ v).bad⟩ := by
 unfold S.told0 S.told0_R toldL
 dsimp only
 by_cases h1 : r2 = st
 case neg => simp [DT.run_br, DT.run_leaf, DT.run_fail, e_xneI, e_xeqI, xdec, xwrap, xnot, q_sumR_is, q_sumR_o, q_least_o, q_most_o, h1]
 by_cases h2 : af < 0
 case pos => simp [DT.run_br, DT.run_leaf, DT.run_fail, e_xneI, e_xeqI, xdec, xwrap, xnot, q_sumR_is, q_sumR_o, q_least_o, q_most_o, h1, h2]
 by_cases h3 : af ≥ v.length
 case pos => simp [DT.run_br, DT.run_leaf, DT.run_fail, e_xneI, e_xeqI, xdec, xwrap, xnot, q_sumR_is, q_sumR_o, q_least_o, q_most_o, h1, h2, h3]
 have h2' : 0 ≤ af := by omega
 have h3' : af < v.length := by omega
 by_cases h4 : (v.getD af.toNat (dflt ET.val)).kind = 0
 case neg =>
  have h4' : ¬ (v.getD af.toNat (default : Val)).kind = 0 := h4
  simp [DT.run_br, DT.run_leaf, DT.run_fail, e_xneI, e_xeqI, xdec, xwrap, xnot, q_sumR_is, q_sumR_o, q_least_o, q_most_o, h1, h2, h3, h2', h3', h4, h4', -List.getD_eq_getElem?_getD]
 have h4' : (v.getD af.toNat (default : Val)).kind = 0 := h4
 have e5 : (v.getD af.toNat (dflt ET.val)).n = (v.getD af.toNat (default : Val)).n := rfl
 by_cases h5 : IntKind.i64.wrap (r4 + 1) = 1 <;> cases r6 <;> simp [DT.run_br, DT.run_leaf, DT.run_fail, e_xneI, e_xeqI, xdec, xwrap, xnot, q_sumR_is, q_sumR_o, q_least_o, q_most_o, h1, h2, h3, h2', h3', h4, h4', h5, e5, -List.getD_eq_getElem?_getD]
theorem q_told1 (st af r0 r1 r2 r3 r4 r5 : Int) (r6 : Bool) (v : List (Ty .val)) : S.told1 st af r0 r1 r2 r3 r4 r5 r6 v = some ⟨(toldL ⟨[], 0, 1, st, af⟩ ⟨r0, r1, r2, r3, r4, r5, r6⟩ v).first, (toldL ⟨[], 0, 1, st, af⟩ ⟨r0, r1, r2, r3, r4, r5, r6⟩ v).at_, (toldL ⟨[], 0, 1, st, af⟩ ⟨r0, r1, r2, r3, r4, r5, r6⟩ v).step, (toldL ⟨[], 0, 1, st, af⟩ ⟨r0, r1, r2, r3, r4, r5, r6⟩ v).n, (toldL ⟨[], 0, 1, st, af⟩ ⟨r0, r1, r2, r3, r4, r5, r6⟩ v).many, (toldL ⟨[], 0, 1, st, af⟩ ⟨r0, r1, r2, r3, r4, r5, r6⟩ v).agg, (toldL ⟨[], 0, 1, st, af⟩ ⟨r0, r1, r2, r3, r4, r5, r6⟩ v).bad⟩ := by
 unfold S.told1 S.told1_R toldL
 dsimp only
 by_cases h1 : r2 = st
 case neg => simp [DT.run_br, DT.run_leaf, DT.run_fail, e_xneI, e_xeqI, xdec, xwrap, xnot, q_sumR_is, q_sumR_o, q_least_o, q_most_o, h1]
 by_cases h2 : af < 0
 case pos => simp [DT.run_br, DT.run_leaf, DT.run_fail, e_xneI, e_xeqI, xdec, xwrap, xnot, q_sumR_is, q_sumR_o, q_least_o, q_most_o, h1, h2]
 by_cases h3 : af ≥ v.length
 case pos => simp [DT.run_br, DT.run_leaf, DT.run_fail, e_xneI, e_xeqI, xdec, xwrap, xnot, q_sumR_is, q_sumR_o, q_least_o, q_most_o, h1, h2, h3]
 have h2' : 0 ≤ af := by omega
 have h3' : af < v.length := by omega
 by_cases h4 : (v.getD af.toNat (dflt ET.val)).kind = 0
 case neg =>
  have h4' : ¬ (v.getD af.toNat (default : Val)).kind = 0 := h4
  simp [DT.run_br, DT.run_leaf, DT.run_fail, e_xneI, e_xeqI, xdec, xwrap, xnot, q_sumR_is, q_sumR_o, q_least_o, q_most_o, h1, h2, h3, h2', h3', h4, h4', -List.getD_eq_getElem?_getD]
 have h4' : (v.getD af.toNat (default : Val)).kind = 0 := h4
 have e5 : (v.getD af.toNat (dflt ET.val)).n = (v.getD af.toNat (default : Val)).n := rfl
 by_cases h5 : IntKind.i64.wrap (r4 + 1) = 1 <;> cases r6 <;> simp [DT.run_br, DT.run_leaf, DT.run_fail, e_xneI, e_xeqI, xdec, xwrap, xnot, q_sumR_is, q_sumR_o, q_least_o, q_most_o, h1, h2, h3, h2', h3', h4, h4', h5, e5, -List.getD_eq_getElem?_getD]
theorem q_told2 (st af r0 r1 r2 r3 r4 r5 : Int) (r6 : Bool) (v : List (Ty .val)) : S.told2 st af r0 r1 r2 r3 r4 r5 r6 v = some ⟨(toldL ⟨[], 0, 2, st, af⟩ ⟨r0, r1, r2, r3, r4, r5, r6⟩ v).first, (toldL ⟨[], 0, 2, st, af⟩ ⟨r0, r1, r2, r3, r4, r5, r6⟩ v).at_, (toldL ⟨[], 0, 2, st, af⟩ ⟨r0, r1, r2, r3, r4, r5, r6⟩ v).step, (toldL ⟨[], 0, 2, st, af⟩ ⟨r0, r1, r2, r3, r4, r5, r6⟩ v).n, (toldL ⟨[], 0, 2, st, af⟩ ⟨r0, r1, r2, r3, r4, r5, r6⟩ v).many, (toldL ⟨[], 0, 2, st, af⟩ ⟨r0, r1, r2, r3, r4, r5, r6⟩ v).agg, (toldL ⟨[], 0, 2, st, af⟩ ⟨r0, r1, r2, r3, r4, r5, r6⟩ v).bad⟩ := by
 unfold S.told2 S.told2_R toldL
 dsimp only
 by_cases h1 : r2 = st
 case neg => simp [DT.run_br, DT.run_leaf, DT.run_fail, e_xneI, e_xeqI, xdec, xwrap, xnot, q_sumR_is, q_sumR_o, q_least_o, q_most_o, h1]
 by_cases h2 : af < 0
 case pos => simp [DT.run_br, DT.run_leaf, DT.run_fail, e_xneI, e_xeqI, xdec, xwrap, xnot, q_sumR_is, q_sumR_o, q_least_o, q_most_o, h1, h2]
 by_cases h3 : af ≥ v.length
 case pos => simp [DT.run_br, DT.run_leaf, DT.run_fail, e_xneI, e_xeqI, xdec, xwrap, xnot, q_sumR_is, q_sumR_o, q_least_o, q_most_o, h1, h2, h3]
 have h2' : 0 ≤ af := by omega
 have h3' : af < v.length := by omega
 by_cases h4 : (v.getD af.toNat (dflt ET.val)).kind = 0
 case neg =>
  have h4' : ¬ (v.getD af.toNat (default : Val)).kind = 0 := h4
  simp [DT.run_br, DT.run_leaf, DT.run_fail, e_xneI, e_xeqI, xdec, xwrap, xnot, q_sumR_is, q_sumR_o, q_least_o, q_most_o, h1, h2, h3, h2', h3', h4, h4', -List.getD_eq_getElem?_getD]
 have h4' : (v.getD af.toNat (default : Val)).kind = 0 := h4
 have e5 : (v.getD af.toNat (dflt ET.val)).n = (v.getD af.toNat (default : Val)).n := rfl
 by_cases h5 : IntKind.i64.wrap (r4 + 1) = 1 <;> cases r6 <;> simp [DT.run_br, DT.run_leaf, DT.run_fail, e_xneI, e_xeqI, xdec, xwrap, xnot, q_sumR_is, q_sumR_o, q_least_o, q_most_o, h1, h2, h3, h2', h3', h4, h4', h5, e5, -List.getD_eq_getElem?_getD]
theorem q_toldp {ag : Int} (a0 : ¬ ag = 0) (a1 : ¬ ag = 1) (a2 : ¬ ag = 2) (st af r0 r1 r2 r3 r4 r5 : Int) (r6 : Bool) (v : List (Ty .val)) : S.toldp st af r0 r1 r2 r3 r4 r5 r6 v = some ⟨(toldL ⟨[], 0, ag, st, af⟩ ⟨r0, r1, r2, r3, r4, r5, r6⟩ v).first, (toldL ⟨[], 0, ag, st, af⟩ ⟨r0, r1, r2, r3, r4, r5, r6⟩ v).at_, (toldL ⟨[], 0, ag, st, af⟩ ⟨r0, r1, r2, r3, r4, r5, r6⟩ v).step, (toldL ⟨[], 0, ag, st, af⟩ ⟨r0, r1, r2, r3, r4, r5, r6⟩ v).n, (toldL ⟨[], 0, ag, st, af⟩ ⟨r0, r1, r2, r3, r4, r5, r6⟩ v).many, (toldL ⟨[], 0, ag, st, af⟩ ⟨r0, r1, r2, r3, r4, r5, r6⟩ v).agg, (toldL ⟨[], 0, ag, st, af⟩ ⟨r0, r1, r2, r3, r4, r5, r6⟩ v).bad⟩ := by
 unfold S.toldp S.toldp_R toldL
 dsimp only
 by_cases h1 : r2 = st
 case neg => simp [DT.run_br, DT.run_leaf, DT.run_fail, e_xneI, e_xeqI, xdec, xwrap, xnot, q_sumR_is, q_sumR_o, q_least_o, q_most_o, a0, a1, a2, h1]
 by_cases h2 : af < 0
 case pos => simp [DT.run_br, DT.run_leaf, DT.run_fail, e_xneI, e_xeqI, xdec, xwrap, xnot, q_sumR_is, q_sumR_o, q_least_o, q_most_o, a0, a1, a2, h1, h2]
 by_cases h3 : af ≥ v.length
 case pos => simp [DT.run_br, DT.run_leaf, DT.run_fail, e_xneI, e_xeqI, xdec, xwrap, xnot, q_sumR_is, q_sumR_o, q_least_o, q_most_o, a0, a1, a2, h1, h2, h3]
 have h2' : 0 ≤ af := by omega
 have h3' : af < v.length := by omega
 by_cases h4 : (v.getD af.toNat (dflt ET.val)).kind = 0
 case neg =>
  have h4' : ¬ (v.getD af.toNat (default : Val)).kind = 0 := h4
  simp [DT.run_br, DT.run_leaf, DT.run_fail, e_xneI, e_xeqI, xdec, xwrap, xnot, q_sumR_is, q_sumR_o, q_least_o, q_most_o, a0, a1, a2, h1, h2, h3, h2', h3', h4, h4', -List.getD_eq_getElem?_getD]
 have h4' : (v.getD af.toNat (default : Val)).kind = 0 := h4
 have e5 : (v.getD af.toNat (dflt ET.val)).n = (v.getD af.toNat (default : Val)).n := rfl
 by_cases h5 : IntKind.i64.wrap (r4 + 1) = 1 <;> cases r6 <;> simp [DT.run_br, DT.run_leaf, DT.run_fail, e_xneI, e_xeqI, xdec, xwrap, xnot, q_sumR_is, q_sumR_o, q_least_o, q_most_o, a0, a1, a2, h1, h2, h3, h2', h3', h4, h4', h5, e5, -List.getD_eq_getElem?_getD]
theorem q_toldn {ag : Int} (a0 : ¬ ag = 0) (a1 : ¬ ag = 1) (a2 : ¬ ag = 2) (st af r0 r1 r2 r3 r4 r5 : Int) (r6 : Bool) (v : List (Ty .val)) : S.toldn st af r0 r1 r2 r3 r4 r5 r6 v = some ⟨(toldL ⟨[], 0, ag, st, af⟩ ⟨r0, r1, r2, r3, r4, r5, r6⟩ v).first, (toldL ⟨[], 0, ag, st, af⟩ ⟨r0, r1, r2, r3, r4, r5, r6⟩ v).at_, (toldL ⟨[], 0, ag, st, af⟩ ⟨r0, r1, r2, r3, r4, r5, r6⟩ v).step, (toldL ⟨[], 0, ag, st, af⟩ ⟨r0, r1, r2, r3, r4, r5, r6⟩ v).n, (toldL ⟨[], 0, ag, st, af⟩ ⟨r0, r1, r2, r3, r4, r5, r6⟩ v).many, (toldL ⟨[], 0, ag, st, af⟩ ⟨r0, r1, r2, r3, r4, r5, r6⟩ v).agg, (toldL ⟨[], 0, ag, st, af⟩ ⟨r0, r1, r2, r3, r4, r5, r6⟩ v).bad⟩ := by
 unfold S.toldn S.toldn_R toldL
 dsimp only
 by_cases h1 : r2 = st
 case neg => simp [DT.run_br, DT.run_leaf, DT.run_fail, e_xneI, e_xeqI, xdec, xwrap, xnot, q_sumR_is, q_sumR_o, q_least_o, q_most_o, a0, a1, a2, h1]
 by_cases h2 : af < 0
 case pos => simp [DT.run_br, DT.run_leaf, DT.run_fail, e_xneI, e_xeqI, xdec, xwrap, xnot, q_sumR_is, q_sumR_o, q_least_o, q_most_o, a0, a1, a2, h1, h2]
 by_cases h3 : af ≥ v.length
 case pos => simp [DT.run_br, DT.run_leaf, DT.run_fail, e_xneI, e_xeqI, xdec, xwrap, xnot, q_sumR_is, q_sumR_o, q_least_o, q_most_o, a0, a1, a2, h1, h2, h3]
 have h2' : 0 ≤ af := by omega
 have h3' : af < v.length := by omega
 by_cases h4 : (v.getD af.toNat (dflt ET.val)).kind = 0
 case neg =>
  have h4' : ¬ (v.getD af.toNat (default : Val)).kind = 0 := h4
  simp [DT.run_br, DT.run_leaf, DT.run_fail, e_xneI, e_xeqI, xdec, xwrap, xnot, q_sumR_is, q_sumR_o, q_least_o, q_most_o, a0, a1, a2, h1, h2, h3, h2', h3', h4, h4', -List.getD_eq_getElem?_getD]
 have h4' : (v.getD af.toNat (default : Val)).kind = 0 := h4
 have e5 : (v.getD af.toNat (dflt ET.val)).n = (v.getD af.toNat (default : Val)).n := rfl
 by_cases h5 : IntKind.i64.wrap (r4 + 1) = 1 <;> cases r6 <;> simp [DT.run_br, DT.run_leaf, DT.run_fail, e_xneI, e_xeqI, xdec, xwrap, xnot, q_sumR_is, q_sumR_o, q_least_o, q_most_o, a0, a1, a2, h1, h2, h3, h2', h3', h4, h4', h5, e5, -List.getD_eq_getElem?_getD]
theorem q_told (q : Query) (r : Run) (v : List (Ty .val)) : S.told_is q.agg q.aggStep q.aggF r.first r.at_ r.step r.n r.many r.agg r.bad v = true ∧ S.told_o q.agg q.aggStep q.aggF r.first r.at_ r.step r.n r.many r.agg r.bad v = toldL q r v := by
 obtain ⟨st, wi, ag, as', af⟩ := q
 obtain ⟨r0, r1, r2, r3, r4, r5, r6⟩ := r
 match ag with
 | .ofNat 0 => exact ⟨by show S.told0_is _ _ _ _ _ _ _ _ = true; simp [S.told0_is, q_told0 as' af r0 r1 r2 r3 r4 r5 r6 v], by show Run.mk _ _ _ _ _ _ _ = _; simp only [S.told0_o, q_told0 as' af r0 r1 r2 r3 r4 r5 r6 v, Option.getD_some]; rfl⟩
 | .ofNat 1 => exact ⟨by show S.told1_is _ _ _ _ _ _ _ _ _ _ = true; simp [S.told1_is, q_told1], by show Run.mk _ _ _ _ _ _ _ = _; simp only [S.told1_o, q_told1, Option.getD_some]; rfl⟩
 | .ofNat 2 => exact ⟨by show S.told2_is _ _ _ _ _ _ _ _ _ _ = true; simp [S.told2_is, q_told2], by show Run.mk _ _ _ _ _ _ _ = _; simp only [S.told2_o, q_told2, Option.getD_some]; rfl⟩
 | .ofNat (n + 3) => exact ⟨by show S.toldp_is _ _ _ _ _ _ _ _ _ _ = true; simp [S.toldp_is, q_toldp (ag := .ofNat (n + 3)) (by intro h; injection h with h; omega) (by intro h; injection h with h; omega) (by intro h; injection h with h; omega)], by show Run.mk _ _ _ _ _ _ _ = _; simp only [S.toldp_o, q_toldp (ag := .ofNat (n + 3)) (by intro h; injection h with h; omega) (by intro h; injection h with h; omega) (by intro h; injection h with h; omega), Option.getD_some]; rfl⟩
 | .negSucc n => exact ⟨by show S.toldn_is _ _ _ _ _ _ _ _ _ _ = true; simp [S.toldn_is, q_toldn (ag := .negSucc n) (by intro h; cases h) (by intro h; cases h) (by intro h; cases h)], by show Run.mk _ _ _ _ _ _ _ = _; simp only [S.toldn_o, q_toldn (ag := .negSucc n) (by intro h; cases h) (by intro h; cases h) (by intro h; cases h), Option.getD_some]; rfl⟩
def outT (p : Run × Int) : S.zc3p_T := ⟨p.1.first, p.1.at_, p.1.step, p.1.n, p.1.many, p.1.agg, p.1.bad, p.2⟩
def outB (p : Run × Int) : S.zvb5_T := ⟨p.1.first, p.1.at_, p.1.step, p.1.n, p.1.many, p.1.agg, p.1.bad, p.2⟩
def outN (p : Run × Int) : S.zwus_T := ⟨p.1.first, p.1.at_, p.1.step, p.1.n, p.1.many, p.1.agg, p.1.bad, p.2⟩
theorem q_taken (q : Query) (r : Run) (v : List (Ty .val)) (hl : q.steps.length ≤ 1048576) (h0 : 0 ≤ r.step) :
    S.zc3p q.steps q.agg q.aggStep q.aggF r.first r.at_ r.step r.n r.many r.agg r.bad v = some (outT (toldL q r v, fateL q (toldL q r v))) := by
 obtain ⟨t1, t2⟩ := q_told q r v
 have k := (toldL_keep q r v).2.2.1
 have f1 := q_fate_is q.steps (toldL q r v).step (toldL q r v).n hl (by omega)
 have f2 := q_fate_o q (toldL q r v) hl (by omega)
 unfold S.zc3p S.zc3p_R
 dsimp only
 rw [t1, t2, f1, f2]
 rfl
theorem q_taken_is (q : Query) (r : Run) (v : List (Ty .val)) (hl : q.steps.length ≤ 1048576) (h0 : 0 ≤ r.step) :
    S.zc3p_is q.steps q.agg q.aggStep q.aggF r.first r.at_ r.step r.n r.many r.agg r.bad v = true := by simp [S.zc3p_is, q_taken q r v hl h0]
theorem q_taken_o (q : Query) (r : Run) (v : List (Ty .val)) (hl : q.steps.length ≤ 1048576) (h0 : 0 ≤ r.step) :
    S.zc3p_o q.steps q.agg q.aggStep q.aggF r.first r.at_ r.step r.n r.many r.agg r.bad v = outT (toldL q r v, fateL q (toldL q r v)) := by simp [S.zc3p_o, q_taken q r v hl h0]
theorem q_Begin (q : Query) (e : Evt) (at' : Int) (hl : q.steps.length ≤ 1048576) : S.zvb5 q.steps q.agg q.aggStep q.aggF e.name e.at_ e.v at' = some (outB (beginL HB q e at')) := by
 have k1 := q_taken_is q ⟨at', e.at_, 0, 1, 0, 0, false⟩ e.v hl (Int.le_refl 0)
 have k2 := q_taken_o q ⟨at', e.at_, 0, 1, 0, 0, false⟩ e.v hl (Int.le_refl 0)
 dsimp only at k1 k2
 unfold S.zvb5 S.zvb5_R beginL
 dsimp only
 by_cases c1 : q.steps.length = 0
 ·rw [if_pos c1]
  have : ((q.steps.length : Nat) : Int) = 0 := by omega
  simp only [DT.run_br, DT.run_leaf, e_xeqI, this, decide_true, cond_true]
  rfl
 rw [if_neg c1]
 have c1' : ¬ ((q.steps.length : Nat) : Int) = 0 := by omega
 have c1'' : (0 : Int) < ((q.steps.length : Nat) : Int) := by omega
 have c0 : (0 : Int) ≤ 0 := Int.le_refl 0
 have et : HB (q.steps.getD (Int.toNat 0) (dflt ET.step)).name (q.steps.getD (Int.toNat 0) (dflt ET.step)).ifs ⟨e.name, e.at_, e.v⟩ = takesL HB (stp q.steps 0) e := rfl
 simp only [DT.run_br, DT.run_leaf, DT.run_fail, e_xeqI, xdec, xnot, c1', c1'', c0, decide_true, decide_false, cond_true, cond_false, Bool.and_self, q_takes_is, q_takes_o, et, k1, k2]
 cases takesL HB (stp q.steps 0) e <;> rfl
theorem q_Begin_is (q : Query) (e : Evt) (at' : Int) (hl : q.steps.length ≤ 1048576) : S.zvb5_is q.steps q.agg q.aggStep q.aggF e.name e.at_ e.v at' = true := by simp [S.zvb5_is, q_Begin q e at' hl]
theorem q_Begin_o (q : Query) (e : Evt) (at' : Int) (hl : q.steps.length ≤ 1048576) : S.zvb5_o q.steps q.agg q.aggStep q.aggF e.name e.at_ e.v at' = outB (beginL HB q e at') := by simp [S.zvb5_o, q_Begin q e at' hl]
theorem q_Next (q : Query) (r : Run) (e : Evt) (hl : q.steps.length ≤ 1048576) :
    S.zwus q.steps q.within q.agg q.aggStep q.aggF r.first r.at_ r.step r.n r.many r.agg r.bad e.name e.at_ e.v = some (outN (nextL HB q r e)) := by
 unfold S.zwus S.zwus_R nextL
 dsimp only
 by_cases a1 : r.step < 0
 ·rw [if_pos (.inl a1)]
  simp only [DT.run_br, DT.run_leaf, xdec, a1, decide_true, cond_true]
  rfl
 by_cases a2 : r.step ≥ (q.steps.length : Int)
 ·rw [if_pos (.inr a2)]
  simp only [DT.run_br, DT.run_leaf, xdec, a1, a2, decide_true, decide_false, cond_true, cond_false]
  rfl
 rw [if_neg (by omega)]
 by_cases a3 : e.at_ < r.at_
 ·rw [if_pos a3]
  simp only [DT.run_br, DT.run_leaf, xdec, a1, a2, a3, decide_true, decide_false, cond_true, cond_false]
  rfl
 rw [if_neg a3]
 by_cases a4 : lateL q r e = true
 ·rw [if_pos a4]
  simp only [DT.run_br, DT.run_leaf, xdec, a1, a2, a3, decide_true, decide_false, cond_true, cond_false, q_late_is, q_late_o, a4]
  rfl
 rw [if_neg a4]
 have a4' : lateL q r e = false := by simpa using a4
 have b1 : (0 : Int) ≤ r.step := by omega
 have b2 : r.step < (q.steps.length : Int) := by omega
 have b3 : (0 : Int) ≤ 0 := Int.le_refl 0
 have w : IntKind.i64.wrap (r.step + 1) = r.step + 1 := e_wrap (by omega) (by omega)
 have b4 : (0 : Int) ≤ r.step + 1 := by omega
 have b5 : r.step + 1 ≤ Int.ofNat q.steps.length := by show _ ≤ ((q.steps.length : Nat) : Int); omega
 have hlen : ((sub q.steps (r.step + 1).toNat q.steps.length).length : Int) = q.steps.length - (r.step + 1) := by simp only [sub, List.length_take, List.length_drop]; omega
 have kA := q_taken_is q { r with step := r.step + 1, n := 1 } e.v hl b4
 have kB := q_taken_o q { r with step := r.step + 1, n := 1 } e.v hl b4
 have kC := q_taken_is q { r with n := w64 (r.n + 1) } e.v hl b1
 have kD := q_taken_o q { r with n := w64 (r.n + 1) } e.v hl b1
 dsimp only [w64] at kA kB kC kD
 have hget : r.step + 1 < q.steps.length → (sub q.steps (r.step + 1).toNat q.steps.length).getD (Int.toNat 0) (dflt ET.step) = stp q.steps (r.step + 1) := by
  intro h
  have h1 : (r.step + 1).toNat < q.steps.length := by omega
  have h2 : 0 < (sub q.steps (r.step + 1).toNat q.steps.length).length := by omega
  show (sub q.steps (r.step + 1).toNat q.steps.length).getD 0 (dflt ET.step) = q.steps.getD (r.step + 1).toNat (dflt ET.step)
  rw [getD_of _ _ _ h2, getD_of _ _ _ h1]
  simp [sub]
 have hx : q.steps.getD r.step.toNat (dflt ET.step) = stp q.steps r.step := rfl
 have tk : ∀ x : Step, HB x.name x.ifs ⟨e.name, e.at_, e.v⟩ = takesL HB x e := fun _ => rfl
 have fb : ∀ x : Step, (x.guard && HB x.notName x.notIf ⟨e.name, e.at_, e.v⟩) = forbidsL HB x e := fun _ => rfl
 have kB' := congrArg S.zc3p_T.x0 kB
 simp only [DT.run_br, DT.run_leaf, DT.run_fail, xdec, xwrap, a1, a2, a3, a4', b1, b2, b3, b4, b5, w, hlen, decide_true, decide_false, cond_true, cond_false, Bool.and_self, q_late_is, q_late_o, q_takes_is, q_forbids_is, q_takes_o, q_forbids_o, hx, tk, fb, kA, kB, kC, kD]
 have more : (bif decide (r.n < (stp q.steps r.step).max) then bif takesL HB (stp q.steps r.step) e then
     (some ⟨(outT (toldL q { r with n := w64 (r.n + 1) } e.v, fateL q (toldL q { r with n := w64 (r.n + 1) } e.v))).x0, (outT (toldL q { r with n := w64 (r.n + 1) } e.v, fateL q (toldL q { r with n := w64 (r.n + 1) } e.v))).x1, (outT (toldL q { r with n := w64 (r.n + 1) } e.v, fateL q (toldL q { r with n := w64 (r.n + 1) } e.v))).x2, (outT (toldL q { r with n := w64 (r.n + 1) } e.v, fateL q (toldL q { r with n := w64 (r.n + 1) } e.v))).x3, (outT (toldL q { r with n := w64 (r.n + 1) } e.v, fateL q (toldL q { r with n := w64 (r.n + 1) } e.v))).x4, (outT (toldL q { r with n := w64 (r.n + 1) } e.v, fateL q (toldL q { r with n := w64 (r.n + 1) } e.v))).x5, (outT (toldL q { r with n := w64 (r.n + 1) } e.v, fateL q (toldL q { r with n := w64 (r.n + 1) } e.v))).x6, (outT (toldL q { r with n := w64 (r.n + 1) } e.v, fateL q (toldL q { r with n := w64 (r.n + 1) } e.v))).x7⟩ : Option S.zwus_T)
     else some ⟨r.first, r.at_, r.step, r.n, r.many, r.agg, r.bad, 0⟩ else some ⟨r.first, r.at_, r.step, r.n, r.many, r.agg, r.bad, 0⟩) =
     some (outN (if r.n < (stp q.steps r.step).max ∧ takesL HB (stp q.steps r.step) e = true then (toldL q { r with n := w64 (r.n + 1) } e.v, fateL q (toldL q { r with n := w64 (r.n + 1) } e.v)) else (r, 0))) := by
  by_cases c : r.n < (stp q.steps r.step).max
  ·cases ht : takesL HB (stp q.steps r.step) e
   ·rw [if_neg (by simp)]; simp only [c, decide_true, cond_true, cond_false]; rfl
   ·rw [if_pos ⟨c, rfl⟩]; simp only [c, decide_true, cond_true, cond_false]; rfl
  ·rw [if_neg (fun h => c h.1)]; simp only [c, decide_false, cond_false]; rfl
 by_cases d1 : r.step + 1 < (q.steps.length : Int)
 ·have d1' : (q.steps.length : Int) - (r.step + 1) > 0 := by omega
  have d1'' : (0 : Int) < (q.steps.length : Int) - (r.step + 1) := by omega
  have hx2 := hget d1
  by_cases d2 : r.n ≥ (stp q.steps r.step).min
  ·cases hf : forbidsL HB (stp q.steps (r.step + 1)) e
   ·cases ht : takesL HB (stp q.steps (r.step + 1)) e
    ·rw [if_neg (by simp), if_neg (by simp)]
     simp only [d1', d1'', d2, decide_true, cond_true, cond_false, hx2, hf, ht]
     exact more
    ·rw [if_neg (by simp), if_pos ⟨⟨d1, d2⟩, rfl⟩]
     simp only [d1', d1'', d2, decide_true, cond_true, cond_false, hx2, hf, ht]
     rfl
   ·rw [if_pos ⟨⟨d1, d2⟩, rfl⟩]
    simp only [d1', d1'', d2, decide_true, cond_true, cond_false, hx2, hf]
    rfl
  ·rw [if_neg (fun h => d2 h.1.2), if_neg (fun h => d2 h.1.2)]
   simp only [d1', d2, decide_true, decide_false, cond_true, cond_false]
   exact more
 ·have d1' : ¬ (q.steps.length : Int) - (r.step + 1) > 0 := by omega
  rw [if_neg (fun h => d1 h.1.1), if_neg (fun h => d1 h.1.1)]
  simp only [d1', decide_false, cond_false]
  exact more
theorem q_Next_is (q : Query) (r : Run) (e : Evt) (hl : q.steps.length ≤ 1048576) :
    S.zwus_is q.steps q.within q.agg q.aggStep q.aggF r.first r.at_ r.step r.n r.many r.agg r.bad e.name e.at_ e.v = true := by simp [S.zwus_is, q_Next q r e hl]
theorem q_Next_o (q : Query) (r : Run) (e : Evt) (hl : q.steps.length ≤ 1048576) :
    S.zwus_o q.steps q.within q.agg q.aggStep q.aggF r.first r.at_ r.step r.n r.many r.agg r.bad e.name e.at_ e.v = outN (nextL HB q r e) := by simp [S.zwus_o, q_Next q r e hl]
theorem q_May (q : Query) (r : Run) (hl : q.steps.length ≤ 1048576) : S.zzvv q.steps r.step r.n r.many = some ⟨decide (mayR q r)⟩ := by
 unfold S.zzvv S.zzvv_R
 dsimp only
 by_cases a1 : r.step < 0
 ·have : ¬ mayR q r := fun h => by have := h.1; omega
  simp [DT.run_br, DT.run_leaf, xdec, a1, this]
 by_cases a2 : r.step ≥ (q.steps.length : Int)
 ·have : ¬ mayR q r := fun h => by have := h.2.1; omega
  simp [DT.run_br, DT.run_leaf, xdec, a1, a2, this]
 by_cases a3 : r.many < 0
 ·have : ¬ mayR q r := fun h => by have := h.2.2.1; omega
  simp [DT.run_br, DT.run_leaf, xdec, a1, a2, a3, this]
 by_cases a4 : r.n > 0
 case neg =>
  have : ¬ mayR q r := fun h => by have := h.2.2.2.1; omega
  simp [DT.run_br, DT.run_leaf, xdec, a1, a2, a3, a4, this]
 have b1 : (0 : Int) ≤ r.step := by omega
 have b2 : r.step < (q.steps.length : Int) := by omega
 have hx : q.steps.getD r.step.toNat (dflt ET.step) = stp q.steps r.step := rfl
 by_cases a5 : r.n ≤ (stp q.steps r.step).max
 case neg =>
  have : ¬ mayR q r := fun h => a5 h.2.2.2.2.1
  simp only [DT.run_br, DT.run_leaf, xdec, a1, a2, a3, a4, a5, b1, b2, hx, this, decide_true, decide_false, cond_true, cond_false, Bool.and_self]
 have f1 := q_fate_is q.steps r.step r.n hl b1
 have f2 := q_fate_o q r hl b1
 have : (mayR q r) = (fateL q r = 0) := by
  apply propext
  exact ⟨fun h => h.2.2.2.2.2, fun h => ⟨b1, b2, by omega, a4, a5, h⟩⟩
 simp only [DT.run_br, DT.run_leaf, xdec, a1, a2, a3, a4, a5, b1, b2, hx, f1, f2, e_xeqI, decide_true, decide_false, cond_true, cond_false, Bool.and_self]
 congr 2
 rw [decide_eq_decide, this]
theorem q_May_is (q : Query) (r : Run) (hl : q.steps.length ≤ 1048576) : S.zzvv_is q.steps r.step r.n r.many = true := by simp [S.zzvv_is, q_May q r hl]
theorem q_May_o (q : Query) (r : Run) (hl : q.steps.length ≤ 1048576) : (S.zzvv_o q.steps r.step r.n r.many).x0 = decide (mayR q r) := by simp [S.zzvv_o, q_May q r hl]
theorem q_name (s : ByteArray) (h : wfS s) : S.ztra_is s = true := by
 have hs : (s.size : Int) ≤ 9223372036854775807 := by have : s.size ≤ 2 ^ 63 - 1 := h; omega
 obtain ⟨j, v', h1, h2⟩ := Lp_all (R := S.ztra_2_R s) (r := S.ztra_2_r s) (fun v => rfl) (fun v => 0 ≤ v.t3_ ∧ v.t3_ ≤ s.size) (fun j v => j = 0 ∨ j = 1) (fun v => ((s.size : Int) - v.t3_).toNat) (fun v hv => by
  by_cases g : v.t3_ < (s.size : Int)
  ·have w : IntKind.i64.wrap (v.t3_ + 1) = v.t3_ + 1 := e_wrap (by omega) (by omega)
   have hI : (0 ≤ v.t3_ + 1 ∧ v.t3_ + 1 ≤ (s.size : Int)) ∧ ((s.size : Int) - (v.t3_ + 1)).toNat < ((s.size : Int) - v.t3_).toNat := by omega
   unfold S.ztra_2_R; dsimp only
   simp only [DT.all_br, DT.all_leaf, DT.all_fail, Stp_none, Stp_some, xdec, xwrap, w, g, hv.1, decide_true, Bool.and_self, hI, implies_true, true_or, or_true, and_self, reduceCtorEq, false_implies, Bool.true_eq_false]
  ·unfold S.ztra_2_R; dsimp only
   simp [DT.all_br, DT.all_leaf, DT.all_fail, Stp_some, xdec, g]) ⟨0⟩ ⟨Int.le_refl _, by simp⟩
 refine DT.all_is (P := fun _ => True) ?_
 unfold S.ztra_R; try dsimp only
 simp only [DT.all_br, DT.all_leaf, DT.all_fail, S.ztra_2_j, Lp_j_of h1]
 rcases h2 with rfl | rfl <;> simp
theorem q_val04 (a b : Int) (s : ByteArray) : S.zfbt_is a b s = true := DT.all_is (P := fun _ => True) (by
 unfold S.zfbt_R; try dsimp only
 simp only [DT.all_br, DT.all_leaf, DT.all_fail, implies_true, and_self])
theorem q_ops08 (l : List (Ty .op)) (h : l.length ≤ maxLen) : S.zcnl_is l = true := by
 have hs : (l.length : Int) ≤ 9223372036854775807 := by have : l.length ≤ 2 ^ 63 - 1 := h; omega
 obtain ⟨j, v', h1, h2⟩ := Lp_all (R := S.zcnl_2_R l) (r := S.zcnl_2_r l) (fun v => rfl) (fun v => 0 ≤ v.t3_ ∧ v.t3_ ≤ l.length) (fun j v => j = 0 ∨ j = 1) (fun v => ((l.length : Int) - v.t3_).toNat) (fun v hv => by
  by_cases g : v.t3_ < (l.length : Int)
  ·have w : IntKind.i64.wrap (v.t3_ + 1) = v.t3_ + 1 := e_wrap (by omega) (by omega)
   have hI : (0 ≤ v.t3_ + 1 ∧ v.t3_ + 1 ≤ (l.length : Int)) ∧ ((l.length : Int) - (v.t3_ + 1)).toNat < ((l.length : Int) - v.t3_).toNat := by omega
   unfold S.zcnl_2_R; dsimp only
   simp only [DT.all_br, DT.all_leaf, DT.all_fail, Stp_none, Stp_some, xdec, xwrap, w, g, hv.1, q_val04, decide_true, Bool.and_self, hI, implies_true, true_or, or_true, and_self, reduceCtorEq, false_implies, Bool.true_eq_false]
  ·unfold S.zcnl_2_R; dsimp only
   simp [DT.all_br, DT.all_leaf, DT.all_fail, Stp_some, xdec, g]) ⟨0⟩ ⟨Int.le_refl _, by simp⟩
 refine DT.all_is (P := fun _ => True) ?_
 unfold S.zcnl_R; try dsimp only
 simp only [DT.all_br, DT.all_leaf, DT.all_fail, S.zcnl_2_j, Lp_j_of h1]
 rcases h2 with rfl | rfl <;> simp
def stepOk (x : Step) (last : Bool) : Prop := 1 ≤ x.min ∧ x.min ≤ x.max ∧ x.max ≤ 4 ∧ (last = true → x.min = x.max)
theorem q_step09 (x : Step) (hx : wfStep x) (a b : Bool) : (S.zasc_R x.name x.ifs x.min x.max x.guard x.notName x.notIf a b).all (fun r => r.x0 = true → stepOk x b) := by
 obtain ⟨w1, w2, w3, w4, w5, w6⟩ := hx
 unfold S.zasc_R; dsimp only
 rw [q_name _ w1, q_name _ w5, q_ops08 _ w2.1, q_ops08 _ w6.1]
 by_cases c1 : x.min < 1
 ·simp [DT.all_br, DT.all_leaf, DT.all_fail, xdec, c1]
 by_cases c2 : x.max < x.min
 ·simp [DT.all_br, DT.all_leaf, DT.all_fail, xdec, c1, c2]
 by_cases c3 : x.max > 4
 ·simp [DT.all_br, DT.all_leaf, DT.all_fail, xdec, c1, c2, c3]
 by_cases c4 : b = true ∧ x.min ≠ x.max
 ·simp [DT.all_br, DT.all_leaf, DT.all_fail, xdec, c1, c2, c3, e_xneI, c4.1, c4.2]
 have ok : stepOk x b := ⟨by omega, by omega, by omega, fun h => by
  by_cases h2 : x.min = x.max
  ·exact h2
  ·exact absurd ⟨h, h2⟩ c4⟩
 simp only [DT.all_br, DT.all_leaf, DT.all_fail, ok, implies_true, and_self, reduceCtorEq, false_implies, Bool.true_eq_false]
theorem q_step09_is (x : Step) (hx : wfStep x) (a b : Bool) : S.zasc_is x.name x.ifs x.min x.max x.guard x.notName x.notIf a b = true := DT.all_is (q_step09 x hx a b)
theorem q_step09_o (x : Step) (hx : wfStep x) (a b : Bool) : (S.zasc_o x.name x.ifs x.min x.max x.guard x.notName x.notIf a b).x0 = true → stepOk x b := DT.all_o (q_step09 x hx a b)
theorem q_made (q : Query) (hw : wfL wfStep q.steps) : (S.zjar_R q.steps q.within q.agg q.aggStep q.aggF).all (fun r => r.x0 = true → Made q) := by
 by_cases c1 : (q.steps.length : Int) < 1
 ·unfold S.zjar_R; dsimp only
  simp [DT.all_br, DT.all_leaf, DT.all_fail, xdec, c1]
 by_cases c2 : (q.steps.length : Int) > 4
 ·unfold S.zjar_R; dsimp only
  simp [DT.all_br, DT.all_leaf, DT.all_fail, xdec, c1, c2]
 have wl : IntKind.i64.wrap ((q.steps.length : Int) - 1) = q.steps.length - 1 := e_wrap (by omega) (by omega)
 obtain ⟨j, v', h1, h2⟩ := Lp_all (R := S.zjar_5_R q.steps.length q.steps) (r := S.zjar_5_r q.steps.length q.steps) (fun v => rfl) (fun v => 0 ≤ v.t4_ ∧ v.t4_ ≤ q.steps.length ∧ ∀ i : Int, 0 ≤ i → i < v.t4_ → stepOk (stp q.steps i) (decide (i = (q.steps.length : Int) - 1))) (fun j v => j = 0 ∨ j = 1 ∧ ∀ i : Int, 0 ≤ i → i < q.steps.length → stepOk (stp q.steps i) (decide (i = (q.steps.length : Int) - 1))) (fun v => ((q.steps.length : Int) - v.t4_).toNat) (fun v hv => by
  obtain ⟨v1, v2, v3⟩ := hv
  by_cases g : v.t4_ < (q.steps.length : Int)
  ·have w : IntKind.i64.wrap (v.t4_ + 1) = v.t4_ + 1 := e_wrap (by omega) (by omega)
   have hm : ((q.steps.length : Int) - (v.t4_ + 1)).toNat < ((q.steps.length : Int) - v.t4_).toNat := by omega
   have hi : v.t4_.toNat < q.steps.length := by omega
   have hx : wfStep (stp q.steps v.t4_) := by
    unfold stp; rw [getD_of _ _ _ hi]; exact hw.2 _ (List.getElem_mem hi)
   have s1 := q_step09_is (stp q.steps v.t4_) hx (decide (v.t4_ = 0)) (decide (v.t4_ = (q.steps.length : Int) - 1))
   have s2 := q_step09_o (stp q.steps v.t4_) hx (decide (v.t4_ = 0)) (decide (v.t4_ = (q.steps.length : Int) - 1))
   have hst : q.steps.getD v.t4_.toNat (dflt ET.step) = stp q.steps v.t4_ := rfl
   unfold S.zjar_5_R; dsimp only
   rw [hst]
   simp only [DT.all_br, DT.all_leaf, DT.all_fail, Stp_none, Stp_some, xdec, xwrap, xnot, e_xeqI, wl, w, g, v1, s1, decide_true, Bool.and_self, true_or, implies_true, and_true, true_and, reduceCtorEq, false_implies, Bool.true_eq_false, forall_const, Bool.not_eq_false']
   intro ho
   refine ⟨⟨by omega, by omega, fun i i0 i1 => ?_⟩, hm⟩
   by_cases g2 : i < v.t4_
   ·exact v3 i i0 g2
   ·have : i = v.t4_ := by omega
    subst this
    exact s2 ho
  ·unfold S.zjar_5_R; dsimp only
   simp only [DT.all_br, DT.all_leaf, DT.all_fail, Stp_none, Stp_some, xdec, g, decide_false, reduceCtorEq, false_implies, true_and, forall_const, Bool.false_eq_true]
   exact .inr (fun i i0 i1 => v3 i i0 (by omega))) ⟨0⟩ ⟨Int.le_refl _, by simp, fun i i0 i1 => by dsimp only at i1; omega⟩
 unfold S.zjar_R; dsimp only
 simp only [DT.all_br, DT.all_leaf, DT.all_fail, S.zjar_5_j, Lp_j_of h1, xdec, decide_eq_true_eq, decide_eq_false_iff_not, reduceCtorEq, false_implies, implies_true, true_and, Bool.false_eq_true]
 intro d1 d2 d3 d4 d5 d6 d7 d8 d9 d10
 rcases h2 with rfl | ⟨rfl, h3⟩
 ·simp
 ·have : Made q := ⟨by omega, by omega, by omega, by omega, by omega, by omega, by omega, by omega, fun i i0 i1 => by
    obtain ⟨k1, k2, k3, k4⟩ := h3 i i0 i1
    exact ⟨k1, k2, k3, fun h => k4 (by simp [h])⟩⟩
  simp [this]
theorem q_made_is (q : Query) (hw : wfL wfStep q.steps) : S.zjar_is q.steps q.within q.agg q.aggStep q.aggF = true := DT.all_is (q_made q hw)
theorem q_made_o (q : Query) (hw : wfL wfStep q.steps) : (S.zjar_o q.steps q.within q.agg q.aggStep q.aggF).x0 = true → Made q := DT.all_o (q_made q hw)
theorem HB_Plain : Plain HB := HB_plain
def badR (q : Query) (r : Run) : Bool := !decide (mayR q r)
theorem q_mMay1 (q : Query) (r : Run) (hl : q.steps.length ≤ 1048576) : S.zpxz r.step r.n r.many q.steps = some ⟨badR q r⟩ := by
 unfold S.zpxz S.zpxz_R badR
 simp only [DT.run_br, DT.run_leaf, DT.run_fail, q_May_is q r hl, q_May_o q r hl, cond_true, xnot]
theorem q_mIdx_lp (q : Query) (l : List (Ty .run)) (hl : q.steps.length ≤ 1048576) (hb : l.length ≤ 1048576) : Lp (S.zzuc_2_r l q.steps l.length) (⟨0⟩ : S.zzuc_2_V) = match l.findIdx? (badR q) with
    | some j => some (0, ⟨j⟩)
    | none => some (1, ⟨l.length⟩) := by
 refine Lp_idx (fun i => (⟨i⟩ : S.zzuc_2_V)) l (badR q) (fun i h => ?_) ?_
 ·have h1 : ((i : Int) < (l.length : Int)) := by omega
  have h2 : (0 : Int) ≤ (i : Int) := by omega
  have k1 : S.zpxz_is l[i].step l[i].n l[i].many q.steps = true := by simp [S.zpxz_is, q_mMay1 q _ hl]
  have k2 : (S.zpxz_o l[i].step l[i].n l[i].many q.steps).x0 = badR q l[i] := by simp [S.zpxz_o, q_mMay1 q _ hl]
  unfold S.zzuc_2_r S.zzuc_2_R
  simp only [DT.run_br, DT.run_leaf, DT.run_fail, xdec, xwrap, h1, h2, decide_true, Bool.and_self, cond_true, Int.toNat_natCast, getD_of l i _ h, k1, k2, e_wrap1 (show i ≤ 1048576 by omega)]
  cases badR q l[i] <;> rfl
 ·unfold S.zzuc_2_r S.zzuc_2_R
  simp [DT.run_br, DT.run_leaf, xdec]
theorem q_mIdx (q : Query) (l : List (Ty .run)) (hl : q.steps.length ≤ 1048576) (hb : l.length ≤ 1048576) : ∃ n, S.zzuc l q.steps = some ⟨n⟩ ∧ (decide (n ≥ 0) = true ↔ ¬ ∀ r ∈ l, mayR q r) := by
 have e := q_mIdx_lp q l hl hb
 cases hf : l.findIdx? (badR q) with
 | none =>
  rw [hf] at e
  refine ⟨-1, ?_, ?_⟩
  ·simp only [S.zzuc, S.zzuc_R, DT.run_br, DT.run_leaf, DT.run_fail, S.zzuc_2_j, S.zzuc_2_v, Lp_j_of e, Lp_v_of e]
   rfl
  ·have := List.findIdx?_eq_none_iff.1 hf
   refine ⟨fun h => by simp at h, fun h => absurd (fun r hr => ?_) h⟩
   have := this r hr
   simpa [badR] using this
 | some j =>
  rw [hf] at e
  refine ⟨j, ?_, ?_⟩
  ·simp only [S.zzuc, S.zzuc_R, DT.run_br, DT.run_leaf, DT.run_fail, S.zzuc_2_j, S.zzuc_2_v, Lp_j_of e, Lp_v_of e]
   rfl
  ·obtain ⟨h1, h2, _⟩ := List.findIdx?_eq_some_iff_getElem.1 hf
   refine ⟨fun _ h => ?_, fun _ => by simp⟩
   have := h _ (List.getElem_mem h1)
   simp [badR, this] at h2
theorem q_mCon (q : Query) (l : List (Ty .run)) (hl : q.steps.length ≤ 1048576) (hb : l.length ≤ 1048576) : S.z3nm l q.steps = some ⟨!decide (∀ r ∈ l, mayR q r)⟩ := by
 obtain ⟨n, h1, h2⟩ := q_mIdx q l hl hb
 unfold S.z3nm S.z3nm_R
 simp only [DT.run_br, DT.run_leaf, DT.run_fail, S.zzuc_is, S.zzuc_o, h1, Option.isSome_some, Option.getD_some, cond_true, xdec]
 congr 2
 rw [Bool.eq_iff_iff, h2]
 simp
theorem q_mMay (s : StoreL) (hl : s.q.steps.length ≤ 1048576) : S.z3ps s.q.steps s.r s.over = some ⟨decide (mayS s)⟩ := by
 unfold S.z3ps S.z3ps_R
 dsimp only
 by_cases c1 : (s.r.length : Int) > 5
 ·have : ¬ mayS s := fun h => by have := h.1; omega
  simp [DT.run_br, DT.run_leaf, xdec, c1, this]
 have hc := q_mCon s.q s.r hl (by omega)
 have k1 : S.z3nm_is s.r s.q.steps = true := by simp [S.z3nm_is, hc]
 have k2 : (S.z3nm_o s.r s.q.steps).x0 = !decide (∀ r ∈ s.r, mayR s.q r) := by simp [S.z3nm_o, hc]
 have c1' : s.r.length ≤ 5 := by omega
 by_cases c2 : ∀ r ∈ s.r, mayR s.q r
 case neg =>
  have : ¬ mayS s := fun h => c2 h.2.1
  simp only [DT.run_br, DT.run_leaf, xdec, c1, k1, k2, c2, this, decide_false, Bool.not_false, cond_true, cond_false]
 simp only [DT.run_br, DT.run_leaf, xdec, c1, k1, k2, decide_eq_true c2, Bool.not_true, e_xeqI, decide_false, cond_true, cond_false]
 by_cases c3 : s.over = -1
 ·have : mayS s := ⟨c1', c2, .inl c3⟩
  simp [c3, this]
 by_cases c4 : s.over ≥ 0
 ·have : mayS s ↔ s.r.length = 0 := ⟨fun h => by rcases h.2.2 with h | h; exact absurd h c3; exact h.2, fun h => ⟨c1', c2, .inr ⟨c4, h⟩⟩⟩
  simp [c3, c4, this]
 ·have : ¬ mayS s := fun h => by rcases h.2.2 with h | h; exact c3 h; exact c4 h.1
  simp [c3, c4, this]
theorem q_mMay_is (s : StoreL) (hl : s.q.steps.length ≤ 1048576) : S.z3ps_is s.q.steps s.r s.over = true := by simp [S.z3ps_is, q_mMay s hl]
theorem q_mMay_o (s : StoreL) (hl : s.q.steps.length ≤ 1048576) : (S.z3ps_o s.q.steps s.r s.over).x0 = decide (mayS s) := by simp [S.z3ps_o, q_mMay s hl]
theorem q_cloneR {a : List (Ty .run)} (hb : a.length ≤ 1048576) : S.zjge a = some ⟨a, a.length⟩ := by
 unfold S.zjge S.zjge_R
 have h2 : (a.length : Int) ≤ 1048576 := by omega
 simp [DT.run_br, DT.run_leaf, xdec, hb]
theorem q_cloneR_is {a : List (Ty .run)} (hb : a.length ≤ 1048576) : S.zjge_is a = true := by unfold S.zjge_is; rw [q_cloneR hb]; rfl
theorem q_cloneR_o {a : List (Ty .run)} (hb : a.length ≤ 1048576) : S.zjge_o a = ⟨a, a.length⟩ := by unfold S.zjge_o; rw [q_cloneR hb]; rfl
def outF (p : StoreL × List Mat) : S.zxf7_T := ⟨p.1.q.steps, p.1.q.within, p.1.q.agg, p.1.q.aggStep, p.1.q.aggF, p.1.r, p.1.over, p.2⟩
def FeedAt (q : Query) (e : Evt) (at' : Int) (l : List Run) (i : Nat) (v : S.zxf7_8_V) : Prop :=
 v.t41_ = i ∧ v.t10_l = (leftOf HB q e (l.take i)).length ∧ v.t10_l ≤ v.h_34.length ∧ v.h_34.take v.t10_l = leftOf HB q e (l.take i) ∧
  v.h18_l = (doneOf HB q e at' (l.take i)).length ∧ v.h18_l ≤ v.h_33.length ∧ v.h_33.take v.h18_l = doneOf HB q e at' (l.take i)
theorem leftOf_snoc (q : Query) (e : Evt) (l : List Run) (i : Nat) (h : i < l.length) : leftOf HB q e (l.take (i + 1)) = leftOf HB q e (l.take i) ++ (if (nextL HB q l[i] e).2 = 0 then [(nextL HB q l[i] e).1] else []) := by
 unfold leftOf
 rw [List.take_succ_eq_append_getElem h, List.filterMap_append]
 congr 1
 by_cases c : (nextL HB q l[i] e).2 = 0
 ·simp [c]
 ·simp [c]
theorem doneOf_snoc (q : Query) (e : Evt) (at' : Int) (l : List Run) (i : Nat) (h : i < l.length) : doneOf HB q e at' (l.take (i + 1)) = doneOf HB q e at' (l.take i) ++ (if (nextL HB q l[i] e).2 = 2 then [doneM at' (nextL HB q l[i] e).1] else []) := by
 unfold doneOf
 rw [List.take_succ_eq_append_getElem h, List.filterMap_append]
 congr 1
 by_cases c : (nextL HB q l[i] e).2 = 2
 ·simp [c]
 ·simp [c]
theorem feed_round (q : Query) (e : Evt) (at' : Int) (l : List (Ty .run)) (hl : q.steps.length ≤ 1048576) (hb : l.length ≤ 1048575) (i : Nat) (hi : i < l.length) (v : S.zxf7_8_V) (hv : FeedAt q e at' l i v) :
    ∃ v', S.zxf7_8_r l.length l.length q.steps q.within q.agg q.aggStep q.aggF e.name e.at_ e.v at' l v = some (none, v') ∧ FeedAt q e at' l (i + 1) v' := by
 obtain ⟨f, k, t, g, m, a, b⟩ := v
 obtain ⟨h1, h2, h3, h4, h5, h6, h7⟩ := hv
 dsimp only at h1 h2 h3 h4 h5 h6 h7
 subst h1
 have n1 := q_Next_is q l[i] e hl
 have n2 := q_Next_o q l[i] e hl
 have z1 : ((i : Int) < (l.length : Int)) := by omega
 have z2 : (0 : Int) ≤ (i : Int) := by omega
 have z3 : l.getD (0 + (i : Int).toNat) (dflt ET.run) = l[i] := by
  have : 0 + (i : Int).toNat = i := by omega
  rw [this, getD_of _ _ _ hi]
 have z4 : (i : Int).toNat < l.length := by omega
 have ll := leftOf_len HB q e (l.take i)
 have ld := doneOf_len HB q e at' (l.take i)
 have lt : (l.take i).length ≤ i := by rw [List.length_take]; omega
 have z5 : k + 1 ≤ 1048576 := by omega
 have z6 : m + 1 ≤ 1048576 := by omega
 have s1 := leftOf_snoc q e l i hi
 have s2 := doneOf_snoc q e at' l i hi
 unfold S.zxf7_8_r S.zxf7_8_R
 dsimp only
 rw [z3, n1, n2]
 simp only [DT.run_br, DT.run_leaf, DT.run_fail, xdec, xwrap, z1, z2, z4, h3, h6, z5, z6, e_wrap1 (show i ≤ 1048576 by omega), decide_true, Bool.and_self, cond_true, List.length_set, List.length_replicate, Nat.zero_add, Nat.le_refl, outN, e_xeqI]
 by_cases c0 : (nextL HB q l[i] e).2 = 0
 ·rw [if_pos c0] at s1
  rw [if_neg (by omega)] at s2
  simp only [c0, decide_true, cond_true]
  refine ⟨_, rfl, ?_⟩
  refine ⟨rfl, ?_, ?_, ?_, ?_, h6, ?_⟩
  ·show k + 1 = _
   rw [s1, h2, List.length_append]; rfl
  ·show k + 1 ≤ (List.take k b ++ _).length
   rw [List.length_append, List.length_take, Nat.min_eq_left h3]; exact Nat.le_refl _
  ·show (List.take k b ++ _).take (k + 1) = _
   rw [s1, ← h4]
   exact List.take_of_length_le (by rw [List.length_append, List.length_take, Nat.min_eq_left h3]; exact Nat.le_refl _)
  ·show m = _; rw [s2, List.append_nil]; exact h5
  ·show a.take m = _; rw [s2, List.append_nil]; exact h7
 rw [if_neg c0, List.append_nil] at s1
 by_cases c2 : (nextL HB q l[i] e).2 = 2
 ·rw [if_pos c2] at s2
  simp only [c2, decide_true, cond_true, cond_false, decide_eq_false (show ¬ (2 : Int) = 0 by decide)]
  refine ⟨_, rfl, ?_⟩
  refine ⟨rfl, ?_, h3, ?_, ?_, ?_, ?_⟩
  ·show k = _; rw [s1]; exact h2
  ·show b.take k = _; rw [s1]; exact h4
  ·show m + 1 = _
   rw [s2, h5, List.length_append]; rfl
  ·show m + 1 ≤ (List.take m a ++ _).length
   rw [List.length_append, List.length_take, Nat.min_eq_left h6]; exact Nat.le_refl _
  ·show (List.take m a ++ _).take (m + 1) = _
   rw [s2, ← h7]
   exact List.take_of_length_le (by rw [List.length_append, List.length_take, Nat.min_eq_left h6]; exact Nat.le_refl _)
 rw [if_neg c2, List.append_nil] at s2
 simp only [c0, c2, decide_false, cond_false]
 refine ⟨_, rfl, ?_⟩
 refine ⟨rfl, ?_, h3, ?_, ?_, h6, ?_⟩
 ·show k = _; rw [s1]; exact h2
 ·show b.take k = _; rw [s1]; exact h4
 ·show m = _; rw [s2]; exact h5
 ·show a.take m = _; rw [s2]; exact h7
theorem feed_loop (q : Query) (e : Evt) (at' : Int) (l : List (Ty .run)) (hl : q.steps.length ≤ 1048576) (hb : l.length ≤ 1048575) (v : S.zxf7_8_V) (hv : FeedAt q e at' l 0 v) :
    ∃ v', Lp (S.zxf7_8_r l.length l.length q.steps q.within q.agg q.aggStep q.aggF e.name e.at_ e.v at' l) v = some (0, v') ∧ FeedAt q e at' l l.length v' := by
 have key : ∀ k i v, i + k = l.length → FeedAt q e at' l i v → ∃ v', Lp (S.zxf7_8_r l.length l.length q.steps q.within q.agg q.aggStep q.aggF e.name e.at_ e.v at' l) v = some (0, v') ∧ FeedAt q e at' l l.length v' := by
  intro k
  induction k with
  | zero =>
   intro i v hi hv
   have : i = l.length := by omega
   subst this
   refine ⟨v, Lp_exit ?_, hv⟩
   have h1 := hv.1
   unfold S.zxf7_8_r S.zxf7_8_R
   dsimp only
   have : ¬ (v.t41_ < (l.length : Int)) := by omega
   simp only [DT.run_br, DT.run_leaf, xdec, this, decide_false, cond_false]
  | succ k ih =>
   intro i v hi hv
   obtain ⟨v1, h1, h2⟩ := feed_round q e at' l hl hb i (by omega) v hv
   obtain ⟨v2, h3, h4⟩ := ih (i + 1) v1 (by omega) h2
   exact ⟨v2, by rw [Lp_cont h1, h3], h4⟩
 exact key l.length 0 v (by omega) hv
theorem sub_take' {α : Type} (l : List α) (n : Nat) : sub l 0 n = l.take n := by simp [sub]
theorem sub_take {α : Type} (l : List α) (n : Nat) : sub l 0 (0 + n) = l.take n := by simp [sub]
theorem q_Feed (s : StoreL) (e : Evt) (at' : Int) (hl : s.q.steps.length ≤ 1048576) (hr : s.r.length ≤ 1048576) :
    S.zxf7 s.q.steps s.q.within s.q.agg s.q.aggStep s.q.aggF s.r s.over e.name e.at_ e.v at' = some (outF (feedL HB s e at')) := by
 have m1 := q_mMay_is s hl
 have m2 := q_mMay_o s hl
 have b1 := q_Begin_is s.q e at' hl
 have b2 := q_Begin_o s.q e at' hl
 have z0 : sub s.r 0 (0 + s.r.length) = s.r := by rw [sub_take, List.take_length]
 unfold S.zxf7 S.zxf7_R
 dsimp only
 rw [q_cloneR_is hr, q_cloneR_o hr]
 dsimp only
 rw [z0, m1, m2, q_cloneR_is hr, q_cloneR_o hr, b1, b2]
 dsimp only
 by_cases c1 : mayS s
 case neg =>
  rw [feedL_over (.inl c1)]
  simp [DT.run_br, DT.run_leaf, xdec, xnot, c1, outF]
 by_cases c2 : s.over = -1
 case neg =>
  rw [feedL_over (.inr c2)]
  simp [DT.run_br, DT.run_leaf, xdec, xnot, c1, c2, outF, e_xneI]
 have hlen := c1.1
 obtain ⟨v', h1, h2, h3, h4, h5, h6, h7, h8⟩ := feed_loop s.q e at' s.r hl (by omega) ⟨decide ((s.r.length : Int) = Int.ofNat 0), 0, 0, true, 0, [], s.r⟩ ⟨rfl, rfl, Nat.zero_le _, rfl, rfl, Nat.le_refl _, rfl⟩
 rw [List.take_length] at h3 h5 h6 h8
 have ll := leftOf_len HB s.q e s.r
 have ld := doneOf_len HB s.q e at' s.r
 have y1 : v'.h18_l + 1 ≤ 1048576 := by omega
 have y2 : v'.t10_l + 1 ≤ 1048576 := by omega
 have j0 : ∀ f8 : Bool, f8 = decide ((s.r.length : Int) = Int.ofNat 0) → S.zxf7_8_j s.r.length s.r.length s.q.steps s.q.within s.q.agg s.q.aggStep s.q.aggF e.name e.at_ e.v at' s.r ⟨f8, 0, 0, true, 0, [], s.r⟩ 0 = true := fun f8 hf => by
  subst hf; unfold S.zxf7_8_j; rw [Lp_j_of h1]; rfl
 have jv : ∀ f8 : Bool, f8 = decide ((s.r.length : Int) = Int.ofNat 0) → S.zxf7_8_v s.r.length s.r.length s.q.steps s.q.within s.q.agg s.q.aggStep s.q.aggF e.name e.at_ e.v at' s.r ⟨f8, 0, 0, true, 0, [], s.r⟩ = v' := fun f8 hf => by
  subst hf; unfold S.zxf7_8_v; rw [Lp_v_of h1]
 rw [j0 _ rfl, jv _ rfl]
 unfold feedL
 rw [if_neg (show ¬ (¬ mayS s ∨ s.over ≠ -1) by intro h; rcases h with h | h; exact h c1; exact h c2)]
 have w1 : ((v'.h_33.take v'.h18_l).length) = v'.h18_l := by rw [List.length_take, Nat.min_eq_left h7]
 have w2 : ((v'.h_34.take v'.t10_l).length) = v'.t10_l := by rw [List.length_take, Nat.min_eq_left h4]
 have w3 : ∀ x : Mat, sub (v'.h_33.take v'.h18_l ++ [x]) 0 (v'.h18_l + 1) = doneOf HB s.q e at' s.r ++ [x] := fun x => by
  rw [sub_take', h8]; exact List.take_of_length_le (by rw [List.length_append, ← h6]; exact Nat.le_refl _)
 have w4 : ∀ x : Run, sub (v'.h_34.take v'.t10_l ++ [x]) 0 (v'.t10_l + 1) = leftOf HB s.q e s.r ++ [x] := fun x => by
  rw [sub_take', h5]; exact List.take_of_length_le (by rw [List.length_append, ← h3]; exact Nat.le_refl _)
 have w5 : sub v'.h_33 0 v'.h18_l = doneOf HB s.q e at' s.r := by rw [sub_take', h8]
 have w6 : sub v'.h_34 0 v'.t10_l = leftOf HB s.q e s.r := by rw [sub_take', h5]
 have lenA : ∀ x : Mat, (v'.h_33.take v'.h18_l ++ [x]).length = v'.h18_l + 1 := fun x => by rw [List.length_append, w1]; rfl
 have lenB : ∀ x : Run, (v'.h_34.take v'.t10_l ++ [x]).length = v'.t10_l + 1 := fun x => by rw [List.length_append, w2]; rfl
 have c3 : (leftOf HB s.q e s.r).length = 5 ↔ ((v'.t10_l : Nat) : Int) = 5 := by omega
 have cm : max at' 0 = if 0 > at' then 0 else at' := by
  by_cases h : 0 > at'
  ·rw [if_pos h]; omega
  ·rw [if_neg h]; omega
 simp only [DT.run_br, DT.run_leaf, DT.run_fail, xdec, xnot, c1, c2, outB, e_xneI, e_xeqI, w3, w4, w5, w6, lenA, lenB, h4, h7, y1, y2, Nat.zero_add, Nat.le_refl, Int.le_refl, List.length_set, List.length_replicate, decide_true, decide_false, Bool.not_true, Bool.and_self, Bool.and_true, ne_eq, not_true, cond_true, cond_false]
 by_cases d1 : (beginL HB s.q e at').2 = 2
 ·rw [if_pos d1]
  simp [d1, outF, doneM]
 rw [if_neg d1]
 by_cases d2 : (beginL HB s.q e at').2 = 0
 ·by_cases d3 : (leftOf HB s.q e s.r).length = 5
  ·rw [if_pos (show (beginL HB s.q e at').2 = 0 ∧ (leftOf HB s.q e s.r).length = 5 from ⟨d2, d3⟩)]
   simp [d2, c3.1 d3, outF, cm]
  ·have d3' : ¬ ((v'.t10_l : Nat) : Int) = 5 := fun h => d3 (c3.2 h)
   rw [if_neg (show ¬ ((beginL HB s.q e at').2 = 0 ∧ (leftOf HB s.q e s.r).length = 5) from fun h => d3 h.2), if_pos d2]
   simp [d2, d3', outF]
 ·rw [if_neg (show ¬ ((beginL HB s.q e at').2 = 0 ∧ (leftOf HB s.q e s.r).length = 5) from fun h => d2 h.1), if_neg d2]
  simp [d1, d2, outF]
theorem q_Feed_is (s : StoreL) (e : Evt) (at' : Int) (hl : s.q.steps.length ≤ 1048576) (hr : s.r.length ≤ 1048576) :
    S.zxf7_is s.q.steps s.q.within s.q.agg s.q.aggStep s.q.aggF s.r s.over e.name e.at_ e.v at' = true := by simp [S.zxf7_is, q_Feed s e at' hl hr]
theorem q_Feed_o (s : StoreL) (e : Evt) (at' : Int) (hl : s.q.steps.length ≤ 1048576) (hr : s.r.length ≤ 1048576) :
    S.zxf7_o s.q.steps s.q.within s.q.agg s.q.aggStep s.q.aggF s.r s.over e.name e.at_ e.v at' = outF (feedL HB s e at') := by simp [S.zxf7_o, q_Feed s e at' hl hr]
theorem q_log (l : List (Ty .evt)) (n : Int) (hn : n ≤ 1000) : (S.zgwp_R l n).all (fun x => x.x0 = true → (l.length : Int) ≤ n) := by
 by_cases hb : (l.length : Int) > n
 ·unfold S.zgwp_R; try dsimp only
  simp [DT.all_br, DT.all_leaf, xdec, hb]
 obtain ⟨j, v', h1, h2⟩ := Lp_all (R := S.zgwp_4_R l) (r := S.zgwp_4_r l) (fun v => rfl) (fun v => 0 ≤ v.t5_ ∧ v.t5_ ≤ l.length) (fun j v => j = 0 ∨ j = 1) (fun v => ((l.length : Int) - v.t5_).toNat) (fun v hv => by
  unfold S.zgwp_4_R; try dsimp only
  simp only [DT.all_br, DT.all_leaf, DT.all_fail, Stp_none, Stp_some, xdec, xwrap, xnot, q_few06_is, decide_eq_true_eq, decide_eq_false_iff_not, Bool.and_eq_true, Bool.and_eq_false_iff, implies_true, or_true, true_or, and_true, true_and, reduceCtorEq, false_implies]
  intro g1
  refine ⟨?_, fun g2 => by omega⟩
  intros
  rw [e_wrap (by omega) (by omega)]
  omega) ⟨0⟩ ⟨Int.le_refl _, by simp⟩
 have k2 : (l.length : Int) ≤ n := by omega
 unfold S.zgwp_R; try dsimp only
 simp only [DT.all_br, DT.all_leaf, DT.all_fail, S.zgwp_4_j, Lp_j_of h1]
 rcases h2 with rfl | rfl <;> simp [k2]
theorem q_log_is (l : List (Ty .evt)) (n : Int) (hn : n ≤ 1000) : S.zgwp_is l n = true := DT.all_is (q_log l n hn)
theorem q_log_o (l : List (Ty .evt)) (n : Int) (hn : n ≤ 1000) : (S.zgwp_o l n).x0 = true → (l.length : Int) ≤ n := DT.all_o (q_log l n hn)
abbrev MM := List (Ty .mat)
def rMay (a s : Int) (m : MM) : Bool := decide (0 ≤ a ∧ (m.length : Int) ≤ 6 ∧ a + m.length ≤ 1099511627776 ∧ a ≤ s ∧ s ≤ a + m.length)
theorem rMay_iff {a s : Int} {m : MM} : rMay a s m = true ↔ 0 ≤ a ∧ (m.length : Int) ≤ 6 ∧ a + m.length ≤ 1099511627776 ∧ a ≤ s ∧ s ≤ a + m.length := by simp [rMay]
theorem wrap_id {n : Int} (h1 : -9223372036854775808 ≤ n) (h2 : n ≤ 9223372036854775807) : IntKind.i64.wrap n = n := by rw [IntKind.wrap_i64]; omega
theorem p_last (a : Int) (m : MM) : S.zb3l a m = some ⟨IntKind.i64.wrap (a + m.length)⟩ := rfl
theorem p_last_o (a : Int) (m : MM) : (S.zb3l_o a m).x0 = IntKind.i64.wrap (a + m.length) := by unfold S.zb3l_o; rw [p_last]; simp
theorem p_May (a s : Int) (m : MM) : S.znj4 a s m = some ⟨rMay a s m⟩ := by
 unfold S.znj4 S.znj4_R
 simp only [DT.run_br, DT.run_leaf, p_last_o, xdec, Bool.cond_eq_ite, decide_eq_true_eq]
 unfold rMay
 by_cases h1 : a ≥ 0
 ·by_cases h2 : a ≤ 1099511627776
  ·by_cases h3 : (m.length : Int) ≤ 6
   ·have e := wrap_id (n := a + m.length) (by omega) (by omega)
    simp only [e, h1, h2, h3, if_true]
    by_cases h4 : a + (m.length : Int) ≤ 1099511627776
    ·by_cases h5 : s ≥ a
     ·simp [h4, h5, h1, h3]
     ·have h5' : ¬ a ≤ s := h5
      simp [h4, h5']
    ·simp [h4]
   ·simp [h1, h2, h3]
  ·have h4 : ¬ a + (m.length : Int) ≤ 1099511627776 := by omega
   simp [h1, h2, h4]
 ·have h1' : ¬ 0 ≤ a := h1
  simp [h1']
theorem p_May_is (a s : Int) (m : MM) : S.znj4_is a s m = true := by simp [S.znj4_is, p_May]
theorem p_May_o (a s : Int) (m : MM) : (S.znj4_o a s m).x0 = rMay a s m := by simp [S.znj4_o, p_May]
def rWhy (a s : Int) (m : MM) (x : Int) : Int := if rMay a s m = true then (if x < a ∨ s < x then 9 else 0) else 1
theorem p_why (a s : Int) (m : MM) (x : Int) : S.zwrc a s m x = some ⟨rWhy a s m x⟩ := by
 unfold S.zwrc S.zwrc_R rWhy
 simp only [DT.run_br, DT.run_leaf, DT.run_fail, p_May_is, p_May_o, xdec, xnot, Bool.cond_eq_ite, decide_eq_true_eq, if_true, Bool.not_eq_true']
 cases rMay a s m with
 | false => simp
 | true =>
  by_cases h1 : x < a
  ·simp [h1]
  ·by_cases h2 : s < x
   ·simp [h1, h2]
   ·simp [h1, h2]
theorem p_why_is (a s : Int) (m : MM) (x : Int) : S.zwrc_is a s m x = true := by simp [S.zwrc_is, p_why]
theorem p_why_o (a s : Int) (m : MM) (x : Int) : (S.zwrc_o a s m x).x0 = rWhy a s m x := by simp [S.zwrc_o, p_why]
theorem sub_self {α : Type} (m : List α) : sub m 0 m.length = m := by simp [sub]
theorem sub_all {α : Type} (m : List α) (n : Nat) (h : m.length ≤ n) : sub m 0 n = m := by simp [sub, List.take_of_length_le h]
theorem p_own {a s : Int} {m : MM} {x : Int} (h0 : 0 ≤ x) (h1 : x ≤ m.length) (h2 : m.length ≤ 1048576) : S.zqly a s m x = some ⟨m.drop x.toNat, a, s, (m.drop x.toNat).length⟩ := by
 unfold S.zqly S.zqly_R
 have e1 : sub m x.toNat (Int.ofNat m.length).toNat = m.drop x.toNat := by
  simp only [sub]
  exact List.take_of_length_le (by simp)
 have e3 : ((List.drop x.toNat m).length : Int) ≤ 1048576 := by simp; omega
 simp only [DT.run_br, DT.run_leaf, DT.run_fail, e1, xdec, xeqI]
 simp [h0, h1, e3, -List.length_drop]
theorem p_own_is {a s : Int} {m : MM} {x : Int} (h0 : 0 ≤ x) (h1 : x ≤ m.length) (h2 : m.length ≤ 1048576) : S.zqly_is a s m x = true := by simp [S.zqly_is, p_own h0 h1 h2]
theorem p_own_o {a s : Int} {m : MM} {x : Int} (h0 : 0 ≤ x) (h1 : x ≤ m.length) (h2 : m.length ≤ 1048576) : S.zqly_o a s m x = ⟨m.drop x.toNat, a, s, (m.drop x.toNat).length⟩ := by simp [S.zqly_o, p_own h0 h1 h2]
theorem rWhy_zero {a s : Int} {m : MM} {x : Int} : rWhy a s m x = 0 ↔ rMay a s m = true ∧ a ≤ x ∧ x ≤ s := by
 unfold rWhy
 by_cases h : rMay a s m = true
 ·by_cases h1 : x < a ∨ s < x
  ·rw [if_pos h, if_pos h1]
   constructor
   ·intro h; cases h
   ·intro h; omega
  ·rw [if_pos h, if_neg h1]
   exact ⟨fun _ => ⟨h, by omega⟩, fun _ => rfl⟩
 ·rw [if_neg h]
  exact ⟨(by intro h; cases h), fun h2 => absurd h2.1 h⟩
theorem p_Ack (a s : Int) (m : MM) (x : Int) : S.zadk a s m x = some (if rWhy a s m x = 0 then ⟨x, s, m.drop (x - a).toNat, 0⟩ else ⟨0, 0, [], rWhy a s m x⟩) := by
 unfold S.zadk S.zadk_R
 simp only [DT.run_br, DT.run_leaf, DT.run_fail, p_why_is, p_why_o, xneI, xwrap, cond_true]
 by_cases h : rWhy a s m x = 0
 ·obtain ⟨h1, h2, h3⟩ := rWhy_zero.1 h
  have := rMay_iff.1 h1
  have e : IntKind.i64.wrap (x - a) = x - a := wrap_id (by omega) (by omega)
  have q0 : 0 ≤ x - a := by omega
  have q1 : x - a ≤ (m.length : Int) := by omega
  have q2 : m.length ≤ 1048576 := by omega
  have e2 : sub (List.drop (x - a).toNat m) 0 (0 + (List.drop (x - a).toNat m).length) = List.drop (x - a).toNat m := sub_all _ _ (by omega)
  simp [h, e, p_own_is (a := a) (s := s) q0 q1 q2, p_own_o (a := a) (s := s) q0 q1 q2, xdec, sub_self, -List.length_drop]
 ·have hn : (rWhy a s m x != 0) = true := by simpa using h
  simp [h, hn]
theorem p_Next {a s : Int} {m : MM} (hl : m.length ≤ 1048576) : S.ztni a s m = some (if rMay a s m = true ∧ s ≠ a + m.length then ⟨a, s + 1, m, s + 1, (m.getD (s - a).toNat (dflt .mat)).start, (m.getD (s - a).toNat (dflt .mat)).fin, (m.getD (s - a).toNat (dflt .mat)).agg, (m.getD (s - a).toNat (dflt .mat)).bad, true⟩ else ⟨a, s, m, 0, 0, 0, 0, false, false⟩) := by
 unfold S.ztni S.ztni_R
 have e0 : sub m 0 (0 + m.length) = m := sub_all _ _ (by omega)
 simp only [DT.run_br, DT.run_leaf, DT.run_fail, p_own_is (a := a) (s := s) (Int.le_refl 0) (Int.natCast_nonneg m.length) hl, p_own_o (a := a) (s := s) (Int.le_refl 0) (Int.natCast_nonneg m.length) hl, cond_true, Int.toNat_zero, List.drop_zero, Nat.zero_add, e0, p_May_is, p_May_o, p_last_o, xnot, xdec, xeqI, xwrap, Nat.le_refl, decide_true]
 rw [sub_self]
 cases hm : rMay a s m with
 | false => simp
 | true =>
  have := rMay_iff.1 hm
  have e1 : IntKind.i64.wrap (a + m.length) = a + m.length := wrap_id (by omega) (by omega)
  have e2 : IntKind.i64.wrap (s + 1) = s + 1 := wrap_id (by omega) (by omega)
  have e3 : IntKind.i64.wrap (s + 1 - a) = s + 1 - a := wrap_id (by omega) (by omega)
  have e4 : IntKind.i64.wrap (s + 1 - a - 1) = s - a := by rw [wrap_id (by omega) (by omega)]; omega
  rw [e1, e2, e3, e4]
  by_cases hs : s = a + m.length
  ·simp [← hs]
  ·have q1 : 0 ≤ s - a := by omega
   have q2 : s - a < (m.length : Int) := by omega
   have q3 : a ≤ s := by omega
   have hb : (s == a + (m.length : Int)) = false := by simpa using hs
   simp [hs, hb, q2, q3]
theorem p_Add {a s : Int} {m : MM} {e1 e2 e3 : Int} {e4 : Bool} (hl : m.length ≤ 1048576) : S.z22l a s m e1 e2 e3 e4 = some (if rMay a s m = true ∧ (m.length : Int) ≠ 6 ∧ a + m.length ≠ 1099511627776 then ⟨a, s, m ++ [(⟨e1, e2, e3, e4⟩ : Mat)], true⟩ else ⟨a, s, m, false⟩) := by
 unfold S.z22l S.z22l_R
 have e0 : sub m 0 m.length = m := sub_all _ _ (by omega)
 simp only [DT.run_br, DT.run_leaf, DT.run_fail, p_own_is (a := a) (s := s) (Int.le_refl 0) (Int.natCast_nonneg m.length) hl, p_own_o (a := a) (s := s) (Int.le_refl 0) (Int.natCast_nonneg m.length) hl, cond_true, Int.toNat_zero, List.drop_zero, Nat.zero_add, e0, p_May_is, p_May_o, p_last_o, xnot, xdec, xeqI, xwrap, Nat.le_refl, decide_true]
 cases hm : rMay a s m with
 | false => simp
 | true =>
  have := rMay_iff.1 hm
  have q1 : IntKind.i64.wrap (a + m.length) = a + m.length := wrap_id (by omega) (by omega)
  rw [q1]
  by_cases h6 : (m.length : Int) = 6
  ·simp [h6]
  ·by_cases h7 : a + (m.length : Int) = 1099511627776
   ·simp [h7]
   ·have q2 : m.length + 1 ≤ 1048576 := by omega
    have q4 : m.length ≤ 1048575 := by omega
    have q3 : sub (m ++ [(⟨e1, e2, e3, e4⟩ : Mat)]) 0 (m.length + 1) = m ++ [(⟨e1, e2, e3, e4⟩ : Mat)] := sub_all _ _ (by simp)
    have b6 : ((m.length : Int) == 6) = false := by simpa using h6
    have b7 : (a + (m.length : Int) == 1099511627776) = false := by simpa using h7
    simp [h6, h7, b6, b7, q4, q3]
theorem rMay_L (a s : Int) (m : MM) : rMay a s m = decide (rMayL a s m) := by
 unfold rMay; rw [decide_eq_decide]; exact Iff.rfl
theorem rWhy_L (a s : Int) (m : MM) (x : Int) : rWhy a s m x = whyL a s m x := by
 unfold rWhy whyL
 by_cases h : rMayL a s m
 ·rw [if_pos (by rw [rMay_L]; simpa using h), if_pos h]
 ·rw [if_neg (by rw [rMay_L]; simpa using h), if_neg h]
theorem q_cloneM {a : List (Ty .mat)} (hb : a.length ≤ 1048576) : S.zamm a = some ⟨a, a.length⟩ := by
 unfold S.zamm S.zamm_R
 have h2 : (a.length : Int) ≤ 1048576 := by omega
 simp [DT.run_br, DT.run_leaf, xdec, hb]
theorem q_cloneM_is {a : List (Ty .mat)} (hb : a.length ≤ 1048576) : S.zamm_is a = true := by unfold S.zamm_is; rw [q_cloneM hb]; rfl
theorem q_cloneM_o {a : List (Ty .mat)} (hb : a.length ≤ 1048576) : S.zamm_o a = ⟨a, a.length⟩ := by unfold S.zamm_o; rw [q_cloneM hb]; rfl
theorem q_uMay (u : SubL) (hl : u.s.q.steps.length ≤ 1048576) : S.zc6y u.id u.sess u.s.q.steps u.s.r u.s.over u.ack u.sent u.m u.fin u.told = some ⟨decide (mayU u)⟩ := by
 unfold S.zc6y S.zc6y_R
 dsimp only
 rw [q_mMay_is u.s hl, q_mMay_o u.s hl, p_May_is, p_May_o, rMay_L]
 simp only [DT.run_br, DT.run_leaf, DT.run_fail, xdec, xnot, e_xeqI, e_xneI, cond_true, xwrap]
 by_cases c1 : u.id < 0
 ·have : ¬ mayU u := fun h => by have := h.1; omega
  simp [c1, this]
 by_cases c2 : u.sess < 0
 ·have : ¬ mayU u := fun h => by have := h.2.1; omega
  simp [c1, c2, this]
 by_cases c3 : mayS u.s
 case neg =>
  have : ¬ mayU u := fun h => c3 h.2.2.1
  simp [c1, c2, c3, this]
 by_cases c4 : rMayL u.ack u.sent u.m
 case neg =>
  have : ¬ mayU u := fun h => c4 h.2.2.2.1
  simp [c1, c2, c3, c4, this]
 have w : IntKind.i64.wrap (u.ack + (u.m.length : Int)) = u.ack + u.m.length := by
  obtain ⟨g1, g2, g3, g4, g5⟩ := c4
  exact e_wrap (by omega) (by omega)
 have key : mayU u ↔ ((u.fin = 0 ∧ u.s.over = -1 ∧ u.told = false) ∨ ((u.fin = 1 ∧ u.s.over ≠ -1 ∨ u.fin = 2) ∧ u.s.r.length = 0 ∧ (u.told = false ∨ u.sent = u.ack + u.m.length))) :=
  ⟨fun h => h.2.2.2.2, fun h => ⟨by omega, by omega, c3, c4, h⟩⟩
 have e0 : ((u.s.r.length : Int) = 0) = (u.s.r.length = 0) := by apply propext; omega
 simp only [c1, c2, c3, c4, w, e0, key, decide_true, decide_false, Bool.not_true, cond_true, cond_false]
 by_cases f0 : u.fin = 0
 ·by_cases o : u.s.over = -1
  ·cases ht : u.told <;> simp [f0, o, ht]
  ·simp [f0, o]
 by_cases f1 : u.fin = 1
 ·by_cases o : u.s.over = -1
  ·simp [f0, f1, o]
  ·by_cases z : u.s.r.length = 0
   ·cases ht : u.told <;> simp [f1, o, z, ht]
   ·have z' : ¬ u.s.r = [] := fun h => z (by rw [h]; rfl)
    simp [f1, o, z, z']
 by_cases f2 : u.fin = 2
 ·by_cases z : u.s.r.length = 0
  ·cases ht : u.told <;> simp [f2, z, ht]
  ·have z' : ¬ u.s.r = [] := fun h => z (by rw [h]; rfl)
   simp [f2, z, z']
 ·simp [f0, f1, f2]
theorem q_uMay_is (u : SubL) (hl : u.s.q.steps.length ≤ 1048576) : S.zc6y_is u.id u.sess u.s.q.steps u.s.r u.s.over u.ack u.sent u.m u.fin u.told = true := by simp [S.zc6y_is, q_uMay u hl]
theorem q_uMay_o (u : SubL) (hl : u.s.q.steps.length ≤ 1048576) : (S.zc6y_o u.id u.sess u.s.q.steps u.s.r u.s.over u.ack u.sent u.m u.fin u.told).x0 = decide (mayU u) := by simp [S.zc6y_o, q_uMay u hl]
structure FitU (u : SubL) : Prop where
 l : u.s.q.steps.length ≤ 1048576
 r : u.s.r.length ≤ 1048576
 m : u.m.length ≤ 1048575
def outFu (u : SubL) : S.zyqf_T := ⟨u.id, u.sess, u.s.q.steps, u.s.q.within, u.s.q.agg, u.s.q.aggStep, u.s.q.aggF, u.s.r, u.s.over, u.ack, u.sent, u.m, u.hold, u.fin, u.told⟩
def outAu (u : SubL) (e : Int) : S.z7df_T := ⟨u.id, u.sess, u.s.q.steps, u.s.q.within, u.s.q.agg, u.s.q.aggStep, u.s.q.aggF, u.s.r, u.s.over, u.ack, u.sent, u.m, u.hold, u.fin, u.told, e⟩
def outVu (p : SubL × NoteL × Bool) : S.zdm7_T := ⟨p.1.id, p.1.sess, p.1.s.q.steps, p.1.s.q.within, p.1.s.q.agg, p.1.s.q.aggStep, p.1.s.q.aggF, p.1.s.r, p.1.s.over, p.1.ack, p.1.sent, p.1.m, p.1.hold, p.1.fin, p.1.told, p.2.1.sub, p.2.1.seq, p.2.1.fin, p.2.1.m.start, p.2.1.m.fin, p.2.1.m.agg, p.2.1.m.bad, p.2.2⟩
def noU : SubL := ⟨0, 0, ⟨⟨[], 0, 0, 0, 0⟩, [], 0⟩, 0, 0, [], false, 0, false⟩
theorem sub_whole {α : Type} (l : List α) : sub l 0 (0 + l.length) = l := by rw [sub_take, List.take_length]
theorem q_uAck (u : SubL) (x : Int) (h : FitU u) : S.z7df u.id u.sess u.s.q.steps u.s.q.within u.s.q.agg u.s.q.aggStep u.s.q.aggF u.s.r u.s.over u.ack u.sent u.m u.hold u.fin u.told x =
    some (if whyL u.ack u.sent u.m x = 0 then outAu (ackL u x) 0 else outAu noU (whyL u.ack u.sent u.m x)) := by
 have hm : u.m.length ≤ 1048576 := by have := h.m; omega
 have ra := p_Ack u.ack u.sent u.m x
 rw [rWhy_L] at ra
 have r1 : S.zadk_is u.ack u.sent u.m x = true := by simp [S.zadk_is, ra]
 have r2 : S.zadk_o u.ack u.sent u.m x = if whyL u.ack u.sent u.m x = 0 then ⟨x, u.sent, u.m.drop (x - u.ack).toNat, 0⟩ else ⟨0, 0, [], whyL u.ack u.sent u.m x⟩ := by simp [S.zadk_o, ra]
 unfold S.z7df S.z7df_R
 dsimp only
 rw [q_cloneR_is h.r, q_cloneR_o h.r, q_cloneM_is hm, r1, r2]
 dsimp only
 rw [sub_whole]
 by_cases c : whyL u.ack u.sent u.m x = 0
 ·rw [if_pos c, if_pos c]
  simp [DT.run_br, DT.run_leaf, xdec, xneI, outAu, ackL]
 ·rw [if_neg c, if_neg c]
  simp [DT.run_br, DT.run_leaf, xdec, e_xneI, outAu, noU, c]
theorem q_uGive (u : SubL) (h : FitU u) : S.zdm7 u.id u.sess u.s.q.steps u.s.q.within u.s.q.agg u.s.q.aggStep u.s.q.aggF u.s.r u.s.over u.ack u.sent u.m u.hold u.fin u.told = some (outVu (giveU u)) := by
 have hm : u.m.length ≤ 1048576 := by have := h.m; omega
 have ra := p_Next (a := u.ack) (s := u.sent) hm
 have r1 : S.ztni_is u.ack u.sent u.m = true := by simp [S.ztni_is, ra]
 have r2 := congrArg (fun o => Option.getD o default) ra
 have r3 : S.ztni_o u.ack u.sent u.m = _ := r2
 rw [rMay_L, Option.getD_some] at r3
 unfold S.zdm7 S.zdm7_R
 dsimp only
 rw [q_cloneR_is h.r, q_cloneR_o h.r, q_cloneM_is hm, q_cloneM_o hm, q_uMay_is u h.l, q_uMay_o u h.l, r1, r3]
 dsimp only
 rw [sub_whole, sub_whole]
 unfold giveU
 by_cases c1 : mayU u
 case neg =>
  rw [if_pos (show ¬ mayU u ∨ u.hold = true from .inl c1)]
  simp [DT.run_br, DT.run_leaf, xdec, xnot, c1, outVu, noNote]
  exact ⟨rfl, rfl, rfl, rfl⟩
 cases c2 : u.hold with
 | true =>
  rw [if_pos (show ¬ mayU u ∨ true = true from .inr rfl)]
  simp [DT.run_br, DT.run_leaf, xdec, xnot, c1, outVu, noNote, c2]
  exact ⟨rfl, rfl, rfl, rfl⟩
 | false =>
 rw [if_neg (show ¬ (¬ mayU u ∨ false = true) by intro hh; rcases hh with hh | hh; exact hh c1; cases hh)]
 have c3 : rMayL u.ack u.sent u.m := c1.2.2.2.1
 by_cases c4 : u.sent = u.ack + u.m.length
 ·rw [if_neg (show ¬ (u.sent ≠ u.ack + u.m.length) from fun hh => hh c4), if_neg (show ¬ (decide (rMayL u.ack u.sent u.m) = true ∧ u.sent ≠ u.ack + u.m.length) from fun hh => hh.2 c4)]
  by_cases c5 : u.fin = 0 ∨ u.told = true
  ·rw [if_pos c5]
   rcases c5 with c5 | c5
   ·simp [DT.run_br, DT.run_leaf, xdec, xnot, e_xeqI, c1, outVu, noNote, c2, c5]
    exact ⟨rfl, rfl, rfl, rfl⟩
   ·by_cases c6 : u.fin = 0
    ·simp [DT.run_br, DT.run_leaf, xdec, xnot, e_xeqI, c1, outVu, noNote, c2, c6]
     exact ⟨rfl, rfl, rfl, rfl⟩
    ·simp [DT.run_br, DT.run_leaf, xdec, xnot, e_xeqI, c1, outVu, noNote, c2, c5, c6]
     exact ⟨rfl, rfl, rfl, rfl⟩
  ·rw [if_neg c5]
   have c6 : ¬ u.fin = 0 := fun hh => c5 (.inl hh)
   have c7 : u.told = false := by cases ht : u.told; rfl; exact absurd (.inr ht) c5
   simp [DT.run_br, DT.run_leaf, xdec, xnot, e_xeqI, c1, outVu, c2, c6, c7]
   exact ⟨rfl, rfl, rfl, rfl⟩
 ·rw [if_pos (show u.sent ≠ u.ack + u.m.length from c4), if_pos (show decide (rMayL u.ack u.sent u.m) = true ∧ u.sent ≠ u.ack + u.m.length from ⟨decide_eq_true c3, c4⟩)]
  simp only [DT.run_br, DT.run_leaf, xdec, xnot, c1, decide_true, Bool.not_true, cond_true, cond_false, Nat.zero_add, Nat.le_refl, Bool.and_self, outVu]
  rfl
theorem rMayL_put {a s : Int} {m : List Mat} (h : rMayL a s m ∧ m.length ≠ 6 ∧ a + m.length ≠ 1099511627776) (x : Mat) : rMayL a s (m ++ [x]) := by
 obtain ⟨⟨g1, g2, g3, g4, g5⟩, h1, h2⟩ := h
 refine ⟨g1, ?_, ?_, g4, ?_⟩ <;> simp only [List.length_append, List.length_cons, List.length_nil] <;> omega
theorem ufeed_loop (l : List (Ty .mat)) (hb : l.length ≤ 1000) (a s : Int) : ∀ (k i : Nat) (m : List Mat), i + k = l.length → rMayL a s m → ∃ v', Lp (S.zyqf_8_r l l.length) (⟨i, a, s, m⟩ : S.zyqf_8_V) = some (if (putM a s m (l.drop i)).1 = true then 2 else 1, v') ∧
    v'.h_24_9 = a ∧ v'.h_24_10 = s ∧ v'.h_24_11 = (putM a s m (l.drop i)).2
 | 0, i, m, hi, hr => by
  have e : l.drop i = [] := List.drop_eq_nil_of_le (by omega)
  refine ⟨(⟨i, a, s, m⟩ : S.zyqf_8_V), (Lp_exit (j := 2) (v' := (⟨i, a, s, m⟩ : S.zyqf_8_V)) ?_).trans ?_, rfl, rfl, ?_⟩
  ·unfold S.zyqf_8_r S.zyqf_8_R
   have : ¬ ((i : Int) < (l.length : Int)) := by omega
   simp only [DT.run_br, DT.run_leaf, xdec, this, decide_false, cond_false]
  ·rw [e]; rfl
  ·rw [e]; rfl
 | k + 1, i, m, hi, hr => by
  have hi' : i < l.length := by omega
  have z1 : ((i : Int) < (l.length : Int)) := by omega
  have z2 : (0 : Int) ≤ (i : Int) := by omega
  obtain ⟨g1, g2, g3, g4, g5⟩ := hr
  have hm : m.length ≤ 1048576 := by omega
  have ra := p_Add (a := a) (s := s) (m := m) (e1 := l[i].start) (e2 := l[i].fin) (e3 := l[i].agg) (e4 := l[i].bad) hm
  rw [rMay_L] at ra
  have r1 : S.z22l_is a s m l[i].start l[i].fin l[i].agg l[i].bad = true := by simp [S.z22l_is, ra]
  have r2 : S.z22l_o a s m l[i].start l[i].fin l[i].agg l[i].bad = _ := congrArg (fun o => Option.getD o default) ra
  rw [Option.getD_some] at r2
  have w : IntKind.i64.wrap (s - a) = s - a := e_wrap (by omega) (by omega)
  have hround : S.zyqf_8_r l l.length (⟨i, a, s, m⟩ : S.zyqf_8_V) = if rMayL a s m ∧ m.length ≠ 6 ∧ a + m.length ≠ 1099511627776 then some (none, ⟨((i + 1 : Nat) : Int), a, s, m ++ [l[i]]⟩) else some (some 1, ⟨i, a, s, m⟩) := by
   unfold S.zyqf_8_r S.zyqf_8_R
   dsimp only
   rw [Int.toNat_natCast, getD_of l i _ hi', r1, r2]
   by_cases c : rMayL a s m ∧ m.length ≠ 6 ∧ a + m.length ≠ 1099511627776
   ·rw [if_pos c, if_pos ⟨decide_eq_true c.1, by have := c.2.1; omega, c.2.2⟩]
    simp only [DT.run_br, DT.run_leaf, DT.run_fail, xdec, xnot, xwrap, z1, z2, decide_true, Bool.not_true, Bool.and_self, cond_true, cond_false, e_wrap1 (show i ≤ 1048576 by omega)]
   ·rw [if_neg c, if_neg (fun hh => c ⟨of_decide_eq_true hh.1, by have := hh.2.1; omega, hh.2.2⟩)]
    have z3 : (0 : Int) ≤ s - a := by omega
    have z4 : s - a ≤ Int.ofNat m.length := by show _ ≤ ((m.length : Nat) : Int); omega
    simp only [DT.run_br, DT.run_leaf, DT.run_fail, xdec, xnot, xwrap, w, z1, z2, z3, z4, decide_true, Bool.not_false, Bool.and_self, cond_true, cond_false]
  have ed : l.drop i = l[i] :: l.drop (i + 1) := List.drop_eq_getElem_cons hi'
  by_cases c : rMayL a s m ∧ m.length ≠ 6 ∧ a + m.length ≠ 1099511627776
  ·rw [if_pos c] at hround
   obtain ⟨v', k1, k2, k3, k4⟩ := ufeed_loop l hb a s k (i + 1) (m ++ [l[i]]) (by omega) (rMayL_put c _)
   have ep : putM a s m (l.drop i) = putM a s (m ++ [l[i]]) (l.drop (i + 1)) := by
    rw [ed]; show (if _ then _ else _) = _; rw [if_pos c]
   rw [ep]
   exact ⟨v', by rw [Lp_cont hround, k1], k2, k3, k4⟩
  ·rw [if_neg c] at hround
   have ep : putM a s m (l.drop i) = (false, m) := by
    rw [ed]; show (if _ then _ else _) = _; rw [if_neg c]
   rw [ep]
   exact ⟨_, Lp_exit hround, rfl, rfl, rfl⟩
theorem q_uFeed (u : SubL) (e : Evt) (at' : Int) (h : FitU u) : S.zyqf u.id u.sess u.s.q.steps u.s.q.within u.s.q.agg u.s.q.aggStep u.s.q.aggF u.s.r u.s.over u.ack u.sent u.m u.hold u.fin u.told e.name e.at_ e.v at' = some (outFu (feedU HB u e at')) := by
 have hm : u.m.length ≤ 1048576 := by have := h.m; omega
 have f1 := q_Feed_is u.s e at' h.l h.r
 have f2 := q_Feed_o u.s e at' h.l h.r
 unfold S.zyqf S.zyqf_R
 dsimp only
 rw [q_cloneR_is h.r, q_cloneR_o h.r, q_cloneM_is hm, q_cloneM_o hm, q_uMay_is u h.l, q_uMay_o u h.l, f1, f2]
 dsimp only [outF]
 rw [sub_whole, sub_whole]
 unfold feedU
 by_cases c1 : mayU u
 case neg =>
  rw [if_pos (show ¬ mayU u ∨ u.fin ≠ 0 from .inl c1)]
  simp [DT.run_br, DT.run_leaf, xdec, xnot, c1, outFu]
 by_cases c2 : u.fin = 0
 case neg =>
  rw [if_pos (show ¬ mayU u ∨ u.fin ≠ 0 from .inr c2)]
  simp [DT.run_br, DT.run_leaf, xdec, xnot, e_xneI, c1, c2, outFu]
 rw [if_neg (show ¬ (¬ mayU u ∨ u.fin ≠ 0) by intro hh; rcases hh with hh | hh; exact hh c1; exact hh c2)]
 have c3 : rMayL u.ack u.sent u.m := c1.2.2.2.1
 have l6 := feedL_len HB u.s e at'
 obtain ⟨v', k1, k2, k3, k4⟩ := ufeed_loop (feedL HB u.s e at').2 (by omega) u.ack u.sent (feedL HB u.s e at').2.length 0 u.m (by omega) c3
 rw [List.drop_zero] at k1 k4
 have w : IntKind.i64.wrap (u.sent - u.ack) = u.sent - u.ack := by
  obtain ⟨g1, g2, g3, g4, g5⟩ := c3
  exact e_wrap (by omega) (by omega)
 have kv : S.zyqf_8_v (feedL HB u.s e at').2 (feedL HB u.s e at').2.length (⟨0, u.ack, u.sent, u.m⟩ : S.zyqf_8_V) = v' := Lp_v_of k1
 have kj : ∀ j, S.zyqf_8_j (feedL HB u.s e at').2 (feedL HB u.s e at').2.length (⟨0, u.ack, u.sent, u.m⟩ : S.zyqf_8_V) j = ((if (putM u.ack u.sent u.m (feedL HB u.s e at').2).1 = true then 2 else 1) == j) := fun j => Lp_j_of k1 j
 rw [kv, kj, kj, kj, k2, k3, k4]
 cases hp : (putM u.ack u.sent u.m (feedL HB u.s e at').2).1 with
 | false =>
  rw [if_pos (show (false : Bool) = false from rfl)]
  simp [DT.run_br, DT.run_leaf, xdec, xnot, e_xneI, c1, c2, outFu, w, sub_take']
 | true =>
  rw [if_neg (show ¬ ((true : Bool) = false) by decide)]
  by_cases o : (feedL HB u.s e at').1.over = -1
  ·simp [DT.run_br, DT.run_leaf, xdec, xnot, e_xneI, c1, c2, outFu, o]
  ·simp [DT.run_br, DT.run_leaf, xdec, xnot, e_xneI, c1, c2, outFu, o]
def qOne : Query := ⟨[stA], 0, 0, 0, 0⟩
theorem q_One9 : S.zo54 = some ⟨[stA], 0, 0, 0, 0⟩ := by
 unfold S.zo54 S.zo54_R
 simp [DT.run_br, DT.run_leaf, xdec, sub]
 rfl
theorem q_One9_is : S.zo54_is = true := by simp [S.zo54_is, q_One9]
theorem q_One9_o : S.zo54_o = ⟨[stA], 0, 0, 0, 0⟩ := by unfold S.zo54_o; rw [q_One9]; rfl
def eA : Evt := ⟨bA, 0, []⟩
theorem begin_one (at' : Int) : beginL HB qOne eA at' = (⟨at', 0, 0, 1, 1, 1, false⟩, 2) := by
 have e : stp qOne.steps 0 = stA := rfl
 have h1 : w64 (0 + 1) = 1 := by decide
 have ht : takesL HB stA eA = true := by show HB bA [] _ = true; rw [HB_Plain bA]; rfl
 unfold beginL
 rw [if_neg (by simp [qOne]), e, ht, if_neg (by decide)]
 have : toldL qOne ⟨at', eA.at_, 0, 1, 0, 0, false⟩ eA.v = ⟨at', 0, 0, 1, 1, 1, false⟩ := by
  unfold toldL
  rw [if_neg (by simp [qOne]), if_pos (show qOne.agg = 0 from rfl)]
  show Run.mk at' 0 0 1 (w64 (0 + 1)) (w64 (0 + 1)) false = _
  rw [h1]
 dsimp only
 rw [this]
 rfl
def sOne : StoreL := ⟨qOne, [], -1⟩
theorem may_one : mayS sOne := ⟨by decide, fun r hr => (by cases hr), .inl rfl⟩
theorem feed_one (at' : Int) : feedL HB sOne eA at' = (sOne, [⟨at', at', 1, false⟩]) := by
 have hb := begin_one at'
 unfold feedL
 rw [if_neg (show ¬ (¬ mayS sOne ∨ sOne.over ≠ -1) by intro h; rcases h with h | h; exact h may_one; exact h rfl), if_pos (by show (beginL HB qOne eA at').2 = 2; rw [hb])]
 show (StoreL.mk qOne (leftOf HB qOne eA []) (-1), doneOf HB qOne eA at' [] ++ [doneM at' (beginL HB qOne eA at').1]) = _
 rw [hb]; rfl
def ms : Nat → List Mat
 | 0 => []
 | i + 1 => ms i ++ [⟨i, i, 1, false⟩]
theorem ms_len : ∀ i, (ms i).length = i
 | 0 => rfl
 | i + 1 => by rw [ms, List.length_append, ms_len i]; rfl
def uAt (i : Nat) : SubL := ⟨3, 1, sOne, 0, 0, ms i, false, 0, false⟩
theorem may_uAt {i : Nat} (h : i ≤ 6) : mayU (uAt i) := by
 refine ⟨by show (0 : Int) ≤ 3; decide, by show (0 : Int) ≤ 1; decide, may_one, ⟨Int.le_refl 0, ?_, ?_, Int.le_refl 0, ?_⟩, .inl ⟨rfl, rfl, rfl⟩⟩
 ·show ((ms i).length : Int) ≤ 6; rw [ms_len]; omega
 ·show (0 : Int) + ((ms i).length : Int) ≤ _; rw [ms_len]; omega
 ·show (0 : Int) ≤ 0 + ((ms i).length : Int); rw [ms_len]; omega
theorem feed_uAt {i : Nat} (h : i < 6) : feedU HB (uAt i) eA i = uAt (i + 1) := by
 have hf := feed_one (i : Int)
 have hp : putM 0 0 (ms i) [⟨(i : Int), i, 1, false⟩] = (true, ms (i + 1)) := by
  rw [putM_room [⟨(i : Int), i, 1, false⟩] (ms i) (show rMayL 0 0 (ms i) from (may_uAt (i := i) (by omega)).2.2.2.1) (by rw [ms_len]; simp only [List.length_cons, List.length_nil]; omega) (by rw [ms_len]; simp only [List.length_cons, List.length_nil]; omega)]
  rfl
 unfold feedU
 rw [if_neg (show ¬ (¬ mayU (uAt i) ∨ (uAt i).fin ≠ 0) by intro hh; rcases hh with hh | hh; exact hh (may_uAt (by omega)); exact hh rfl)]
 show (if (putM 0 0 (ms i) (feedL HB sOne eA i).2).1 = false then _ else SubL.mk 3 1 (feedL HB sOne eA i).1 0 0 (putM 0 0 (ms i) (feedL HB sOne eA i).2).2 false (if (feedL HB sOne eA i).1.over ≠ -1 then 1 else 0) false) = _
 rw [hf]
 dsimp only
 rw [hp, if_neg (by simp), if_neg (show ¬ (sOne.over ≠ -1) from fun h => h rfl)]
 rfl
def uOut : SubL := ⟨3, 1, ⟨qOne, [], -1⟩, 0, 0, [], false, 2, false⟩
theorem feed_u6 : feedU HB (uAt 6) eA 6 = uOut := by
 have hf := feed_one 6
 have hc := feedU_evicts (H := HB) (may_uAt (i := 6) (by omega)) rfl eA 6
 unfold feedU
 rw [if_neg (show ¬ (¬ mayU (uAt 6) ∨ (uAt 6).fin ≠ 0) by intro hh; rcases hh with hh | hh; exact hh (may_uAt (by omega)); exact hh rfl)]
 show (if (putM 0 0 (ms 6) (feedL HB sOne eA 6).2).1 = false then SubL.mk 3 1 ⟨(feedL HB sOne eA 6).1.q, [], (feedL HB sOne eA 6).1.over⟩ 0 0 ((putM 0 0 (ms 6) (feedL HB sOne eA 6).2).2.take 0) false 2 false else _) = _
 rw [hf]
 dsimp only
 have hp : (putM 0 0 (ms 6) [(⟨6, 6, 1, false⟩ : Mat)]).1 = false := by
  unfold putM
  rw [if_neg (fun hh => hh.2.1 (ms_len 6))]
 rw [if_pos hp, List.take_zero]
 rfl
theorem may_uOut (b : Bool) : mayU { uOut with told := b } := ⟨by show (0 : Int) ≤ 3; decide, by show (0 : Int) ≤ 1; decide, may_one, ⟨Int.le_refl 0, by show (0 : Int) ≤ 6; decide, by show (0 : Int) + 0 ≤ _; decide, Int.le_refl 0, by show (0 : Int) ≤ 0 + 0; decide⟩, .inr ⟨.inr rfl, rfl, .inr rfl⟩⟩
theorem give_uOut : giveU uOut = ({ uOut with told := true }, ⟨3, 0, 2, default⟩, true) := by
 rw [giveU_last (u := uOut) (may_uOut false) rfl rfl]
 rw [if_neg (by intro h; rcases h with h | h; exact absurd h (by decide); cases h)]
 rfl
theorem give_u6 : (giveU (uAt 6)).2.2 = true ∧ (giveU (uAt 6)).2.1.seq = 1 := by
 rw [giveU_next (may_uAt (i := 6) (by omega)) rfl (by decide)]
 exact ⟨rfl, rfl⟩
theorem fit_uAt {i : Nat} (h : i ≤ 6) : FitU (uAt i) := ⟨by show qOne.steps.length ≤ 1048576; decide, by show (0 : Nat) ≤ 1048576; decide, by show (ms i).length ≤ _; rw [ms_len]; omega⟩
theorem fit_uOut : FitU uOut := ⟨by decide, by decide, by decide⟩
def VAt (i : Nat) : S.zyn3_3_V := ⟨i, 3, 1, [stA], 0, 0, 0, 0, [], -1, 0, 0, ms i, false, 0, false⟩
theorem awake15_loop : Lp (S.zyn3_3_r) (VAt 0) = some (0, VAt 6) := by
 refine Lp_walk VAt 6 0 (fun i hi => ?_) ?_
 ·have hf := q_uFeed (uAt i) eA i (fit_uAt (by omega))
  rw [feed_uAt hi] at hf
  have f1 : S.zyqf_is 3 1 [stA] 0 0 0 0 [] (-1) 0 0 (ms i) false 0 false bA 0 [] i = true := by
   unfold S.zyqf_is; exact congrArg Option.isSome hf
  have f2 : S.zyqf_o 3 1 [stA] 0 0 0 0 [] (-1) 0 0 (ms i) false 0 false bA 0 [] i = outFu (uAt (i + 1)) := by
   unfold S.zyqf_o; exact congrArg (fun o => Option.getD o default) hf
  have z : (i : Int) < 6 := by omega
  unfold S.zyn3_3_r S.zyn3_3_R VAt
  dsimp only
  rw [f1, f2]
  simp only [DT.run_br, DT.run_leaf, xdec, xwrap, z, decide_true, cond_true, e_wrap1 (show i ≤ 1048576 by omega)]
  rfl
 ·unfold S.zyn3_3_r S.zyn3_3_R; simp [DT.run_br, DT.run_leaf, xdec, VAt]
theorem q_awake15 : S.zyn3 = some ⟨true⟩ := by
 have hf := q_uFeed (uAt 6) eA 6 (fit_uAt (by omega))
 rw [feed_u6] at hf
 have f1 : S.zyqf_is 3 1 [stA] 0 0 0 0 [] (-1) 0 0 (ms 6) false 0 false bA 0 [] 6 = true := by
  unfold S.zyqf_is; exact congrArg Option.isSome hf
 have f2 : S.zyqf_o 3 1 [stA] 0 0 0 0 [] (-1) 0 0 (ms 6) false 0 false bA 0 [] 6 = outFu uOut := by
  unfold S.zyqf_o; exact congrArg (fun o => Option.getD o default) hf
 have hg := q_uGive uOut fit_uOut
 rw [give_uOut] at hg
 have g1 : S.zdm7_is 3 1 [stA] 0 0 0 0 [] (-1) 0 0 [] false 2 false = true := by
  unfold S.zdm7_is; exact congrArg Option.isSome hg
 have g2 : S.zdm7_o 3 1 [stA] 0 0 0 0 [] (-1) 0 0 [] false 2 false = outVu ({ uOut with told := true }, ⟨3, 0, 2, default⟩, true) := by
  unfold S.zdm7_o; exact congrArg (fun o => Option.getD o default) hg
 have hh := q_uGive (uAt 6) (fit_uAt (by omega))
 have h1 : S.zdm7_is 3 1 [stA] 0 0 0 0 [] (-1) 0 0 (ms 6) false 0 false = true := by
  unfold S.zdm7_is; exact congrArg Option.isSome hh
 have h2 : S.zdm7_o 3 1 [stA] 0 0 0 0 [] (-1) 0 0 (ms 6) false 0 false = outVu (giveU (uAt 6)) := by
  unfold S.zdm7_o; exact congrArg (fun o => Option.getD o default) hh
 have m1 := q_uMay_is { uOut with told := true } fit_uOut.l
 have m2 := q_uMay_o { uOut with told := true } fit_uOut.l
 rw [decide_eq_true (may_uOut true)] at m2
 have e1 : S.zyn3_3_j (VAt 0) 0 = true := by unfold S.zyn3_3_j; rw [Lp_j_of awake15_loop]; rfl
 have e2 : S.zyn3_3_v (VAt 0) = VAt 6 := by unfold S.zyn3_3_v; rw [Lp_v_of awake15_loop]
 have eN : S.z3am_o 3 1 [stA] 0 0 0 0 = ⟨3, 1, [stA], 0, 0, 0, 0, [], -1, 0, 0, [], false, 0, false⟩ := rfl
 unfold S.zyn3 S.zyn3_R
 dsimp only
 rw [q_One9_is, q_One9_o]
 dsimp only
 rw [eN]
 dsimp only
 have e0 : (⟨0, 3, 1, [stA], 0, 0, 0, 0, [], -1, 0, 0, [], false, 0, false⟩ : S.zyn3_3_V) = VAt 0 := rfl
 rw [e0, e1, e2]
 dsimp only [VAt]
 rw [f1, f2]
 dsimp only [outFu, uOut, qOne]
 rw [g1, g2, h1, h2]
 dsimp only [outVu, uOut, qOne] at m1 m2 ⊢
 rw [m1, m2, give_u6.1, give_u6.2, ms_len]
 have sm : S.zihi 3 1 [stA] 0 0 0 0 [] (-1) 0 0 (ms 6) false 0 false 3 1 [stA] 0 0 0 0 [] (-1) 0 0 [] false 2 false = some ⟨false⟩ := by
  unfold S.zihi S.zihi_R
  simp [DT.run_br, DT.run_leaf, e_xeqI]
 have s1 : S.zihi_is 3 1 [stA] 0 0 0 0 [] (-1) 0 0 (ms 6) false 0 false 3 1 [stA] 0 0 0 0 [] (-1) 0 0 [] false 2 false = true := by
  unfold S.zihi_is; exact congrArg Option.isSome sm
 have s2 : (S.zihi_o 3 1 [stA] 0 0 0 0 [] (-1) 0 0 (ms 6) false 0 false 3 1 [stA] 0 0 0 0 [] (-1) 0 0 [] false 2 false).x0 = false := by
  unfold S.zihi_o; exact congrArg (fun o : Option S.zihi_T => (Option.getD o default).x0) sm
 rw [s1, s2]
 rfl
theorem q_awake15_is : S.zyn3_is = true := by simp [S.zyn3_is, q_awake15]
def preL (H : HH) (q : Query) : List Evt → Run → Int → List Run
 | [], _, _ => []
 | e :: es, r, f => if f = 0 then r :: preL H q es (nextL H q r e).1 (nextL H q r e).2 else []
theorem preL_stop {H : HH} {q : Query} (f : Int) (hf : f ≠ 0) (es : List Evt) (r : Run) : preL H q es r f = [] := by
 cases es with
 | nil => rfl
 | cons e es => simp [preL, hf]
theorem steps_pre (H : HH) (q : Query) : ∀ (es : List Evt) (r : Run) (f : Int), (stepsL H q es r f).1 = preL H q es r f ++ (if (stepsL H q es r f).2.2 = 0 then [(stepsL H q es r f).2.1] else [])
 | [], r, f => by by_cases h : f = 0 <;> simp [stepsL, preL, h]
 | e :: es, r, f => by
  by_cases h : f = 0
  ·subst h
   simp only [stepsL, preL, if_true, List.cons_append]
   rw [← steps_pre H q es]
  ·rw [stepsL_stop f h, preL_stop f h]; simp [h]
theorem preL_len (H : HH) (q : Query) : ∀ (es : List Evt) (r : Run) (f : Int), (preL H q es r f).length ≤ es.length
 | [], r, f => by simp [preL]
 | e :: es, r, f => by
  have := preL_len H q es (nextL H q r e).1 (nextL H q r e).2
  simp only [preL]
  split
  ·simp only [List.length_cons]; omega
  ·simp
structure FromAt (acc : List Run) (r : Run) (f : Int) (k : Nat) (v : S.zu6e_4_V) : Prop where
 ff : v.t9_ = f
 ix : v.t27_ = k
 ln : v.h2_l = acc.length
 a0 : v.h13_ = r.first
 a1 : v.h_13_1 = r.at_
 a2 : v.h_13_2 = r.step
 a3 : v.h_13_3 = r.n
 a4 : v.h_13_4 = r.many
 a5 : v.h_13_5 = r.agg
 a6 : v.h_13_6 = r.bad
 ac : v.h_22 = acc
theorem from_loop (q : Query) (hl : q.steps.length ≤ 1048576) (es : List (Ty .evt)) (hb : es.length ≤ 1000) : ∀ (n k : Nat) (acc : List Run) (r : Run) (f : Int) (v : S.zu6e_4_V), k + n = es.length → acc.length ≤ k → FromAt acc r f k v →
    ∃ j v' k', Lp (S.zu6e_4_r es es.length q.steps q.within q.agg q.aggStep q.aggF) v = some (j, v') ∧ (j = 0 ∨ j = 1) ∧ FromAt (acc ++ preL HB q (es.drop k) r f) (stepsL HB q (es.drop k) r f).2.1 (stepsL HB q (es.drop k) r f).2.2 k' v'
 | 0, k, acc, r, f, v, hk, ha, hv => by
  have hd : es.drop k = [] := List.drop_eq_nil_of_le (by omega)
  refine ⟨1, v, k, Lp_exit ?_, .inr rfl, ?_⟩
  ·have z : ¬ ((k : Int) < (es.length : Int)) := by omega
   unfold S.zu6e_4_r S.zu6e_4_R
   dsimp only
   rw [hv.ix]
   simp only [DT.run_br, DT.run_leaf, xdec, z, decide_false, cond_false]
  ·rw [hd]; simp only [preL, stepsL, List.append_nil]; exact hv
 | n + 1, k, acc, r, f, v, hk, ha, hv => by
  have hk' : k < es.length := by omega
  have z1 : ((k : Int) < (es.length : Int)) := by omega
  have z2 : (0 : Int) ≤ (k : Int) := by omega
  have hd : es.drop k = es[k] :: es.drop (k + 1) := List.drop_eq_getElem_cons hk'
  by_cases h : f = 0
  ·subst h
   have g1 := q_Next_is q r es[k] hl
   have g2 := q_Next_o q r es[k] hl
   have hround : ∃ v1, S.zu6e_4_r es es.length q.steps q.within q.agg q.aggStep q.aggF v = some (none, v1) ∧ FromAt (acc ++ [r]) (nextL HB q r es[k]).1 (nextL HB q r es[k]).2 (k + 1) v1 := by
    refine ⟨⟨(nextL HB q r es[k]).2, ((k + 1 : Nat) : Int), false, acc.length + 1, (nextL HB q r es[k]).1.first, (nextL HB q r es[k]).1.at_, (nextL HB q r es[k]).1.step, (nextL HB q r es[k]).1.n, (nextL HB q r es[k]).1.many, (nextL HB q r es[k]).1.agg, (nextL HB q r es[k]).1.bad, acc ++ [r]⟩, ?_, ⟨rfl, rfl, by simp, rfl, rfl, rfl, rfl, rfl, rfl, rfl, rfl⟩⟩
    unfold S.zu6e_4_r S.zu6e_4_R
    dsimp only
    rw [hv.ix, hv.ff, hv.ln, hv.a0, hv.a1, hv.a2, hv.a3, hv.a4, hv.a5, hv.a6, hv.ac]
    rw [Int.toNat_natCast, getD_of es k _ hk', g1, g2]
    have y3 : acc.length + 1 ≤ 1048576 := by omega
    simp only [DT.run_br, DT.run_leaf, DT.run_fail, xdec, xwrap, e_xneI, z1, z2, decide_true, cond_true, Bool.and_self, ne_eq, not_true, decide_false, cond_false, List.replicate, List.set, List.length_cons, List.length_nil, Nat.le_refl, y3, List.take_length, e_wrap1 (show k ≤ 1048576 by omega)]
    rfl
   obtain ⟨v1, r1, r2⟩ := hround
   obtain ⟨j, v', k', e1, e2, e3⟩ := from_loop q hl es hb n (k + 1) (acc ++ [r]) _ _ v1 (by omega) (by simp; omega) r2
   refine ⟨j, v', k', by rw [Lp_cont r1]; exact e1, e2, ?_⟩
   rw [hd]
   simp only [preL, stepsL, if_true]
   rw [List.append_assoc] at e3
   exact e3
  ·refine ⟨0, v, k, Lp_exit ?_, .inl rfl, ?_⟩
   ·unfold S.zu6e_4_r S.zu6e_4_R
    dsimp only
    rw [hv.ix, hv.ff]
    simp only [DT.run_br, DT.run_leaf, xdec, z1, z2, e_xneI, ne_eq, h, not_false_eq_true, decide_true, cond_true, Bool.and_self]
   ·rw [preL_stop f h, stepsL_stop f h, List.append_nil]; exact hv
theorem sub_drop {α : Type} (l : List α) (i : Nat) : sub l i l.length = l.drop i := by
 unfold sub
 exact List.take_of_length_le (by simp)
def outFr (p : List Run × Run × Int) (b : Bool) : S.zu6e_T := ⟨p.1, b, p.1.length, p.2.1.first, p.2.1.at_, p.2.1.step, p.2.1.n, p.2.1.many, p.2.1.agg, p.2.1.bad, decide (p.2.2 = 2)⟩
theorem q_from (q : Query) (l : List (Ty .evt)) (i : Nat) (hl : q.steps.length ≤ 1048576) (hb : l.length ≤ 1000) (hi : i < l.length) : ∃ b, S.zu6e q.steps q.within q.agg q.aggStep q.aggF l i = some (outFr (fromL HB q l i) b) := by
 have z1 : ((i : Int) < (l.length : Int)) := by omega
 have z2 : (0 : Int) ≤ (i : Int) := by omega
 have w := e_wrap1 (n := i) (by omega)
 have g1 := q_Begin_is q l[i] i hl
 have g2 := q_Begin_o q l[i] i hl
 have hsub : sub l (i + 1) l.length = l.drop (i + 1) := sub_drop l (i + 1)
 have ed : l.drop (i + 1) = (l.drop (i + 1)).drop 0 := rfl
 obtain ⟨j, v', k', e1, e2, e3⟩ := from_loop q hl (l.drop (i + 1)) (by simp; omega) (l.drop (i + 1)).length 0 [] (beginL HB q l[i] i).1 (beginL HB q l[i] i).2
  ⟨(beginL HB q l[i] i).2, 0, true, 0, (beginL HB q l[i] i).1.first, (beginL HB q l[i] i).1.at_, (beginL HB q l[i] i).1.step, (beginL HB q l[i] i).1.n, (beginL HB q l[i] i).1.many, (beginL HB q l[i] i).1.agg, (beginL HB q l[i] i).1.bad, []⟩ (by omega) (by simp) ⟨rfl, rfl, rfl, rfl, rfl, rfl, rfl, rfl, rfl, rfl, rfl⟩
 have hev : evAt l i = l[i] := getD_of l i _ hi
 have hfr : fromL HB q l i = stepsL HB q (l.drop (i + 1)) (beginL HB q l[i] i).1 (beginL HB q l[i] i).2 := by unfold fromL; rw [hev]
 rw [List.drop_zero, List.nil_append] at e3
 have hp := steps_pre HB q (l.drop (i + 1)) (beginL HB q l[i] i).1 (beginL HB q l[i] i).2
 have hpl := preL_len HB q (l.drop (i + 1)) (beginL HB q l[i] i).1 (beginL HB q l[i] i).2
 rw [← hfr] at e3 hp
 have hlen : (preL HB q (l.drop (i + 1)) (beginL HB q l[i] i).1 (beginL HB q l[i] i).2).length ≤ 1000 := by have : (l.drop (i + 1)).length ≤ l.length := by simp
                                                                                                            omega
 generalize preL HB q (l.drop (i + 1)) (beginL HB q l[i] i).1 (beginL HB q l[i] i).2 = pr at e3 hp hlen
 have J0 : S.zu6e_4_j (l.drop (i + 1)) (l.drop (i + 1)).length q.steps q.within q.agg q.aggStep q.aggF ⟨(beginL HB q l[i] i).2, 0, true, 0, (beginL HB q l[i] i).1.first, (beginL HB q l[i] i).1.at_, (beginL HB q l[i] i).1.step, (beginL HB q l[i] i).1.n, (beginL HB q l[i] i).1.many, (beginL HB q l[i] i).1.agg, (beginL HB q l[i] i).1.bad, []⟩ 0 = (j == 0) := Lp_j_of e1 0
 have J1 : S.zu6e_4_j (l.drop (i + 1)) (l.drop (i + 1)).length q.steps q.within q.agg q.aggStep q.aggF ⟨(beginL HB q l[i] i).2, 0, true, 0, (beginL HB q l[i] i).1.first, (beginL HB q l[i] i).1.at_, (beginL HB q l[i] i).1.step, (beginL HB q l[i] i).1.n, (beginL HB q l[i] i).1.many, (beginL HB q l[i] i).1.agg, (beginL HB q l[i] i).1.bad, []⟩ 1 = (j == 1) := Lp_j_of e1 1
 have JV : S.zu6e_4_v (l.drop (i + 1)) (l.drop (i + 1)).length q.steps q.within q.agg q.aggStep q.aggF ⟨(beginL HB q l[i] i).2, 0, true, 0, (beginL HB q l[i] i).1.first, (beginL HB q l[i] i).1.at_, (beginL HB q l[i] i).1.step, (beginL HB q l[i] i).1.n, (beginL HB q l[i] i).1.many, (beginL HB q l[i] i).1.agg, (beginL HB q l[i] i).1.bad, []⟩ = v' := Lp_v_of e1
 have fin : ∃ b, (bif decide ((fromL HB q l i).2.2 = 0) then some (⟨pr ++ [(fromL HB q l i).2.1], false, pr.length + 1, (fromL HB q l i).2.1.first, (fromL HB q l i).2.1.at_, (fromL HB q l i).2.1.step, (fromL HB q l i).2.1.n, (fromL HB q l i).2.1.many, (fromL HB q l i).2.1.agg, (fromL HB q l i).2.1.bad, decide ((fromL HB q l i).2.2 = 2)⟩ : S.zu6e_T)
     else some (⟨pr, v'.h2_f, pr.length, (fromL HB q l i).2.1.first, (fromL HB q l i).2.1.at_, (fromL HB q l i).2.1.step, (fromL HB q l i).2.1.n, (fromL HB q l i).2.1.many, (fromL HB q l i).2.1.agg, (fromL HB q l i).2.1.bad, decide ((fromL HB q l i).2.2 = 2)⟩ : S.zu6e_T)) = some (outFr (fromL HB q l i) b) := by
  by_cases h : (fromL HB q l i).2.2 = 0
  ·rw [if_pos h] at hp
   refine ⟨false, ?_⟩
   rw [decide_eq_true h]
   simp only [outFr, hp, List.length_append, List.length_cons, List.length_nil, cond_true]
  ·rw [if_neg h, List.append_nil] at hp
   refine ⟨v'.h2_f, ?_⟩
   rw [decide_eq_false h]
   simp only [outFr, hp, cond_false]
 obtain ⟨b, hfin⟩ := fin
 refine ⟨b, ?_⟩
 unfold S.zu6e S.zu6e_R
 dsimp only
 rw [Int.toNat_natCast, getD_of l i _ hi, g1, g2]
 dsimp only [outB]
 simp only [xwrap, w, Int.toNat_natCast, hsub]
 rw [J0, J1, JV]
 simp only [e3.ff, e3.ln, e3.a0, e3.a1, e3.a2, e3.a3, e3.a4, e3.a5, e3.a6, e3.ac]
 have y1 : (0 : Int) ≤ ((i + 1 : Nat) : Int) := by omega
 have y2 : (((i + 1 : Nat) : Int)) ≤ Int.ofNat l.length := by show ((i + 1 : Nat) : Int) ≤ (l.length : Int); omega
 have y3 : pr.length + 1 ≤ 1048576 := by omega
 have e : (j == 0) = true ∨ (j == 0) = false ∧ (j == 1) = true := by rcases e2 with rfl | rfl <;> simp
 rcases e with e | ⟨e, e'⟩
 ·rw [e]
  simp only [DT.run_br, DT.run_leaf, DT.run_fail, xdec, z1, z2, e_xeqI, y1, y2, y3, decide_true, cond_true, Bool.and_self, List.replicate, List.set, List.length_cons, List.length_nil, Nat.le_refl, List.take_length]
  exact hfin
 ·rw [e, e']
  simp only [DT.run_br, DT.run_leaf, DT.run_fail, xdec, z1, z2, e_xeqI, y1, y2, y3, decide_true, cond_true, cond_false, Bool.and_self, List.replicate, List.set, List.length_cons, List.length_nil, Nat.le_refl, List.take_length]
  exact hfin
theorem q_from_is (q : Query) (l : List (Ty .evt)) (i : Nat) (hl : q.steps.length ≤ 1048576) (hb : l.length ≤ 1000) (hi : i < l.length) : S.zu6e_is q.steps q.within q.agg q.aggStep q.aggF l i = true := by
 obtain ⟨b, h⟩ := q_from q l i hl hb hi
 simp [S.zu6e_is, h]
theorem q_from_o (q : Query) (l : List (Ty .evt)) (i : Nat) (hl : q.steps.length ≤ 1048576) (hb : l.length ≤ 1000) (hi : i < l.length) : ∃ b, S.zu6e_o q.steps q.within q.agg q.aggStep q.aggF l i = outFr (fromL HB q l i) b := by
 obtain ⟨b, h⟩ := q_from q l i hl hb hi
 exact ⟨b, by simp [S.zu6e_o, h]⟩
def outOne : Option Mat → S.znv3_T
 | some m => ⟨m.start, m.fin, m.agg, m.bad, true⟩
 | none => ⟨0, 0, 0, false, false⟩
theorem q_told' (a : Int) (b : Bool) : S.zhhg_o a b = ⟨a, b⟩ := rfl
theorem q_One (q : Query) (l : List (Ty .evt)) (i : Nat) (hl : q.steps.length ≤ 1048576) (hb : l.length ≤ 1000) (hi : i < l.length) : S.znv3 q.steps q.within q.agg q.aggStep q.aggF l i = some (outOne (oneL HB q l i)) := by
 have z1 : ¬ ((i : Int) ≥ (l.length : Int)) := by omega
 have z2 : ¬ (i : Int) < 0 := by omega
 have g1 := q_from_is q l i hl hb hi
 obtain ⟨b, g2⟩ := q_from_o q l i hl hb hi
 have hn := (nRun_le (H := HB) (q := q) l hi).1
 have hw : IntKind.i64.wrap ((i : Int) + ((fromL HB q l i).1.length : Nat)) = (i : Int) + (nRun HB q l i : Nat) := by
  show IntKind.i64.wrap ((i : Int) + (nRun HB q l i : Nat)) = _
  exact e_wrap (by omega) (by omega)
 have hm : S.zrty (fromL HB q l i).1 (fromL HB q l i).2.1.agg (fromL HB q l i).2.1.bad (decide ((fromL HB q l i).2.2 = 2)) i = some (let o := outOne (oneL HB q l i); ⟨o.x0, o.x1, o.x2, o.x3, o.x4⟩) := by
  unfold S.zrty S.zrty_R oneL
  by_cases h : (fromL HB q l i).2.2 = 2
  ·simp only [h, decide_true, xnot, Bool.not_true, DT.run_br, DT.run_leaf, cond_false, if_true, xwrap, hw, q_told']
   rfl
  ·simp only [h, decide_false, xnot, Bool.not_false, DT.run_br, DT.run_leaf, cond_true, if_false]
   rfl
 have hm1 : S.zrty_is (fromL HB q l i).1 (fromL HB q l i).2.1.agg (fromL HB q l i).2.1.bad (decide ((fromL HB q l i).2.2 = 2)) i = true := by simp [S.zrty_is, hm]
 have hm2 : S.zrty_o (fromL HB q l i).1 (fromL HB q l i).2.1.agg (fromL HB q l i).2.1.bad (decide ((fromL HB q l i).2.2 = 2)) i = (let o := outOne (oneL HB q l i); ⟨o.x0, o.x1, o.x2, o.x3, o.x4⟩) := by simp [S.zrty_o, hm]
 unfold S.znv3 S.znv3_R
 dsimp only
 rw [g1, g2]
 dsimp only [outFr]
 rw [sub_take, List.take_length, hm1, hm2]
 have y1 : 0 + (fromL HB q l i).1.length ≤ (fromL HB q l i).1.length := by omega
 simp only [DT.run_br, DT.run_leaf, DT.run_fail, xdec, z1, z2, y1, decide_false, decide_true, cond_false, cond_true, Bool.and_self]
theorem q_One_is (q : Query) (l : List (Ty .evt)) (i : Nat) (hl : q.steps.length ≤ 1048576) (hb : l.length ≤ 1000) (hi : i < l.length) : S.znv3_is q.steps q.within q.agg q.aggStep q.aggF l i = true := by simp [S.znv3_is, q_One q l i hl hb hi]
theorem q_One_o (q : Query) (l : List (Ty .evt)) (i : Nat) (hl : q.steps.length ≤ 1048576) (hb : l.length ≤ 1000) (hi : i < l.length) : S.znv3_o q.steps q.within q.agg q.aggStep q.aggF l i = outOne (oneL HB q l i) := by simp [S.znv3_o, q_One q l i hl hb hi]
def cntTo (H : HH) (q : Query) (l : List Evt) (k e : Nat) : Nat := (List.range k).countP (liveB H q l e)
def cntsL (H : HH) (q : Query) (l : List Evt) (k i : Nat) : List Int := (List.range l.length).map fun e => (((cntTo H q l k e + if k ≤ e ∧ e < k + i then 1 else 0 : Nat)) : Int)
def ownsL (H : HH) (q : Query) (l : List Evt) (k : Nat) : List Bool := (List.range l.length).map fun e => decide (e < k) && decide (0 < nRun H q l e)
theorem cntTo_le (H : HH) (q : Query) (l : List Evt) (k e : Nat) : cntTo H q l k e ≤ k := by
 unfold cntTo
 have := List.countP_le_length (p := liveB H q l e) (l := List.range k)
 simpa using this
theorem cnts_next (H : HH) (q : Query) (l : List Evt) (k : Nat) : cntsL H q l k (nRun H q l k) = cntsL H q l (k + 1) 0 := by
 unfold cntsL
 refine List.map_congr_left fun e _ => ?_
 have e1 : cntTo H q l (k + 1) e = cntTo H q l k e + if liveB H q l e k = true then 1 else 0 := by
  unfold cntTo; rw [List.range_succ, List.countP_append]; simp [List.countP_cons]
 have e2 : (liveB H q l e k = true) ↔ (k ≤ e ∧ e < k + nRun H q l k) := by unfold liveB; simp
 rw [e1]
 have e3 : ¬ (k + 1 ≤ e ∧ e < k + 1 + 0) := by omega
 rw [if_neg e3]
 by_cases h : k ≤ e ∧ e < k + nRun H q l k
 ·rw [if_pos h, if_pos (e2.2 h)]
 ·rw [if_neg h, if_neg (fun g => h (e2.1 g))]
theorem cnts_set (H : HH) (q : Query) (l : List Evt) {k i : Nat} (hk : k + i < l.length) (hb : l.length ≤ 1000) : (cntsL H q l k i).set (k + i) (IntKind.i64.wrap ((cntsL H q l k i).getD (k + i) 0 + 1)) = cntsL H q l k (i + 1) := by
 have hlen : (cntsL H q l k i).length = l.length := by simp [cntsL]
 have hg : (cntsL H q l k i).getD (k + i) 0 = (cntTo H q l k (k + i) : Nat) := by
  rw [getD_of _ _ _ (by rw [hlen]; exact hk)]
  simp [cntsL]
 have hc := cntTo_le H q l k (k + i)
 rw [hg, e_wrap1 (by omega)]
 refine List.ext_getElem (by simp [cntsL]) (fun e h1 h2 => ?_)
 rw [List.getElem_set]
 have he : e < l.length := by simpa [cntsL] using h2
 by_cases h : k + i = e
 ·subst h
  rw [if_pos rfl]
  simp [cntsL]
 ·rw [if_neg h]
  simp only [cntsL, List.getElem_map, List.getElem_range]
  have : (k ≤ e ∧ e < k + i) ↔ (k ≤ e ∧ e < k + (i + 1)) := by omega
  by_cases g : k ≤ e ∧ e < k + i
  ·rw [if_pos g, if_pos (this.1 g)]
  ·rw [if_neg g, if_neg (fun x => g (this.2 x))]
theorem owns_set (H : HH) (q : Query) (l : List Evt) {k : Nat} (hk : k < l.length) : (ownsL H q l k).set k (decide (((nRun H q l k : Nat) : Int) > 0)) = ownsL H q l (k + 1) := by
 refine List.ext_getElem (by simp [ownsL]) (fun e h1 h2 => ?_)
 rw [List.getElem_set]
 by_cases h : k = e
 ·subst h
  rw [if_pos rfl]
  simp [ownsL]
 ·rw [if_neg h]
  simp only [ownsL, List.getElem_map, List.getElem_range]
  have : (e < k) ↔ (e < k + 1) := by omega
  rw [decide_eq_decide.2 this]
theorem over_inner (q : Query) (l : List (Ty .evt)) (hb : l.length ≤ 1000) (k : Nat) (hk : k < l.length) : Lp (S.zjsn_8_r l.length k (nRun HB q l k : Nat)) ⟨0, cntsL HB q l k 0⟩ = some (0, ⟨(nRun HB q l k : Nat), cntsL HB q l k (nRun HB q l k)⟩) := by
 have hn := (nRun_le (H := HB) (q := q) l hk).1
 refine Lp_walk (fun i => (⟨(i : Int), cntsL HB q l k i⟩ : S.zjsn_8_V)) (nRun HB q l k) 0 (fun i hi => ?_) ?_
 ·have z1 : ((i : Int) < ((nRun HB q l k : Nat) : Int)) := by omega
  have w : IntKind.i64.wrap ((k : Int) + (i : Int)) = ((k + i : Nat) : Int) := by rw [e_wrap (by omega) (by omega)]; omega
  have hlen : (cntsL HB q l k i).length = l.length := by simp [cntsL]
  have z2 : (0 : Int) ≤ ((k + i : Nat) : Int) := by omega
  have z3 : ((k + i : Nat) : Int) < (l.length : Int) := by omega
  have z4 : k + i < (cntsL HB q l k i).length := by omega
  unfold S.zjsn_8_r S.zjsn_8_R
  dsimp only
  simp only [xwrap, w, Int.toNat_natCast, Nat.zero_add]
  have hs := cnts_set HB q l (show k + i < l.length by omega) hb
  have hd : (dflt ET.int : Ty ET.int) = (0 : Int) := rfl
  rw [hd, hs]
  simp only [DT.run_br, DT.run_leaf, DT.run_fail, xdec, z1, z2, z3, z4, decide_true, cond_true, Bool.and_self, e_wrap1 (show i ≤ 1048576 by omega)]
 ·have z1 : ¬ (((nRun HB q l k : Nat) : Int) < ((nRun HB q l k : Nat) : Int)) := by omega
  unfold S.zjsn_8_r S.zjsn_8_R
  dsimp only
  simp only [DT.run_br, DT.run_leaf, xdec, z1, decide_false, cond_false]
theorem over_outer (q : Query) (l : List (Ty .evt)) (hl : q.steps.length ≤ 1048576) (hb : l.length ≤ 1000) : Lp (S.zjsn_4_r l l.length l.length l.length q.steps q.within q.agg q.aggStep q.aggF) ⟨0, cntsL HB q l 0 0, ownsL HB q l 0⟩ = some (0, ⟨(l.length : Nat), cntsL HB q l l.length 0, ownsL HB q l l.length⟩) := by
 refine Lp_walk (fun k => (⟨(k : Int), cntsL HB q l k 0, ownsL HB q l k⟩ : S.zjsn_4_V)) l.length 0 (fun k hk => ?_) ?_
 ·have z1 : ((k : Int) < (l.length : Int)) := by omega
  have z2 : (0 : Int) ≤ (k : Int) := by omega
  have g1 := q_from_is q l k hl hb hk
  obtain ⟨b, g2⟩ := q_from_o q l k hl hb hk
  have lp := over_inner q l hb k hk
  have J : S.zjsn_8_j l.length k (nRun HB q l k : Nat) ⟨0, cntsL HB q l k 0⟩ 0 = true := by unfold S.zjsn_8_j; rw [Lp_j_of lp]; rfl
  have V : S.zjsn_8_v l.length k (nRun HB q l k : Nat) ⟨0, cntsL HB q l k 0⟩ = ⟨(nRun HB q l k : Nat), cntsL HB q l k (nRun HB q l k)⟩ := by unfold S.zjsn_8_v; rw [Lp_v_of lp]
  have hlen : (ownsL HB q l k).length = l.length := by simp [ownsL]
  have z4 : k < (ownsL HB q l k).length := by omega
  unfold S.zjsn_4_r S.zjsn_4_R
  dsimp only
  rw [g1, g2]
  dsimp only [outFr]
  rw [show S.zjsn_8_j l.length k ((fromL HB q l k).1.length : Nat) ⟨0, cntsL HB q l k 0⟩ 0 = true from J, show S.zjsn_8_v l.length k ((fromL HB q l k).1.length : Nat) ⟨0, cntsL HB q l k 0⟩ = ⟨(nRun HB q l k : Nat), cntsL HB q l k (nRun HB q l k)⟩ from V]
  dsimp only
  simp only [Int.toNat_natCast, Nat.zero_add]
  rw [cnts_next]
  have hs : (ownsL HB q l k).set k (decide ((((fromL HB q l k).1.length : Nat) : Int) > 0)) = ownsL HB q l (k + 1) := owns_set HB q l hk
  simp only [DT.run_br, DT.run_leaf, DT.run_fail, xdec, xwrap, z1, z2, z4, decide_true, cond_true, Bool.and_self, e_wrap1 (show k ≤ 1048576 by omega)]
  exact congrArg (fun z => (some (none, ⟨((k + 1 : Nat) : Int), cntsL HB q l (k + 1) 0, z⟩) : Option (Option Nat × S.zjsn_4_V))) hs
 ·have z1 : ¬ ((l.length : Int) < (l.length : Int)) := by omega
  unfold S.zjsn_4_r S.zjsn_4_R
  dsimp only
  simp only [DT.run_br, DT.run_leaf, xdec, z1, decide_false, cond_false]
theorem cnts_zero (H : HH) (q : Query) (l : List Evt) : cntsL H q l 0 0 = List.replicate l.length 0 := by
 unfold cntsL
 refine List.ext_getElem (by simp) (fun e h1 h2 => ?_)
 have : ¬ (0 ≤ e ∧ e < 0 + 0) := by omega
 simp only [List.getElem_map, List.getElem_range, List.getElem_replicate, if_neg this]
 simp [cntTo]
theorem owns_zero (H : HH) (q : Query) (l : List Evt) : ownsL H q l 0 = List.replicate l.length false := by
 unfold ownsL
 refine List.ext_getElem (by simp) (fun e h1 h2 => ?_)
 simp
theorem over_find (q : Query) (l : List (Ty .evt)) (hb : l.length ≤ 1000) (most : Int) : Lp (S.zjsn_15_r most l.length l.length l.length (cntsL HB q l l.length 0) (ownsL HB q l l.length)) ⟨0⟩ = match (List.range l.length).find? (overB HB q l most) with
    | some e => some (0, ⟨(e : Nat)⟩)
    | none => some (1, ⟨(l.length : Nat)⟩) := by
 have hg1 : ∀ e, e < l.length → (cntsL HB q l l.length 0).getD e 0 = (nLive HB q l e : Nat) := fun e he => by
  rw [getD_of _ _ _ (by simpa [cntsL] using he)]
  have : ¬ (l.length ≤ e ∧ e < l.length + 0) := by omega
  simp only [cntsL, List.getElem_map, List.getElem_range, if_neg this]
  rfl
 have hg2 : ∀ e, e < l.length → (ownsL HB q l l.length).getD e false = decide (0 < nRun HB q l e) := fun e he => by
  rw [getD_of _ _ _ (by simpa [ownsL] using he)]
  simp [ownsL, he]
 have key := Lp_idx (V := S.zjsn_15_V) (r := S.zjsn_15_r most l.length l.length l.length (cntsL HB q l l.length 0) (ownsL HB q l l.length)) (fun k => ⟨k⟩) (List.range l.length) (overB HB q l most) (fun e he => ?_) ?_
 ·have hl : (List.range l.length).length = l.length := List.length_range
  rw [hl] at key
  cases hf : (List.range l.length).findIdx? (overB HB q l most) with
  | none =>
   rw [hf] at key
   have : (List.range l.length).find? (overB HB q l most) = none := by
    rw [List.find?_eq_none]
    rw [List.findIdx?_eq_none_iff] at hf
    exact fun x hx => by rw [hf x hx]; decide
   rw [this]; exact key
  | some j =>
   rw [hf] at key
   obtain ⟨h1, h2, h3⟩ := List.findIdx?_eq_some_iff_getElem.1 hf
   have : (List.range l.length).find? (overB HB q l most) = some j := by
    rw [List.find?_eq_some_iff_getElem]
    simp only [List.getElem_range] at h2 h3
    exact ⟨h2, j, h1, by simp, fun i hi => by simpa using h3 i hi⟩
   rw [this]; exact key
 ·have he' : e < l.length := by simpa using he
  have z1 : ((e : Int) < (l.length : Int)) := by omega
  have z2 : (0 : Int) ≤ (e : Int) := by omega
  have z3 : e < (cntsL HB q l l.length 0).length := by simpa [cntsL] using he'
  have z4 : e < (ownsL HB q l l.length).length := by simpa [ownsL] using he'
  unfold S.zjsn_15_r S.zjsn_15_R
  dsimp only
  simp only [Int.toNat_natCast, Nat.zero_add]
  have d1 : (dflt ET.int : Ty ET.int) = (0 : Int) := rfl
  have d2 : (dflt ET.bool : Ty ET.bool) = false := rfl
  rw [d1, d2, hg1 e he', hg2 e he']
  simp only [DT.run_br, DT.run_leaf, DT.run_fail, xdec, xwrap, z1, z2, z3, z4, decide_true, cond_true, Bool.and_self, e_wrap1 (show e ≤ 1048576 by omega), List.getElem_range, overB]
  by_cases c1 : 0 < nRun HB q l e <;> by_cases c2 : (nLive HB q l e : Int) > most <;> simp [c1, c2]
 ·have z1 : ¬ ((l.length : Int) < (l.length : Int)) := by omega
  unfold S.zjsn_15_r S.zjsn_15_R
  dsimp only
  simp only [DT.run_br, DT.run_leaf, xdec, List.length_range, z1, decide_false, cond_false]
theorem q_Over (q : Query) (l : List (Ty .evt)) (most : Int) (hl : q.steps.length ≤ 1048576) (hb : l.length ≤ 1000) : S.zjsn q.steps q.within q.agg q.aggStep q.aggF l most = some ⟨overL HB q l most⟩ := by
 have lp := over_outer q l hl hb
 rw [cnts_zero, owns_zero] at lp
 have lf := over_find q l hb most
 have J : S.zjsn_4_j l l.length l.length l.length q.steps q.within q.agg q.aggStep q.aggF ⟨0, List.replicate l.length 0, List.replicate l.length false⟩ 0 = true := by unfold S.zjsn_4_j; rw [Lp_j_of lp]; rfl
 have V : S.zjsn_4_v l l.length l.length l.length q.steps q.within q.agg q.aggStep q.aggF ⟨0, List.replicate l.length 0, List.replicate l.length false⟩ = ⟨(l.length : Nat), cntsL HB q l l.length 0, ownsL HB q l l.length⟩ := by unfold S.zjsn_4_v; rw [Lp_v_of lp]
 have z1 : (0 : Int) ≤ (l.length : Int) := by omega
 have z2 : (l.length : Int) ≤ 1048576 := by omega
 have d1 : (dflt ET.int : Ty ET.int) = (0 : Int) := rfl
 have d2 : (dflt ET.bool : Ty ET.bool) = false := rfl
 unfold S.zjsn S.zjsn_R
 dsimp only
 rw [Int.toNat_natCast, d1, d2, J, V]
 dsimp only
 unfold S.zjsn_15_j S.zjsn_15_v overL
 cases hf : (List.range l.length).find? (overB HB q l most) with
 | none =>
  rw [hf] at lf
  rw [Lp_j_of lf, Lp_j_of lf]
  simp only [DT.run_br, DT.run_leaf, DT.run_fail, xdec, e_xeqI, z1, z2, decide_true, cond_true, Bool.and_self]
  rfl
 | some e =>
  rw [hf] at lf
  rw [Lp_j_of lf, Lp_v_of lf]
  simp only [DT.run_br, DT.run_leaf, DT.run_fail, xdec, e_xeqI, z1, z2, decide_true, cond_true, Bool.and_self]
  rfl
theorem q_Over_is (q : Query) (l : List (Ty .evt)) (most : Int) (hl : q.steps.length ≤ 1048576) (hb : l.length ≤ 1000) : S.zjsn_is q.steps q.within q.agg q.aggStep q.aggF l most = true := by simp [S.zjsn_is, q_Over q l most hl hb]
theorem q_Over_o (q : Query) (l : List (Ty .evt)) (most : Int) (hl : q.steps.length ≤ 1048576) (hb : l.length ≤ 1000) : S.zjsn_o q.steps q.within q.agg q.aggStep q.aggF l most = ⟨overL HB q l most⟩ := by simp [S.zjsn_o, q_Over q l most hl hb]
def srt (l : List Mat) : Prop := l.Pairwise fun a b => a.fin ≤ b.fin
theorem insL_srt (x : Mat) : ∀ {l : List Mat}, srt l → srt (insL x l) ∧ ∀ y, y ∈ insL x l ↔ y = x ∨ y ∈ l
 | [], h => by simp [insL, srt]
 | y :: l, h => by
  have h1 := List.pairwise_cons.1 h
  unfold insL
  split
  ·rename_i c
   obtain ⟨i1, i2⟩ := insL_srt x h1.2
   refine ⟨List.pairwise_cons.2 ⟨fun z hz => ?_, i1⟩, fun z => ?_⟩
   ·rcases (i2 z).1 hz with rfl | hz
    ·exact c
    ·exact h1.1 z hz
   ·simp only [List.mem_cons, i2]
    constructor
    ·rintro (h | h | h)
     ·exact .inr (.inl h)
     ·exact .inl h
     ·exact .inr (.inr h)
    ·rintro (h | h | h)
     ·exact .inr (.inl h)
     ·exact .inl h
     ·exact .inr (.inr h)
  ·rename_i c
   refine ⟨List.pairwise_cons.2 ⟨fun z hz => ?_, h⟩, fun z => by simp only [List.mem_cons]⟩
   rcases List.mem_cons.1 hz with rfl | hz
   ·omega
   ·have := h1.1 z hz; omega
theorem insL_len (x : Mat) : ∀ l : List Mat, (insL x l).length = l.length + 1
 | [] => rfl
 | y :: l => by
  unfold insL
  split
  ·simp [insL_len x l]
  ·simp
theorem stab_len (l : List Mat) : (stab l).length = l.length := by
 refine snoc_ind (P := fun l => (stab l).length = l.length) rfl (fun l x ih => ?_) l
 rw [stab_snoc, insL_len, ih]; simp
theorem stab_srt (l : List Mat) : srt (stab l) := by
 refine snoc_ind (P := fun l => srt (stab l)) List.Pairwise.nil (fun l x ih => ?_) l
 rw [stab_snoc]; exact (insL_srt x ih).1
theorem stab_mem (l : List Mat) (y : Mat) : y ∈ stab l ↔ y ∈ l := by
 refine snoc_ind (P := fun l => y ∈ stab l ↔ y ∈ l) (by simp [stab]) (fun l x ih => ?_) l
 rw [stab_snoc, (insL_srt x (stab_srt l)).2, ih]; simp [or_comm]
theorem stab_one (x : Mat) : stab [x] = [x] := rfl
theorem q_zxni (a b : Int) : S.zxni_is a b = true ∧ (decide ((S.zxni_o a b).x0 < 0) = decide (a < b)) := by
 have h : ∃ n, S.zlpd a b = some ⟨n⟩ ∧ (decide (n < 0) = decide (a < b)) := by
  unfold S.zlpd S.zlpd_R
  by_cases h1 : a < b
  ·refine ⟨-1, ?_, by simp [h1]⟩
   simp [DT.run_br, DT.run_leaf, DT.run_fail, xdec, h1, S.zc3b_is, S.zc3b_o, S.zc3b, S.zc3b_R, e_xneI]
  ·by_cases h2 : a > b
   ·refine ⟨1, ?_, by simp [h1]⟩
    simp [DT.run_br, DT.run_leaf, DT.run_fail, xdec, h1, h2, S.zc3b_is, S.zc3b_o, S.zc3b, S.zc3b_R, e_xneI]
   ·refine ⟨0, ?_, by simp [h1]⟩
    simp [DT.run_br, DT.run_leaf, DT.run_fail, xdec, h1, h2, S.zc3b_is, S.zc3b_o, S.zc3b, S.zc3b_R, e_xneI]
 obtain ⟨n, e, hn⟩ := h
 have e2 : S.zxni a b = some ⟨n⟩ := by
  unfold S.zxni S.zxni_R
  simp [DT.run_br, DT.run_leaf, S.zlpd_is, S.zlpd_o, e]
 exact ⟨by simp [S.zxni_is, e2], by simp [S.zxni_o, e2, hn]⟩
theorem getD_mid {α : Type} (p : List α) (x : α) (r : List α) (d : α) : (p ++ x :: r).getD p.length d = x := by simp [List.getD_eq_getElem?_getD]
theorem getD_mid1 {α : Type} (p : List α) (x y : α) (r : List α) (d : α) : (p ++ x :: y :: r).getD (p.length + 1) d = y := by
 have : p ++ x :: y :: r = (p ++ [x]) ++ y :: r := by simp
 rw [this]
 have e : p.length + 1 = (p ++ [x]).length := by simp
 rw [e, getD_mid]
theorem set_mid {α : Type} (p : List α) (x z : α) (r : List α) : (p ++ x :: r).set p.length z = p ++ z :: r := by simp
theorem set_mid1 {α : Type} (p : List α) (x y z : α) (r : List α) : (p ++ x :: y :: r).set (p.length + 1) z = p ++ x :: z :: r := by
 have : p ++ x :: y :: r = (p ++ [x]) ++ y :: r := by simp
 rw [this]
 have e : p.length + 1 = (p ++ [x]).length := by simp
 rw [e, set_mid]; simp
theorem ins_inner (N : Nat) (hN : N ≤ 1000) (a : List Mat) (x : Mat) (r : List Mat) : ∀ (s1 s2 : List Mat), srt (s1 ++ s2) → (∀ y ∈ s2, x.fin < y.fin) → a.length + s1.length + s2.length + 1 + r.length = N →
    ∃ j, Lp (S.zztx_4_r N a.length) ⟨((a.length + s1.length : Nat) : Int), a ++ s1 ++ x :: (s2 ++ r)⟩ = some (0, ⟨j, a ++ insL x (s1 ++ s2) ++ r⟩) := by
 intro s1
 refine snoc_ind (P := fun s1 => ∀ (s2 : List Mat), srt (s1 ++ s2) → (∀ y ∈ s2, x.fin < y.fin) → a.length + s1.length + s2.length + 1 + r.length = N →
  ∃ j, Lp (S.zztx_4_r N a.length) ⟨((a.length + s1.length : Nat) : Int), a ++ s1 ++ x :: (s2 ++ r)⟩ = some (0, ⟨j, a ++ insL x (s1 ++ s2) ++ r⟩)) ?_ (fun s1 y ih => ?_) s1
 ·intro s2 hs h2 hn
  refine ⟨((a.length + ([] : List Mat).length : Nat) : Int), Lp_exit ?_⟩
  ·have z : ¬ (((a.length + ([] : List Mat).length : Nat) : Int) > (a.length : Int)) := by simp
   unfold S.zztx_4_r S.zztx_4_R
   dsimp only
   simp only [DT.run_br, DT.run_leaf, xdec, z, decide_false, cond_false]
   have := insL_mid x [] s2 (by simp) h2
   simp only [List.nil_append] at this
   simp [this]
 ·intro s2 hs h2 hn
  have hl : (s1 ++ [y]).length = s1.length + 1 := by simp
  rw [hl] at hn ⊢
  have z1 : ((a.length + (s1.length + 1) : Nat) : Int) > (a.length : Int) := by omega
  have z2 : (0 : Int) ≤ ((a.length + (s1.length + 1) : Nat) : Int) := by omega
  have z3 : ((a.length + (s1.length + 1) : Nat) : Int) < (N : Int) := by omega
  have w : IntKind.i64.wrap (((a.length + (s1.length + 1) : Nat) : Int) - 1) = ((a.length + s1.length : Nat) : Int) := by rw [e_wrap (by omega) (by omega)]; omega
  have z4 : (0 : Int) ≤ ((a.length + s1.length : Nat) : Int) := by omega
  have z5 : ((a.length + s1.length : Nat) : Int) < (N : Int) := by omega
  have e0 : a ++ (s1 ++ [y]) ++ x :: (s2 ++ r) = (a ++ s1) ++ y :: x :: (s2 ++ r) := by simp
  have hlen : ((a ++ s1) ++ y :: x :: (s2 ++ r)).length = N := by simp; omega
  have p1 : a.length + s1.length = (a ++ s1).length := by simp
  have p2 : a.length + (s1.length + 1) = (a ++ s1).length + 1 := by simp; omega
  obtain ⟨c1, c2⟩ := q_zxni x.fin y.fin
  have hround : S.zztx_4_r N a.length ⟨((a.length + (s1.length + 1) : Nat) : Int), (a ++ s1) ++ y :: x :: (s2 ++ r)⟩ =
      if x.fin < y.fin then some (none, ⟨((a.length + s1.length : Nat) : Int), (a ++ s1) ++ x :: y :: (s2 ++ r)⟩) else some (some 0, ⟨((a.length + (s1.length + 1) : Nat) : Int), (a ++ s1) ++ y :: x :: (s2 ++ r)⟩) := by
   unfold S.zztx_4_r S.zztx_4_R
   dsimp only
   simp only [xwrap, w, Int.toNat_natCast, Nat.zero_add]
   have z6 : a.length + (s1.length + 1) < ((a ++ s1) ++ y :: x :: (s2 ++ r)).length := by rw [hlen]; omega
   have z7 : a.length + s1.length < ((a ++ s1) ++ y :: x :: (s2 ++ r)).length := by rw [hlen]; omega
   have z8 : a.length + s1.length < (((a ++ s1) ++ y :: x :: (s2 ++ r)).set (a.length + (s1.length + 1)) y).length := by rw [List.length_set, hlen]; omega
   have g1 : ((a ++ s1) ++ y :: x :: (s2 ++ r)).getD (a.length + (s1.length + 1)) (dflt ET.mat) = x := by rw [p2]; exact getD_mid1 _ _ _ _ _
   have g2 : ((a ++ s1) ++ y :: x :: (s2 ++ r)).getD (a.length + s1.length) (dflt ET.mat) = y := by rw [p1]; exact getD_mid _ _ _ _
   rw [g1, g2]
   have t1 : (((a ++ s1) ++ y :: x :: (s2 ++ r)).set (a.length + (s1.length + 1)) y) = (a ++ s1) ++ y :: y :: (s2 ++ r) := by rw [p2]; exact set_mid1 _ _ _ _ _
   have t2 : ((a ++ s1) ++ y :: y :: (s2 ++ r)).set (a.length + s1.length) x = (a ++ s1) ++ x :: y :: (s2 ++ r) := by rw [p1]; exact set_mid _ _ _ _
   have t1' : (((a ++ s1) ++ y :: x :: (s2 ++ r)).set (a.length + (s1.length + 1)) ({ start := y.start, fin := y.fin, agg := y.agg, bad := y.bad } : Mat)) = (a ++ s1) ++ y :: y :: (s2 ++ r) := t1
   have t2' : ((a ++ s1) ++ y :: y :: (s2 ++ r)).set (a.length + s1.length) ({ start := x.start, fin := x.fin, agg := x.agg, bad := x.bad } : Mat) = (a ++ s1) ++ x :: y :: (s2 ++ r) := t2
   have z9 : a.length + s1.length < ((a ++ s1) ++ y :: y :: (s2 ++ r)).length := by rw [← t1]; exact z8
   rw [t1', t2']
   simp only [DT.run_br, DT.run_leaf, DT.run_fail, xdec, z1, z2, z3, z4, z5, z6, z7, z9, c1, c2, decide_true, cond_true, Bool.and_self]
   by_cases c : x.fin < y.fin
   ·rw [if_pos c, decide_eq_true c]; rfl
   ·rw [if_neg c, decide_eq_false c]; rfl
  rw [e0]
  have hs' : srt (s1 ++ (y :: s2)) := by simpa [srt] using hs
  by_cases c : x.fin < y.fin
  ·rw [if_pos c] at hround
   obtain ⟨j, hj⟩ := ih (y :: s2) hs' (fun z hz => by
    rcases List.mem_cons.1 hz with rfl | hz
    ·exact c
    ·exact h2 z hz) (by simp; omega)
   refine ⟨j, ?_⟩
   rw [Lp_cont hround]
   have e1 : s1 ++ [y] ++ s2 = s1 ++ y :: s2 := by simp
   rw [e1]
   have e2 : a ++ s1 ++ x :: (y :: s2 ++ r) = (a ++ s1) ++ x :: y :: (s2 ++ r) := rfl
   rw [← e2]; exact hj
  ·rw [if_neg c] at hround
   refine ⟨((a.length + (s1.length + 1) : Nat) : Int), Lp_exit ?_⟩
   ·rw [hround]
    have hle : ∀ z ∈ s1 ++ [y], z.fin ≤ x.fin := fun z hz => by
     have hp := List.pairwise_append.1 (show (s1 ++ ([y] ++ s2)).Pairwise (fun a b : Mat => a.fin ≤ b.fin) from by simpa [srt] using hs)
     rcases List.mem_append.1 hz with hz | hz
     ·have := hp.2.2 z hz y (by simp); omega
     ·obtain rfl := List.mem_singleton.1 hz; omega
    rw [insL_mid x (s1 ++ [y]) s2 hle h2]
    simp
theorem ins_outer (N : Nat) (hN : N ≤ 1000) (a s z : List Mat) (hn : a.length + s.length + z.length = N) (hs : 0 < s.length) : ∃ j, Lp (S.zztx_1_r N a.length ((a.length + s.length : Nat) : Int)) ⟨((a.length + 1 : Nat) : Int), a ++ s ++ z⟩ = some (0, ⟨j, a ++ stab s ++ z⟩) := by
 have key : ∀ (n i : Nat), i + n = s.length → 0 < i → ∃ j, Lp (S.zztx_1_r N a.length ((a.length + s.length : Nat) : Int)) ⟨((a.length + i : Nat) : Int), a ++ (stab (s.take i) ++ s.drop i) ++ z⟩ = some (0, ⟨j, a ++ stab s ++ z⟩) := by
  intro n
  induction n with
  | zero =>
   intro i hi h0
   have e1 : s.take i = s := List.take_of_length_le (by omega)
   have e2 : s.drop i = [] := List.drop_eq_nil_of_le (by omega)
   rw [e1, e2, List.append_nil]
   refine ⟨((a.length + i : Nat) : Int), Lp_exit ?_⟩
   ·have z1 : ¬ (((a.length + i : Nat) : Int) < ((a.length + s.length : Nat) : Int)) := by omega
    unfold S.zztx_1_r S.zztx_1_R
    dsimp only
    simp only [DT.run_br, DT.run_leaf, xdec, z1, decide_false, cond_false]
  | succ n ih =>
   intro i hi h0
   have hi' : i < s.length := by omega
   obtain ⟨j, hj⟩ := ih (i + 1) (by omega) (by omega)
   have e1 : s.take (i + 1) = s.take i ++ [s[i]] := by rw [List.take_succ_eq_append_getElem hi']
   have e2 : s.drop i = s[i] :: s.drop (i + 1) := List.drop_eq_getElem_cons hi'
   have hsl : (stab (s.take i)).length = i := by rw [stab_len]; simp; omega
   obtain ⟨j2, h2⟩ := ins_inner N hN a s[i] (s.drop (i + 1) ++ z) (stab (s.take i)) [] (by simpa using stab_srt _) (by simp) (by simp [hsl]; omega)
   rw [hsl, List.append_nil, ← stab_snoc, ← e1] at h2
   have e3 : a ++ stab (s.take i) ++ s[i] :: ([] ++ (s.drop (i + 1) ++ z)) = a ++ (stab (s.take i) ++ s.drop i) ++ z := by rw [e2]; simp only [List.nil_append, List.append_assoc, List.cons_append]
   have e4 : a ++ stab (s.take (i + 1)) ++ (s.drop (i + 1) ++ z) = a ++ (stab (s.take (i + 1)) ++ s.drop (i + 1)) ++ z := by simp
   rw [e3, e4] at h2
   refine ⟨j, ?_⟩
   have z1 : ((a.length + i : Nat) : Int) < ((a.length + s.length : Nat) : Int) := by omega
   have hround : S.zztx_1_r N a.length ((a.length + s.length : Nat) : Int) ⟨((a.length + i : Nat) : Int), a ++ (stab (s.take i) ++ s.drop i) ++ z⟩ = some (none, ⟨((a.length + (i + 1) : Nat) : Int), a ++ (stab (s.take (i + 1)) ++ s.drop (i + 1)) ++ z⟩) := by
    unfold S.zztx_1_r S.zztx_1_R S.zztx_4_j S.zztx_4_v
    dsimp only
    rw [Lp_j_of h2, Lp_v_of h2]
    simp only [DT.run_br, DT.run_leaf, DT.run_fail, xdec, xwrap, z1, decide_true, cond_true, e_wrap1 (show a.length + i ≤ 1048576 by omega)]
    rfl
   rw [Lp_cont hround]; exact hj
 obtain ⟨j, hj⟩ := key (s.length - 1) 1 (by omega) (by omega)
 refine ⟨j, ?_⟩
 have e : stab (s.take 1) ++ s.drop 1 = s := by
  cases s with
  | nil => cases hs
  | cons x s => simp [stab_one]
 rw [e] at hj; exact hj
theorem q_insSort (a s z : List Mat) (hn : a.length + s.length + z.length ≤ 1000) : S.zztx (a ++ s ++ z) a.length ((a.length + s.length : Nat) : Int) = some ⟨a ++ stab s ++ z⟩ := by
 unfold S.zztx S.zztx_R
 dsimp only
 have hl : (a ++ s ++ z).length = a.length + s.length + z.length := by simp; omega
 have hle : a.length + s.length + z.length = a.length + s.length + z.length := rfl
 rw [hl]
 simp only [xwrap, e_wrap1 (show a.length ≤ 1048576 by omega)]
 by_cases h : 0 < s.length
 ·obtain ⟨j, hj⟩ := ins_outer (a.length + s.length + z.length) hn a s z rfl h
  unfold S.zztx_1_j S.zztx_1_v
  rw [Lp_j_of hj, Lp_v_of hj]
  rfl
 ·have e : s = [] := List.eq_nil_of_length_eq_zero (by omega)
  subst e
  have z1 : ¬ (((a.length + 1 : Nat) : Int) < ((a.length + ([] : List Mat).length : Nat) : Int)) := by simp; omega
  have hj : Lp (S.zztx_1_r (a.length + ([] : List Mat).length + z.length) a.length ((a.length + ([] : List Mat).length : Nat) : Int)) ⟨((a.length + 1 : Nat) : Int), a ++ [] ++ z⟩ = some (0, ⟨((a.length + 1 : Nat) : Int), a ++ [] ++ z⟩) := by
   refine Lp_exit ?_
   unfold S.zztx_1_r S.zztx_1_R
   dsimp only
   simp only [DT.run_br, DT.run_leaf, xdec, z1, decide_false, cond_false]
  unfold S.zztx_1_j S.zztx_1_v
  rw [Lp_j_of hj, Lp_v_of hj]
  rfl
end Go.Eng
