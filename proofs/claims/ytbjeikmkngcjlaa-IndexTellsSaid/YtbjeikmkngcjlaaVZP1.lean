/- What events and expressions come to: there is always an end. -/
import Derived.Test.YtbjeikmkngcjlaaVZG3
import Derived.Test.YtbjeikmkngcjlaaVZP0
set_option linter.unusedVariables false
set_option linter.unusedSimpArgs false
namespace Go.Eng
open Go Go.Eng
theorem q_evMay (n : ByteArray) (a : Int) (l : List (Ty .val)) : (S.zwl5_R n a l).all (fun r => r.x0 = true → l.length ≤ 6) := by
 unfold S.zwl5_R; try dsimp only
 by_cases h : (l.length : Int) ≤ 6
 ·have h2 : l.length ≤ 6 := by omega
  simp [DT.all_br, DT.all_leaf, DT.all_fail, xdec, q_conVal l (by omega), h2]
 ·simp [DT.all_br, DT.all_leaf, DT.all_fail, xdec, h]
theorem q_evMay_is (n : ByteArray) (a : Int) (l : List (Ty .val)) : S.zwl5_is n a l = true := DT.all_is (q_evMay n a l)
def GoodT (t : Thing) : Prop := (∃ n, t = .one 207 (.int .i64 n)) ∨ (∃ b, t = .one 128 (.bool b)) ∨ (∃ v : Val, t = .val 212 v ∧ v.kind ≠ 0 ∧ v.kind ≠ 1)
theorem q_of (k n : Int) (s : ByteArray) : (S.expr_of_R k n s).all (fun r => GoodT r.x0) := by
 unfold S.expr_of_R; try dsimp only
 simp only [DT.all_br, DT.all_leaf, e_xeqI, decide_eq_true_eq, decide_eq_false_iff_not]
 exact ⟨fun _ => .inl ⟨_, rfl⟩, fun h1 => ⟨fun _ => .inr (.inl ⟨_, rfl⟩), fun h2 => .inr (.inr ⟨_, rfl, h1, h2⟩)⟩⟩
theorem q_of_is (k n : Int) (s : ByteArray) : S.expr_of_is k n s = true := DT.all_is (q_of k n s)
theorem q_of_o (k n : Int) (s : ByteArray) : GoodT (S.expr_of_o k n s).x0 := DT.all_o (q_of k n s)
theorem GoodT_is {t : Thing} (h : GoodT t) : S.thingIs t = true := by
 rcases h with ⟨n, rfl⟩ | ⟨b, rfl⟩ | ⟨v, rfl, _, _⟩ <;> rfl
theorem GoodT_num (n : Int) : GoodT (.one 207 (.int .i64 n)) := .inl ⟨n, rfl⟩
theorem GoodT_bool (b : Bool) : GoodT (.one 128 (.bool b)) := .inr (.inl ⟨b, rfl⟩)
theorem q_two (c : Int) {a b : Thing} (ha : GoodT a) (hb : GoodT b) : (S.zoxb_R c a b).all (fun r => r.x1 = 0 → GoodT r.x0) := by
 unfold S.zoxb_R
 rcases ha with ⟨n, rfl⟩ | ⟨x, rfl⟩ | ⟨v, rfl, h1, h2⟩ <;> rcases hb with ⟨m, rfl⟩ | ⟨y, rfl⟩ | ⟨w, rfl, h3, h4⟩ <;>
  (try have h3' := Ne.symm h3) <;> (try have h4' := Ne.symm h4) <;>
  simp (config := { contextual := true }) [DT.all_br, DT.all_leaf, DT.all_fail, S.thingIs, S.thingV, Thing.isI, Thing.isB, Thing.isV, Thing.asI, Thing.asB, Thing.asV, xneI, xeqI, xnot, q_less, q_sum, GoodT_num, GoodT_bool, *]
theorem pile_sub {h : List Thing} {l k : Nat} (hk : k ≤ l) (hg : ∀ x ∈ h.take l, GoodT x) : ∀ x ∈ h.take k, GoodT x := by
 intro x hx
 refine hg x ?_
 have : h.take k = (h.take l).take k := by rw [List.take_take, Nat.min_eq_left hk]
 rw [this] at hx
 exact List.mem_of_mem_take hx
theorem pile_lay {h : List Thing} {l k : Nat} {t : Thing} (hk : k ≤ l) (hl : l ≤ h.length) (hg : ∀ x ∈ h.take l, GoodT x) (ht : GoodT t) : k + 1 ≤ (h.take k ++ [t]).length ∧ ∀ x ∈ (h.take k ++ [t]).take (k + 1), GoodT x := by
 have e : (h.take k ++ [t]).length = k + 1 := by rw [List.length_append, List.length_take, Nat.min_eq_left (by omega)]; rfl
 refine ⟨by omega, fun x hx => ?_⟩
 rw [List.take_of_length_le (by omega)] at hx
 rcases List.mem_append.1 hx with hx | hx
 ·exact pile_sub hk hg x hx
 ·have : x = t := by simpa using hx
  subst this; exact ht
theorem pile_len {h : List Thing} {l k : Nat} (hl : l ≤ h.length) : (sub h (0 + k) (0 + k + (l - k))).length = l - k := by simp only [sub, List.length_take, List.length_drop]; omega
theorem pile_get {h : List Thing} {l k j : Nat} (hl : l ≤ h.length) (hj : j < l - k) (hg : ∀ x ∈ h.take l, GoodT x) : GoodT ((sub h (0 + k) (0 + k + (l - k))).getD j (dflt ET.thing)) := by
 have e := pile_len (k := k) hl
 rw [getD_of _ _ _ (by omega)]
 refine hg _ ?_
 rw [List.mem_take_iff_getElem]
 refine ⟨k + j, by omega, ?_⟩
 simp [sub]
theorem q_cloneT {a : List (Ty .thing)} (hb : a.length ≤ 1048576) : S.zfst a = some ⟨a, a.length⟩ := by
 unfold S.zfst S.zfst_R
 have h2 : (a.length : Int) ≤ 1048576 := by omega
 simp [DT.run_br, DT.run_leaf, xdec, hb]
theorem q_cloneT_is {a : List (Ty .thing)} (hb : a.length ≤ 1048576) : S.zfst_is a = true := by unfold S.zfst_is; rw [q_cloneT hb]; rfl
theorem q_cloneT_o {a : List (Ty .thing)} (hb : a.length ≤ 1048576) : S.zfst_o a = ⟨a, a.length⟩ := by unfold S.zfst_o; rw [q_cloneT hb]; rfl
theorem q_two_is (c : Int) {a b : Thing} (ha : GoodT a) (hb : GoodT b) : S.zoxb_is c a b = true := DT.all_is (q_two c ha hb)
theorem q_two_o (c : Int) {a b : Thing} (ha : GoodT a) (hb : GoodT b) : (S.zoxb_o c a b).x1 = 0 → GoodT (S.zoxb_o c a b).x0 := DT.all_o (q_two c ha hb)
def PileI (n : Nat) (v : S.zn3l_2_V) : Prop := 0 ≤ v.t11_ ∧ v.t11_ ≤ n ∧ (v.h14_l : Int) ≤ v.t11_ ∧ v.h14_l ≤ v.h_28.length ∧ ∀ x ∈ v.h_28.take v.h14_l, GoodT x
def PileQ (j : Nat) (v : S.zn3l_2_V) : Prop := j ≤ 19 ∧ (j = 19 → v.h14_l ≤ v.h_28.length ∧ ∀ x ∈ v.h_28.take v.h14_l, GoodT x)
theorem PileQ_of {j : Nat} {v : S.zn3l_2_V} (h : j < 19) : PileQ j v := ⟨by omega, fun h2 => by omega⟩
theorem q_round (ops : List (Ty .op)) (ev : List (Ty .val)) (hb : ops.length ≤ 12) (ha : ∀ x ∈ ops, 0 ≤ x.arg) (v : S.zn3l_2_V) (hv : PileI ops.length v) :
    (S.zn3l_2_R ops ops.length ev false v).all (Stp (PileI ops.length) PileQ (fun v => ((ops.length : Int) - v.t11_).toNat) ((ops.length : Int) - v.t11_).toNat) := by
 obtain ⟨i, f, l, h⟩ := v
 obtain ⟨h0, h1, h2, h3, h4⟩ := hv
 dsimp only at h0 h1 h2 h3 h4
 have w2 : IntKind.i64.wrap ((l : Int) - 1) = l - 1 := e_wrap (by omega) (by omega)
 have w3 : IntKind.i64.wrap ((l : Int) - 2) = l - 2 := e_wrap (by omega) (by omega)
 unfold S.zn3l_2_R
 dsimp only
 refine ⟨fun g1 => ?_, fun _ => ⟨Nat.le_refl _, fun _ => ⟨h3, h4⟩⟩⟩
 simp only [xdec, decide_eq_true_eq] at g1
 have w1 : IntKind.i64.wrap (i + 1) = i + 1 := e_wrap (by omega) (by omega)
 have hm : ((ops.length : Int) - (i + 1)).toNat < ((ops.length : Int) - i).toNat := by omega
 simp only [xwrap, w1, w2, w3]
 have stay : PileI ops.length ⟨i + 1, f, l, h⟩ := ⟨by dsimp only; omega, by dsimp only; omega, by dsimp only; omega, h3, h4⟩
 have lay : ∀ (k : Nat) (b : Bool) (t : Thing), k ≤ l → GoodT t → PileI ops.length ⟨i + 1, b, k + 1, h.take k ++ [t]⟩ := fun k b t hk ht =>
  ⟨by dsimp only; omega, by dsimp only; omega, by dsimp only; omega, (pile_lay hk h3 h4 ht).1, (pile_lay hk h3 h4 ht).2⟩
 have less : ∀ (k : Nat) (b : Bool), k ≤ l → PileI ops.length ⟨i + 1, b, k, h⟩ := fun k b hk =>
  ⟨by dsimp only; omega, by dsimp only; omega, by dsimp only; omega, by dsimp only; omega, pile_sub hk h4⟩
 have y0 : ∀ t : Thing, decide (0 + 1 ≤ ((List.replicate 1 (dflt ET.thing)).set 0 t).length) = true := fun t => by simp
 have yl : decide (l ≤ h.length) = true := by simpa using h3
 have yb : decide (l + 1 ≤ 1048576) = true := by simp; omega
 refine ⟨fun _ => ?_, fun g => by simp [xdec, h0, g1] at g⟩
 refine ⟨fun _ => ?_, fun _ => ⟨fun _ => ?_, fun _ => ⟨fun _ => ?_, fun _ => ?_⟩⟩⟩
 ·refine ⟨fun _ => ⟨fun _ => ⟨fun _ => PileQ_of (by decide), fun _ => ⟨lay l _ _ (Nat.le_refl l) (q_of_o _ _ _), hm⟩⟩, fun g => ?_⟩, fun g => ?_⟩
  ·simp only [xdec, y0, yl, yb, Bool.and_self, Bool.true_eq_false] at g
  ·rw [q_of_is] at g; cases g
 ·refine ⟨fun _ => ⟨fun _ => PileQ_of (by decide), fun _ => ⟨stay, hm⟩⟩, fun g5 => ⟨fun g6 => ⟨fun _ => ⟨fun _ => ⟨fun _ => PileQ_of (by decide), fun _ => ⟨lay l _ _ (Nat.le_refl l) (q_of_o _ _ _), hm⟩⟩, fun g => ?_⟩, fun g => ?_⟩, fun g => ?_⟩⟩
  ·simp only [xdec, y0, yl, yb, Bool.and_self, Bool.true_eq_false] at g
  ·rw [q_of_is] at g; cases g
  ·have hi : i.toNat < ops.length := by omega
   have := ha (ops.getD i.toNat (dflt ET.op)) (by rw [getD_of _ _ _ hi]; exact List.getElem_mem hi)
   simp only [xdec, Bool.and_eq_false_iff, decide_eq_false_iff_not] at g g5
   omega
 ·refine ⟨fun g5 => ⟨fun _ => ⟨fun _ => PileQ_of (by decide), fun g => (by cases g)⟩, fun g => (by cases g)⟩, fun g5 => ?_⟩
  simp only [xdec, decide_eq_false_iff_not] at g5
  have hk : ((l : Int) - 1).toNat = l - 1 := by omega
  have hsl : (sub h (0 + ((l : Int) - 1).toNat) (0 + ((l : Int) - 1).toNat + (l - ((l : Int) - 1).toNat))).length = 1 := by rw [pile_len h3, hk]; omega
  have hcl := q_cloneT_is (a := sub h (0 + ((l : Int) - 1).toNat) (0 + ((l : Int) - 1).toNat + (l - ((l : Int) - 1).toNat))) (by rw [hsl]; decide)
  have hco := q_cloneT_o (a := sub h (0 + ((l : Int) - 1).toNat) (0 + ((l : Int) - 1).toNat + (l - ((l : Int) - 1).toNat))) (by rw [hsl]; decide)
  rw [hcl, hco]
  dsimp only
  rw [hsl]
  refine ⟨fun _ => ⟨fun _ => ⟨fun _ => ⟨fun g => (by cases g), fun _ => ⟨fun _ => ⟨fun _ => ⟨fun _ => ⟨fun _ => PileQ_of (by decide), fun g => (by cases g)⟩, fun _ => ⟨fun _ => ⟨fun _ => PileQ_of (by decide), fun _ => ⟨lay _ _ _ (by omega) (GoodT_bool _), hm⟩⟩, fun g => ?_⟩⟩, fun g => ?_⟩, fun g => ?_⟩⟩, fun g => ?_⟩, fun g => ?_⟩, fun g => ?_⟩
  ·simp [xdec] at g
   omega
  ·simp [xdec] at g
  ·simp [xdec] at g
  ·simp [xdec] at g
   omega
  ·simp [xdec] at g
   omega
  ·simp [xdec] at g
   omega
 ·refine ⟨fun g5 => ⟨fun _ => ⟨fun _ => PileQ_of (by decide), fun g => (by cases g)⟩, fun g => (by cases g)⟩, fun g5 => ?_⟩
  simp only [xdec, decide_eq_false_iff_not] at g5
  have hk : ((l : Int) - 2).toNat = l - 2 := by omega
  have hsl : (sub h (0 + ((l : Int) - 2).toNat) (0 + ((l : Int) - 2).toNat + (l - ((l : Int) - 2).toNat))).length = 2 := by rw [pile_len h3, hk]; omega
  have hcl := q_cloneT_is (a := sub h (0 + ((l : Int) - 2).toNat) (0 + ((l : Int) - 2).toNat + (l - ((l : Int) - 2).toNat))) (by rw [hsl]; decide)
  have hco := q_cloneT_o (a := sub h (0 + ((l : Int) - 2).toNat) (0 + ((l : Int) - 2).toNat + (l - ((l : Int) - 2).toNat))) (by rw [hsl]; decide)
  rw [hcl, hco]
  dsimp only
  rw [hsl]
  have t0 : GoodT ((sub h (0 + ((l : Int) - 2).toNat) (0 + ((l : Int) - 2).toNat + (l - ((l : Int) - 2).toNat))).getD (0 + Int.toNat 0) (dflt ET.thing)) := pile_get h3 (by rw [hk]; show 0 < _; omega) h4
  have t1 : GoodT ((sub h (0 + ((l : Int) - 2).toNat) (0 + ((l : Int) - 2).toNat + (l - ((l : Int) - 2).toNat))).getD (0 + Int.toNat 1) (dflt ET.thing)) := pile_get h3 (by rw [hk]; show 1 < _; omega) h4
  have z1 := q_two_is (ops.getD i.toNat (dflt ET.op)).code t0 t1
  have z2 := q_two_o (ops.getD i.toNat (dflt ET.op)).code t0 t1
  rw [z1]
  generalize S.zoxb_o (ops.getD i.toNat (dflt ET.op)).code _ _ = w at z2 ⊢
  refine ⟨fun _ => ⟨fun _ => ⟨fun _ => ⟨fun g => (by cases g), fun _ => ⟨fun _ => ⟨fun _ => ⟨fun _ => ⟨fun _ => ⟨fun _ => ⟨fun g => (by cases g), fun _ => ⟨fun g6 => ⟨fun _ => ⟨fun _ => PileQ_of (by decide), fun _ => ⟨lay _ _ _ (by omega) (z2 (by simpa [xeqI] using g6)), hm⟩⟩, fun g => ?_⟩, fun g6 => ⟨fun _ => PileQ_of (by decide), fun g => ?_⟩⟩⟩, fun g => (by cases g)⟩, fun g => ?_⟩, fun g => ?_⟩, fun g => ?_⟩, fun g => ?_⟩⟩, fun g => ?_⟩, fun g => ?_⟩, fun g => ?_⟩
  ·simp [xdec] at g
   omega
  ·simp only [e_xneI, e_xeqI, decide_eq_false_iff_not] at g g6
   exact absurd g6 (by simpa using g)
  ·simp [xdec] at g
  ·simp [xdec] at g
  ·simp [xdec] at g
  ·simp [xdec] at g
  ·simp [xdec] at g
   omega
  ·simp [xdec] at g
   omega
  ·simp [xdec] at g
   omega
theorem q_eval (n : ByteArray) (a : Int) (ev : List (Ty .val)) (ops : List (Ty .op)) : S.zn3l_is n a ev ops = true := by
 refine DT.all_is (P := fun _ => True) ?_
 unfold S.zn3l_R
 dsimp only
 have hm := DT.all_o (q_opMay ops)
 rw [q_opMay_is, q_evMay_is]
 refine ⟨fun _ => ⟨fun _ => trivial, fun g1 => ⟨fun _ => ⟨fun _ => trivial, fun _ => ?_⟩, fun g => (by cases g)⟩⟩, fun g => (by cases g)⟩
 have g2 : (S.zk66_o ops).x0 = true := by simpa [xnot] using g1
 obtain ⟨hb, ha⟩ := hm g2
 obtain ⟨j, v', h1, h2, h3⟩ := Lp_all (R := S.zn3l_2_R ops ops.length ev false) (r := S.zn3l_2_r ops ops.length ev false) (fun v => rfl) (PileI ops.length) PileQ (fun v => ((ops.length : Int) - v.t11_).toNat) (q_round ops ev hb ha) ⟨0, true, 0, []⟩ ⟨Int.le_refl _, by simp, by simp, by simp, by simp⟩
 simp only [S.zn3l_2_j, S.zn3l_2_v, Lp_j_of h1, Lp_v_of h1]
 by_cases hj : j = 19
 ·subst hj
  obtain ⟨h4, h5⟩ := h3 rfl
  simp only [DT.all_br, DT.all_leaf, DT.all_fail, xdec, e_xneI]
  have hd : v'.h14_l = 1 → S.thingIs (v'.h_28.getD (0 + Int.toNat 0) (dflt ET.thing)) = true := by
   intro h6
   have : 0 < v'.h_28.length := by omega
   rw [getD_of _ _ _ (by exact this)]
   refine GoodT_is (h5 _ ?_)
   rw [List.mem_take_iff_getElem]
   exact ⟨0, by omega, rfl⟩
  by_cases h6 : v'.h14_l = 1
  ·simp [h6, hd h6]
   exact ⟨fun _ => by simpa using hd h6, fun hn => by rw [hn] at h4; simp at h4; omega⟩
  ·have h7 : ¬ ((v'.h14_l : Int) = 1) := by omega
   simp [h7]
 ·have : j = 0 ∨ j = 1 ∨ j = 2 ∨ j = 3 ∨ j = 4 ∨ j = 5 ∨ j = 6 ∨ j = 7 ∨ j = 8 ∨ j = 9 ∨ j = 10 ∨ j = 11 ∨ j = 12 ∨ j = 13 ∨ j = 14 ∨ j = 15 ∨ j = 16 ∨ j = 17 ∨ j = 18 := by omega
  rcases this with rfl | rfl | rfl | rfl | rfl | rfl | rfl | rfl | rfl | rfl | rfl | rfl | rfl | rfl | rfl | rfl | rfl | rfl | rfl <;> simp [DT.all_br, DT.all_leaf, DT.all_fail]
end Go.Eng
