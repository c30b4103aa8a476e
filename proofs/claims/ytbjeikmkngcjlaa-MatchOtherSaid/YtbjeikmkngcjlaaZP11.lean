/- What a store is behind an event, in plain words. -/
import Derived.Test.YtbjeikmkngcjlaaZP9
set_option linter.unusedVariables false
set_option linter.unusedSimpArgs false
namespace Go.Eng
open Go Go.Eng
def outF (p : StoreL × List Mat) : S.zxf7_T := ⟨p.1.q.steps, p.1.q.within, p.1.q.agg, p.1.q.aggStep, p.1.q.aggF, p.1.r, p.1.over, p.2⟩
def FeedAt (q : Query) (e : Evt) (at' : Int) (l : List Run) (i : Nat) (v : S.zxf7_8_V) : Prop :=
 v.t41_ = i ∧ v.t10_l = (leftOf HB q e (l.take i)).length ∧ v.t10_l ≤ v.h_34.length ∧ v.h_34.take v.t10_l = leftOf HB q e (l.take i) ∧
  v.h18_l = (doneOf HB q e at' (l.take i)).length ∧ v.h18_l ≤ v.h_33.length ∧ v.h_33.take v.h18_l = doneOf HB q e at' (l.take i)
theorem leftOf_snoc (q : Query) (e : Evt) (l : List Run) (i : Nat) (h : i < l.length) : leftOf HB q e (l.take (i + 1)) = leftOf HB q e (l.take i) ++ (if (nextL HB q l[i] e).2 = 0 then [(nextL HB q l[i] e).1] else []) := by
 unfold leftOf
 rw [List.take_succ_eq_append_getElem h, List.filterMap_append]
 congr 1
 by_cases c : (nextL HB q l[i] e).2 = 0
 ·simp [c]
 ·simp [c]
theorem doneOf_snoc (q : Query) (e : Evt) (at' : Int) (l : List Run) (i : Nat) (h : i < l.length) : doneOf HB q e at' (l.take (i + 1)) = doneOf HB q e at' (l.take i) ++ (if (nextL HB q l[i] e).2 = 2 then [doneM at' (nextL HB q l[i] e).1] else []) := by
 unfold doneOf
 rw [List.take_succ_eq_append_getElem h, List.filterMap_append]
 congr 1
 by_cases c : (nextL HB q l[i] e).2 = 2
 ·simp [c]
 ·simp [c]
theorem feed_round (q : Query) (e : Evt) (at' : Int) (l : List (Ty .run)) (hl : q.steps.length ≤ 1048576) (hb : l.length ≤ 1048575) (i : Nat) (hi : i < l.length) (v : S.zxf7_8_V) (hv : FeedAt q e at' l i v) :
    ∃ v', S.zxf7_8_r l.length l.length q.steps q.within q.agg q.aggStep q.aggF e.name e.at_ e.v at' l v = some (none, v') ∧ FeedAt q e at' l (i + 1) v' := by
 obtain ⟨f, k, t, g, m, a, b⟩ := v
 obtain ⟨h1, h2, h3, h4, h5, h6, h7⟩ := hv
 dsimp only at h1 h2 h3 h4 h5 h6 h7
 subst h1
 have n1 := q_Next_is q l[i] e hl
 have n2 := q_Next_o q l[i] e hl
 have z1 : ((i : Int) < (l.length : Int)) := by omega
 have z2 : (0 : Int) ≤ (i : Int) := by omega
 have z3 : l.getD (0 + (i : Int).toNat) (dflt ET.run) = l[i] := by
  have : 0 + (i : Int).toNat = i := by omega
  rw [this, getD_of _ _ _ hi]
 have z4 : (i : Int).toNat < l.length := by omega
 have ll := leftOf_len HB q e (l.take i)
 have ld := doneOf_len HB q e at' (l.take i)
 have lt : (l.take i).length ≤ i := by rw [List.length_take]; omega
 have z5 : k + 1 ≤ 1048576 := by omega
 have z6 : m + 1 ≤ 1048576 := by omega
 have s1 := leftOf_snoc q e l i hi
 have s2 := doneOf_snoc q e at' l i hi
 unfold S.zxf7_8_r S.zxf7_8_R
 dsimp only
 rw [z3, n1, n2]
 simp only [DT.run_br, DT.run_leaf, DT.run_fail, xdec, xwrap, z1, z2, z4, h3, h6, z5, z6, e_wrap1 (show i ≤ 1048576 by omega), decide_true, Bool.and_self, cond_true, List.length_set, List.length_replicate, Nat.zero_add, Nat.le_refl, outN, e_xeqI]
 by_cases c0 : (nextL HB q l[i] e).2 = 0
 ·rw [if_pos c0] at s1
  rw [if_neg (by omega)] at s2
  simp only [c0, decide_true, cond_true]
  refine ⟨_, rfl, ?_⟩
  refine ⟨rfl, ?_, ?_, ?_, ?_, h6, ?_⟩
  ·show k + 1 = _
   rw [s1, h2, List.length_append]; rfl
  ·show k + 1 ≤ (List.take k b ++ _).length
   rw [List.length_append, List.length_take, Nat.min_eq_left h3]; exact Nat.le_refl _
  ·show (List.take k b ++ _).take (k + 1) = _
   rw [s1, ← h4]
   exact List.take_of_length_le (by rw [List.length_append, List.length_take, Nat.min_eq_left h3]; exact Nat.le_refl _)
  ·show m = _; rw [s2, List.append_nil]; exact h5
  ·show a.take m = _; rw [s2, List.append_nil]; exact h7
 rw [if_neg c0, List.append_nil] at s1
 by_cases c2 : (nextL HB q l[i] e).2 = 2
 ·rw [if_pos c2] at s2
  simp only [c2, decide_true, cond_true, cond_false, decide_eq_false (show ¬ (2 : Int) = 0 by decide)]
  refine ⟨_, rfl, ?_⟩
  refine ⟨rfl, ?_, h3, ?_, ?_, ?_, ?_⟩
  ·show k = _; rw [s1]; exact h2
  ·show b.take k = _; rw [s1]; exact h4
  ·show m + 1 = _
   rw [s2, h5, List.length_append]; rfl
  ·show m + 1 ≤ (List.take m a ++ _).length
   rw [List.length_append, List.length_take, Nat.min_eq_left h6]; exact Nat.le_refl _
  ·show (List.take m a ++ _).take (m + 1) = _
   rw [s2, ← h7]
   exact List.take_of_length_le (by rw [List.length_append, List.length_take, Nat.min_eq_left h6]; exact Nat.le_refl _)
 rw [if_neg c2, List.append_nil] at s2
 simp only [c0, c2, decide_false, cond_false]
 refine ⟨_, rfl, ?_⟩
 refine ⟨rfl, ?_, h3, ?_, ?_, h6, ?_⟩
 ·show k = _; rw [s1]; exact h2
 ·show b.take k = _; rw [s1]; exact h4
 ·show m = _; rw [s2]; exact h5
 ·show a.take m = _; rw [s2]; exact h7
theorem feed_loop (q : Query) (e : Evt) (at' : Int) (l : List (Ty .run)) (hl : q.steps.length ≤ 1048576) (hb : l.length ≤ 1048575) (v : S.zxf7_8_V) (hv : FeedAt q e at' l 0 v) :
    ∃ v', Lp (S.zxf7_8_r l.length l.length q.steps q.within q.agg q.aggStep q.aggF e.name e.at_ e.v at' l) v = some (0, v') ∧ FeedAt q e at' l l.length v' := by
 have key : ∀ k i v, i + k = l.length → FeedAt q e at' l i v → ∃ v', Lp (S.zxf7_8_r l.length l.length q.steps q.within q.agg q.aggStep q.aggF e.name e.at_ e.v at' l) v = some (0, v') ∧ FeedAt q e at' l l.length v' := by
  intro k
  induction k with
  | zero =>
   intro i v hi hv
   have : i = l.length := by omega
   subst this
   refine ⟨v, Lp_exit ?_, hv⟩
   have h1 := hv.1
   unfold S.zxf7_8_r S.zxf7_8_R
   dsimp only
   have : ¬ (v.t41_ < (l.length : Int)) := by omega
   simp only [DT.run_br, DT.run_leaf, xdec, this, decide_false, cond_false]
  | succ k ih =>
   intro i v hi hv
   obtain ⟨v1, h1, h2⟩ := feed_round q e at' l hl hb i (by omega) v hv
   obtain ⟨v2, h3, h4⟩ := ih (i + 1) v1 (by omega) h2
   exact ⟨v2, by rw [Lp_cont h1, h3], h4⟩
 exact key l.length 0 v (by omega) hv
theorem sub_take' {α : Type} (l : List α) (n : Nat) : sub l 0 n = l.take n := by simp [sub]
theorem sub_take {α : Type} (l : List α) (n : Nat) : sub l 0 (0 + n) = l.take n := by simp [sub]
theorem q_Feed (s : StoreL) (e : Evt) (at' : Int) (hl : s.q.steps.length ≤ 1048576) (hr : s.r.length ≤ 1048576) :
    S.zxf7 s.q.steps s.q.within s.q.agg s.q.aggStep s.q.aggF s.r s.over e.name e.at_ e.v at' = some (outF (feedL HB s e at')) := by
 have m1 := q_mMay_is s hl
 have m2 := q_mMay_o s hl
 have b1 := q_Begin_is s.q e at' hl
 have b2 := q_Begin_o s.q e at' hl
 have z0 : sub s.r 0 (0 + s.r.length) = s.r := by rw [sub_take, List.take_length]
 unfold S.zxf7 S.zxf7_R
 dsimp only
 rw [q_cloneR_is hr, q_cloneR_o hr]
 dsimp only
 rw [z0, m1, m2, q_cloneR_is hr, q_cloneR_o hr, b1, b2]
 dsimp only
 by_cases c1 : mayS s
 case neg =>
  rw [feedL_over (.inl c1)]
  simp [DT.run_br, DT.run_leaf, xdec, xnot, c1, outF]
 by_cases c2 : s.over = -1
 case neg =>
  rw [feedL_over (.inr c2)]
  simp [DT.run_br, DT.run_leaf, xdec, xnot, c1, c2, outF, e_xneI]
 have hlen := c1.1
 obtain ⟨v', h1, h2, h3, h4, h5, h6, h7, h8⟩ := feed_loop s.q e at' s.r hl (by omega) ⟨decide ((s.r.length : Int) = Int.ofNat 0), 0, 0, true, 0, [], s.r⟩ ⟨rfl, rfl, Nat.zero_le _, rfl, rfl, Nat.le_refl _, rfl⟩
 rw [List.take_length] at h3 h5 h6 h8
 have ll := leftOf_len HB s.q e s.r
 have ld := doneOf_len HB s.q e at' s.r
 have y1 : v'.h18_l + 1 ≤ 1048576 := by omega
 have y2 : v'.t10_l + 1 ≤ 1048576 := by omega
 have j0 : ∀ f8 : Bool, f8 = decide ((s.r.length : Int) = Int.ofNat 0) → S.zxf7_8_j s.r.length s.r.length s.q.steps s.q.within s.q.agg s.q.aggStep s.q.aggF e.name e.at_ e.v at' s.r ⟨f8, 0, 0, true, 0, [], s.r⟩ 0 = true := fun f8 hf => by
  subst hf; unfold S.zxf7_8_j; rw [Lp_j_of h1]; rfl
 have jv : ∀ f8 : Bool, f8 = decide ((s.r.length : Int) = Int.ofNat 0) → S.zxf7_8_v s.r.length s.r.length s.q.steps s.q.within s.q.agg s.q.aggStep s.q.aggF e.name e.at_ e.v at' s.r ⟨f8, 0, 0, true, 0, [], s.r⟩ = v' := fun f8 hf => by
  subst hf; unfold S.zxf7_8_v; rw [Lp_v_of h1]
 rw [j0 _ rfl, jv _ rfl]
 unfold feedL
 rw [if_neg (show ¬ (¬ mayS s ∨ s.over ≠ -1) by intro h; rcases h with h | h; exact h c1; exact h c2)]
 have w1 : ((v'.h_33.take v'.h18_l).length) = v'.h18_l := by rw [List.length_take, Nat.min_eq_left h7]
 have w2 : ((v'.h_34.take v'.t10_l).length) = v'.t10_l := by rw [List.length_take, Nat.min_eq_left h4]
 have w3 : ∀ x : Mat, sub (v'.h_33.take v'.h18_l ++ [x]) 0 (v'.h18_l + 1) = doneOf HB s.q e at' s.r ++ [x] := fun x => by
  rw [sub_take', h8]; exact List.take_of_length_le (by rw [List.length_append, ← h6]; exact Nat.le_refl _)
 have w4 : ∀ x : Run, sub (v'.h_34.take v'.t10_l ++ [x]) 0 (v'.t10_l + 1) = leftOf HB s.q e s.r ++ [x] := fun x => by
  rw [sub_take', h5]; exact List.take_of_length_le (by rw [List.length_append, ← h3]; exact Nat.le_refl _)
 have w5 : sub v'.h_33 0 v'.h18_l = doneOf HB s.q e at' s.r := by rw [sub_take', h8]
 have w6 : sub v'.h_34 0 v'.t10_l = leftOf HB s.q e s.r := by rw [sub_take', h5]
 have lenA : ∀ x : Mat, (v'.h_33.take v'.h18_l ++ [x]).length = v'.h18_l + 1 := fun x => by rw [List.length_append, w1]; rfl
 have lenB : ∀ x : Run, (v'.h_34.take v'.t10_l ++ [x]).length = v'.t10_l + 1 := fun x => by rw [List.length_append, w2]; rfl
 have c3 : (leftOf HB s.q e s.r).length = 5 ↔ ((v'.t10_l : Nat) : Int) = 5 := by omega
 have cm : max at' 0 = if 0 > at' then 0 else at' := by
  by_cases h : 0 > at'
  ·rw [if_pos h]; omega
  ·rw [if_neg h]; omega
 simp only [DT.run_br, DT.run_leaf, DT.run_fail, xdec, xnot, c1, c2, outB, e_xneI, e_xeqI, w3, w4, w5, w6, lenA, lenB, h4, h7, y1, y2, Nat.zero_add, Nat.le_refl, Int.le_refl, List.length_set, List.length_replicate, decide_true, decide_false, Bool.not_true, Bool.and_self, Bool.and_true, ne_eq, not_true, cond_true, cond_false]
 by_cases d1 : (beginL HB s.q e at').2 = 2
 ·rw [if_pos d1]
  simp [d1, outF, doneM]
 rw [if_neg d1]
 by_cases d2 : (beginL HB s.q e at').2 = 0
 ·by_cases d3 : (leftOf HB s.q e s.r).length = 5
  ·rw [if_pos (show (beginL HB s.q e at').2 = 0 ∧ (leftOf HB s.q e s.r).length = 5 from ⟨d2, d3⟩)]
   simp [d2, c3.1 d3, outF, cm]
  ·have d3' : ¬ ((v'.t10_l : Nat) : Int) = 5 := fun h => d3 (c3.2 h)
   rw [if_neg (show ¬ ((beginL HB s.q e at').2 = 0 ∧ (leftOf HB s.q e s.r).length = 5) from fun h => d3 h.2), if_pos d2]
   simp [d2, d3', outF]
 ·rw [if_neg (show ¬ ((beginL HB s.q e at').2 = 0 ∧ (leftOf HB s.q e s.r).length = 5) from fun h => d2 h.1), if_neg d2]
  simp [d1, d2, outF]
theorem q_Feed_is (s : StoreL) (e : Evt) (at' : Int) (hl : s.q.steps.length ≤ 1048576) (hr : s.r.length ≤ 1048576) :
    S.zxf7_is s.q.steps s.q.within s.q.agg s.q.aggStep s.q.aggF s.r s.over e.name e.at_ e.v at' = true := by simp [S.zxf7_is, q_Feed s e at' hl hr]
theorem q_Feed_o (s : StoreL) (e : Evt) (at' : Int) (hl : s.q.steps.length ≤ 1048576) (hr : s.r.length ≤ 1048576) :
    S.zxf7_o s.q.steps s.q.within s.q.agg s.q.aggStep s.q.aggF s.r s.over e.name e.at_ e.v at' = outF (feedL HB s e at') := by simp [S.zxf7_o, q_Feed s e at' hl hr]
end Go.Eng
