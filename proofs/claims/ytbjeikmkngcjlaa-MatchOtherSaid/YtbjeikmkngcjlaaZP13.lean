/- A store behind events; the chapter's example. -/
import Derived.Test.YtbjeikmkngcjlaaZG8
import Derived.Test.YtbjeikmkngcjlaaZP12
set_option linter.unusedVariables false
set_option linter.unusedSimpArgs false
namespace Go.Eng
open Go Go.Eng
theorem feedL_rlen (H : HH) (s : StoreL) (e : Evt) (at' : Int) (n : Nat) (hn : 6 ≤ n) (h : s.r.length ≤ n) : (feedL H s e at').1.r.length ≤ n := by
 by_cases c : ¬ mayS s ∨ s.over ≠ -1
 ·rw [feedL_over c]; exact h
 ·have h1 : s.r.length ≤ 5 := by
    by_cases h2 : mayS s
    ·exact h2.1
    ·exact absurd (.inl h2) c
  have h2 := leftOf_len H s.q e s.r
  unfold feedL; rw [if_neg c]
  repeat' split
  all_goals (try rw [List.length_append]); simp only [List.length_cons, List.length_nil]; omega
theorem fedL_rlen (H : HH) : ∀ (l : List Evt) (s : StoreL) (i : Int) (n : Nat), 6 ≤ n → s.r.length ≤ n → (fedL H s l i).1.r.length ≤ n
 | [], s, i, n, _, h => h
 | e :: l, s, i, n, hn, h => fedL_rlen H l _ _ n hn (feedL_rlen H s e i n hn h)
structure FedAt (s : StoreL) (l : List Evt) (at' : Int) (i : Nat) (v : S.zhdz_3_V) : Prop where
 n : v.t8_ = (fedL HB s (l.take i) at').2
 ix : v.t9_ = i
 st : v.h0_ = (fedL HB s (l.take i) at').1.q.steps
 wi : v.h_0_1 = (fedL HB s (l.take i) at').1.q.within
 ag : v.h_0_2 = (fedL HB s (l.take i) at').1.q.agg
 as' : v.h_0_3 = (fedL HB s (l.take i) at').1.q.aggStep
 af : v.h_0_4 = (fedL HB s (l.take i) at').1.q.aggF
 r : v.h_0_5 = (fedL HB s (l.take i) at').1.r
 ov : v.h_0_6 = (fedL HB s (l.take i) at').1.over
def outFed (p : StoreL × Nat) : S.zhdz_T := ⟨p.1.q.steps, p.1.q.within, p.1.q.agg, p.1.q.aggStep, p.1.q.aggF, p.1.r, p.1.over, p.2⟩
theorem fed_round (s : StoreL) (l : List (Ty .evt)) (at' : Int) (hl : s.q.steps.length ≤ 1048576) (hr : s.r.length ≤ 1048576) (hb : l.length ≤ 1000) (ha : 0 ≤ at' ∧ at' ≤ 1000000) (i : Nat) (hi : i < l.length) (v : S.zhdz_3_V) (hv : FedAt s l at' i v) :
    ∃ v', S.zhdz_3_r l at' v = some (none, v') ∧ FedAt s l at' (i + 1) v' := by
 have z1 : ((i : Int) < (l.length : Int)) := by omega
 have z2 : (0 : Int) ≤ (i : Int) := by omega
 have lt : (l.take i).length = i := by rw [List.length_take]; omega
 have sn : fedL HB s (l.take (i + 1)) at' = ((feedL HB (fedL HB s (l.take i) at').1 l[i] (at' + i)).1, (fedL HB s (l.take i) at').2 + (feedL HB (fedL HB s (l.take i) at').1 l[i] (at' + i)).2.length) := by
  rw [List.take_succ_eq_append_getElem hi, fedL_snoc, lt]
 have hq := fedL_q HB (l.take i) s at'
 have hn := fedL_len HB (l.take i) s at'
 have h6 := feedL_len HB (fedL HB s (l.take i) at').1 l[i] (at' + i)
 have hl' : (fedL HB s (l.take i) at').1.q.steps.length ≤ 1048576 := by rw [hq]; exact hl
 have hr' := fedL_rlen HB (l.take i) s at' 1048576 (by decide) hr
 have f1 := q_Feed_is (fedL HB s (l.take i) at').1 l[i] (at' + i) hl' hr'
 have f2 := q_Feed_o (fedL HB s (l.take i) at').1 l[i] (at' + i) hl' hr'
 have w1 : IntKind.i64.wrap (at' + (i : Int)) = at' + i := e_wrap (by omega) (by omega)
 have w2 : IntKind.i64.wrap (((fedL HB s (l.take i) at').2 : Int) + ((feedL HB (fedL HB s (l.take i) at').1 l[i] (at' + i)).2.length : Int)) = (((fedL HB s (l.take i) at').2 + (feedL HB (fedL HB s (l.take i) at').1 l[i] (at' + i)).2.length : Nat) : Int) := by
  rw [e_wrap (by omega) (by omega)]; omega
 unfold S.zhdz_3_r S.zhdz_3_R
 dsimp only
 rw [hv.ix, hv.n, hv.st, hv.wi, hv.ag, hv.as', hv.af, hv.r, hv.ov]
 rw [Int.toNat_natCast, getD_of l i _ hi]
 simp only [xwrap, w1, DT.run_br, DT.run_leaf, DT.run_fail, xdec, z1, z2, decide_true, Bool.and_self, cond_true, f1, f2, outF, w2, e_wrap1 (show i ≤ 1048576 by omega)]
 refine ⟨_, rfl, ?_⟩
 exact ⟨by rw [sn], rfl, by rw [sn], by rw [sn], by rw [sn], by rw [sn], by rw [sn], by rw [sn], by rw [sn]⟩
theorem q_fed (n0 : Option Bool) (f0 : Bool) (n5 : Option Bool) (f5 : Bool) (s : StoreL) (l : List (Ty .evt)) (at' : Int) (hl : s.q.steps.length ≤ 1048576) (hr : s.r.length ≤ 1048576) (hb : l.length ≤ 1000) (ha : 0 ≤ at' ∧ at' ≤ 1000000) :
    S.zhdz n0 f0 s.q.steps s.q.within s.q.agg s.q.aggStep s.q.aggF n5 f5 s.r s.over l at' = some (outFed (fedL HB s l at')) := by
 have key : ∀ k i v, i + k = l.length → FedAt s l at' i v → ∃ v', Lp (S.zhdz_3_r l at') v = some (0, v') ∧ FedAt s l at' l.length v' := by
  intro k
  induction k with
  | zero =>
   intro i v hi hv
   have : i = l.length := by omega
   subst this
   refine ⟨v, Lp_exit ?_, hv⟩
   have h1 := hv.ix
   unfold S.zhdz_3_r S.zhdz_3_R
   dsimp only
   have : ¬ (v.t9_ < (l.length : Int)) := by omega
   simp only [DT.run_br, DT.run_leaf, xdec, this, decide_false, cond_false]
  | succ k ih =>
   intro i v hi hv
   obtain ⟨v1, h1, h2⟩ := fed_round s l at' hl hr hb ha i (by omega) v hv
   obtain ⟨v2, h3, h4⟩ := ih (i + 1) v1 (by omega) h2
   exact ⟨v2, by rw [Lp_cont h1, h3], h4⟩
 obtain ⟨v', h1, h2⟩ := key l.length 0 ⟨0, 0, n0, f0, s.q.steps, s.q.within, s.q.agg, s.q.aggStep, s.q.aggF, n5, f5, s.r, s.over⟩ (by omega) ⟨rfl, rfl, rfl, rfl, rfl, rfl, rfl, rfl, rfl⟩
 unfold S.zhdz S.zhdz_R
 dsimp only
 simp only [DT.run_br, DT.run_leaf, S.zhdz_3_j, S.zhdz_3_v, Lp_j_of h1, Lp_v_of h1]
 rw [h2.n, h2.st, h2.wi, h2.ag, h2.as', h2.af, h2.r, h2.ov, List.take_length]
 rfl
theorem q_fed_is (n0 : Option Bool) (f0 : Bool) (n5 : Option Bool) (f5 : Bool) (s : StoreL) (l : List (Ty .evt)) (at' : Int) (hl : s.q.steps.length ≤ 1048576) (hr : s.r.length ≤ 1048576) (hb : l.length ≤ 1000) (ha : 0 ≤ at' ∧ at' ≤ 1000000) :
    S.zhdz_is n0 f0 s.q.steps s.q.within s.q.agg s.q.aggStep s.q.aggF n5 f5 s.r s.over l at' = true := by simp [S.zhdz_is, q_fed n0 f0 n5 f5 s l at' hl hr hb ha]
theorem q_fed_o (n0 : Option Bool) (f0 : Bool) (n5 : Option Bool) (f5 : Bool) (s : StoreL) (l : List (Ty .evt)) (at' : Int) (hl : s.q.steps.length ≤ 1048576) (hr : s.r.length ≤ 1048576) (hb : l.length ≤ 1000) (ha : 0 ≤ at' ∧ at' ≤ 1000000) :
    S.zhdz_o n0 f0 s.q.steps s.q.within s.q.agg s.q.aggStep s.q.aggF n5 f5 s.r s.over l at' = outFed (fedL HB s l at') := by simp [S.zhdz_o, q_fed n0 f0 n5 f5 s l at' hl hr hb ha]
def newS (q : Query) : StoreL := ⟨q, [], -1⟩
theorem q_New_o (q : Query) : S.zpf4_o q.steps q.within q.agg q.aggStep q.aggF = ⟨(newS q).q.steps, (newS q).q.within, (newS q).q.agg, (newS q).q.aggStep, (newS q).q.aggF, (newS q).r, (newS q).over⟩ := rfl
theorem feed_go {H : HH} {s : StoreL} {e : Evt} {at' : Int} (hs : mayS s) (ho : s.over = -1) (hb : (beginL H s.q e at').2 = 0) (h5 : (leftOf H s.q e s.r).length ≠ 5) :
    feedL H s e at' = (⟨s.q, leftOf H s.q e s.r ++ [(beginL H s.q e at').1], s.over⟩, doneOf H s.q e at' s.r) := by
 unfold feedL
 rw [if_neg (show ¬ (¬ mayS s ∨ s.over ≠ -1) by intro h; rcases h with h | h; exact h hs; exact h ho), if_neg (by omega), if_neg (fun h => h5 h.2), if_pos hb]
theorem feed_none {H : HH} {s : StoreL} {e : Evt} {at' : Int} (hs : mayS s) (ho : s.over = -1) (hb : (beginL H s.q e at').2 = 1) :
    feedL H s e at' = (⟨s.q, leftOf H s.q e s.r, s.over⟩, doneOf H s.q e at' s.r) := by
 unfold feedL
 rw [if_neg (show ¬ (¬ mayS s ∨ s.over ≠ -1) by intro h; rcases h with h | h; exact h hs; exact h ho), if_neg (by omega), if_neg (fun h => by omega), if_neg (by omega)]
def rA (i : Int) : Run := ⟨i, 0, 0, 1, 1, 1, false⟩
theorem ms0 : mayS (newS (qTwo 5)) := ⟨by decide, fun r hr => (by cases hr), .inl rfl⟩
theorem ms1 : mayS ⟨qTwo 5, [rA 0], -1⟩ := by
 refine ⟨by decide, fun r hr => ?_, .inl rfl⟩
 have : r = rA 0 := by simpa using hr
 subst this
 exact may_two 5 0 0
theorem ms2 : mayS ⟨qTwo 5, [rA 0, rA 1], -1⟩ := by
 refine ⟨by decide, fun r hr => ?_, .inl rfl⟩
 have : r = rA 0 ∨ r = rA 1 := by simpa using hr
 rcases this with rfl | rfl <;> exact may_two 5 _ 0
theorem awake_1 : feedL HB (newS (qTwo 5)) ⟨bA, 0, []⟩ 0 = (⟨qTwo 5, [rA 0], -1⟩, []) := by
 have hb := begin_two HB_Plain 5 0 0
 rw [feed_go ms0 rfl (by show (beginL HB (qTwo 5) _ 0).2 = 0; rw [hb]) (by decide)]
 show (StoreL.mk (qTwo 5) (leftOf HB (qTwo 5) _ [] ++ [(beginL HB (qTwo 5) _ 0).1]) (-1), doneOf HB (qTwo 5) _ 0 []) = _
 rw [hb]; rfl
theorem awake_2 : feedL HB ⟨qTwo 5, [rA 0], -1⟩ ⟨bA, 0, []⟩ 1 = (⟨qTwo 5, [rA 0, rA 1], -1⟩, []) := by
 have hb := begin_two HB_Plain 5 0 1
 have hn : nextL HB (qTwo 5) (rA 0) ⟨bA, 0, []⟩ = (rA 0, 0) := next_two_a HB_Plain (by decide) (by decide)
 have hL : leftOf HB (qTwo 5) ⟨bA, 0, []⟩ [rA 0] = [rA 0] := by unfold leftOf; simp [hn]
 have hD : doneOf HB (qTwo 5) ⟨bA, 0, []⟩ 1 [rA 0] = [] := by unfold doneOf; simp [hn]
 rw [feed_go ms1 rfl (by show (beginL HB (qTwo 5) _ 1).2 = 0; rw [hb]) (by show (leftOf HB (qTwo 5) ⟨bA, 0, []⟩ [rA 0]).length ≠ 5; rw [hL]; decide)]
 show (StoreL.mk (qTwo 5) (leftOf HB (qTwo 5) _ [rA 0] ++ [(beginL HB (qTwo 5) _ 1).1]) (-1), doneOf HB (qTwo 5) _ 1 [rA 0]) = _
 rw [hb, hL, hD]; rfl
theorem awake_3 : feedL HB ⟨qTwo 5, [rA 0, rA 1], -1⟩ ⟨bB, 0, []⟩ 2 = (⟨qTwo 5, [], -1⟩, [⟨0, 2, 1, false⟩, ⟨1, 2, 1, false⟩]) := by
 have hb := begin_two_b HB_Plain 5 0 2
 have hn : ∀ i, nextL HB (qTwo 5) (rA i) ⟨bB, 0, []⟩ = (⟨i, 0, 1, 1, 1, 1, false⟩, 2) := fun i => next_two_b HB_Plain (by decide) (by show (decide ((5 : Int) < 0) || decide (u64 (u64 0 - u64 0) > u64 5)) = false; decide)
 have hL : leftOf HB (qTwo 5) ⟨bB, 0, []⟩ [rA 0, rA 1] = [] := by unfold leftOf; simp [hn]
 have hD : doneOf HB (qTwo 5) ⟨bB, 0, []⟩ 2 [rA 0, rA 1] = [⟨0, 2, 1, false⟩, ⟨1, 2, 1, false⟩] := by unfold doneOf; simp [hn, doneM]
 rw [feed_none ms2 rfl (by show (beginL HB (qTwo 5) _ 2).2 = 1; rw [hb])]
 show (StoreL.mk (qTwo 5) (leftOf HB (qTwo 5) _ [rA 0, rA 1]) (-1), doneOf HB (qTwo 5) _ 2 [rA 0, rA 1]) = _
 rw [hL, hD]
theorem wf_two : wfL wfStep (qTwo 5).steps := by
 have h1 : wfL wfOpn [] := ⟨Nat.zero_le _, by intro x hx; cases hx⟩
 refine ⟨by show 2 ≤ maxLen; decide, fun x hx => ?_⟩
 have : x = stA ∨ x = stB := by simpa [qTwo] using hx
 rcases this with rfl | rfl <;> exact ⟨by show _ ≤ maxLen; decide, h1, ⟨by decide, by decide⟩, ⟨by decide, by decide⟩, by show _ ≤ maxLen; decide, h1⟩
theorem q_awake13 : S.z2oj = some ⟨true⟩ := by
 have hl : (qTwo 5).steps.length ≤ 1048576 := by decide
 have a1 := q_Feed_is (newS (qTwo 5)) ⟨bA, 0, []⟩ 0 hl (by decide)
 have a2 := q_Feed_o (newS (qTwo 5)) ⟨bA, 0, []⟩ 0 hl (by decide)
 have b1 := q_Feed_is ⟨qTwo 5, [rA 0], -1⟩ ⟨bA, 0, []⟩ 1 hl (by decide)
 have b2 := q_Feed_o ⟨qTwo 5, [rA 0], -1⟩ ⟨bA, 0, []⟩ 1 hl (by decide)
 have c1 := q_Feed_is ⟨qTwo 5, [rA 0, rA 1], -1⟩ ⟨bB, 0, []⟩ 2 hl (by decide)
 have c2 := q_Feed_o ⟨qTwo 5, [rA 0, rA 1], -1⟩ ⟨bB, 0, []⟩ 2 hl (by decide)
 have m1 := q_mMay_is ⟨qTwo 5, [rA 0, rA 1], -1⟩ hl
 have m2 := q_mMay_o ⟨qTwo 5, [rA 0, rA 1], -1⟩ hl
 have hm : mayS ⟨qTwo 5, [rA 0, rA 1], -1⟩ := ms2
 have s0 := q_sameM ⟨qTwo 5, [rA 0, rA 1], -1⟩ ⟨qTwo 5, [], -1⟩ rfl rfl wf_two (.inr (by decide))
 rw [awake_1] at a2
 rw [awake_2] at b2
 rw [awake_3] at c2
 rw [decide_eq_true hm] at m2
 dsimp only [outF] at a2 b2 c2 m1 m2 s0 b1 c1
 unfold S.z2oj S.z2oj_R
 dsimp only
 rw [q_Two_is, q_Two_o, q_New_o]
 dsimp only
 rw [a1, a2]
 dsimp only
 rw [b1, b2]
 dsimp only
 rw [c1, c2]
 dsimp only
 rw [m1, m2]
 unfold S.zi5w_is S.zi5w_o
 rw [s0]
 rfl
theorem q_awake13_is : S.z2oj_is = true := by simp [S.z2oj_is, q_awake13]
theorem q_awake13_o : S.z2oj_o.x0 = true := by simp [S.z2oj_o, q_awake13]
end Go.Eng
