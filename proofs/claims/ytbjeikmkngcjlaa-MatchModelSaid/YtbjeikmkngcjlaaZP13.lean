/- A store behind events; the chapter's example. -/
import Derived.Test.YtbjeikmkngcjlaaZG8
import Derived.Test.YtbjeikmkngcjlaaZP12
set_option linter.unusedVariables false
set_option linter.unusedSimpArgs false
namespace Go.Eng
open Go Go.Eng
def newS (q : Query) : StoreL := ⟨q, [], -1⟩
theorem q_New_o (q : Query) : S.zpf4_o q.steps q.within q.agg q.aggStep q.aggF = ⟨(newS q).q.steps, (newS q).q.within, (newS q).q.agg, (newS q).q.aggStep, (newS q).q.aggF, (newS q).r, (newS q).over⟩ := rfl
theorem feed_go {H : HH} {s : StoreL} {e : Evt} {at' : Int} (hs : mayS s) (ho : s.over = -1) (hb : (beginL H s.q e at').2 = 0) (h5 : (leftOf H s.q e s.r).length ≠ 5) :
    feedL H s e at' = (⟨s.q, leftOf H s.q e s.r ++ [(beginL H s.q e at').1], s.over⟩, doneOf H s.q e at' s.r) := by
 unfold feedL
 rw [if_neg (show ¬ (¬ mayS s ∨ s.over ≠ -1) by intro h; rcases h with h | h; exact h hs; exact h ho), if_neg (by omega), if_neg (fun h => h5 h.2), if_pos hb]
theorem feed_none {H : HH} {s : StoreL} {e : Evt} {at' : Int} (hs : mayS s) (ho : s.over = -1) (hb : (beginL H s.q e at').2 = 1) :
    feedL H s e at' = (⟨s.q, leftOf H s.q e s.r, s.over⟩, doneOf H s.q e at' s.r) := by
 unfold feedL
 rw [if_neg (show ¬ (¬ mayS s ∨ s.over ≠ -1) by intro h; rcases h with h | h; exact h hs; exact h ho), if_neg (by omega), if_neg (fun h => by omega), if_neg (by omega)]
def rA (i : Int) : Run := ⟨i, 0, 0, 1, 1, 1, false⟩
theorem ms0 : mayS (newS (qTwo 5)) := ⟨by decide, fun r hr => (by cases hr), .inl rfl⟩
theorem ms1 : mayS ⟨qTwo 5, [rA 0], -1⟩ := by
 refine ⟨by decide, fun r hr => ?_, .inl rfl⟩
 have : r = rA 0 := by simpa using hr
 subst this
 exact may_two 5 0 0
theorem ms2 : mayS ⟨qTwo 5, [rA 0, rA 1], -1⟩ := by
 refine ⟨by decide, fun r hr => ?_, .inl rfl⟩
 have : r = rA 0 ∨ r = rA 1 := by simpa using hr
 rcases this with rfl | rfl <;> exact may_two 5 _ 0
theorem awake_1 : feedL HB (newS (qTwo 5)) ⟨bA, 0, []⟩ 0 = (⟨qTwo 5, [rA 0], -1⟩, []) := by
 have hb := begin_two HB_Plain 5 0 0
 rw [feed_go ms0 rfl (by show (beginL HB (qTwo 5) _ 0).2 = 0; rw [hb]) (by decide)]
 show (StoreL.mk (qTwo 5) (leftOf HB (qTwo 5) _ [] ++ [(beginL HB (qTwo 5) _ 0).1]) (-1), doneOf HB (qTwo 5) _ 0 []) = _
 rw [hb]; rfl
theorem awake_2 : feedL HB ⟨qTwo 5, [rA 0], -1⟩ ⟨bA, 0, []⟩ 1 = (⟨qTwo 5, [rA 0, rA 1], -1⟩, []) := by
 have hb := begin_two HB_Plain 5 0 1
 have hn : nextL HB (qTwo 5) (rA 0) ⟨bA, 0, []⟩ = (rA 0, 0) := next_two_a HB_Plain (by decide) (by decide)
 have hL : leftOf HB (qTwo 5) ⟨bA, 0, []⟩ [rA 0] = [rA 0] := by unfold leftOf; simp [hn]
 have hD : doneOf HB (qTwo 5) ⟨bA, 0, []⟩ 1 [rA 0] = [] := by unfold doneOf; simp [hn]
 rw [feed_go ms1 rfl (by show (beginL HB (qTwo 5) _ 1).2 = 0; rw [hb]) (by show (leftOf HB (qTwo 5) ⟨bA, 0, []⟩ [rA 0]).length ≠ 5; rw [hL]; decide)]
 show (StoreL.mk (qTwo 5) (leftOf HB (qTwo 5) _ [rA 0] ++ [(beginL HB (qTwo 5) _ 1).1]) (-1), doneOf HB (qTwo 5) _ 1 [rA 0]) = _
 rw [hb, hL, hD]; rfl
theorem awake_3 : feedL HB ⟨qTwo 5, [rA 0, rA 1], -1⟩ ⟨bB, 0, []⟩ 2 = (⟨qTwo 5, [], -1⟩, [⟨0, 2, 1, false⟩, ⟨1, 2, 1, false⟩]) := by
 have hb := begin_two_b HB_Plain 5 0 2
 have hn : ∀ i, nextL HB (qTwo 5) (rA i) ⟨bB, 0, []⟩ = (⟨i, 0, 1, 1, 1, 1, false⟩, 2) := fun i => next_two_b HB_Plain (by decide) (by show (decide ((5 : Int) < 0) || decide (u64 (u64 0 - u64 0) > u64 5)) = false; decide)
 have hL : leftOf HB (qTwo 5) ⟨bB, 0, []⟩ [rA 0, rA 1] = [] := by unfold leftOf; simp [hn]
 have hD : doneOf HB (qTwo 5) ⟨bB, 0, []⟩ 2 [rA 0, rA 1] = [⟨0, 2, 1, false⟩, ⟨1, 2, 1, false⟩] := by unfold doneOf; simp [hn, doneM]
 rw [feed_none ms2 rfl (by show (beginL HB (qTwo 5) _ 2).2 = 1; rw [hb])]
 show (StoreL.mk (qTwo 5) (leftOf HB (qTwo 5) _ [rA 0, rA 1]) (-1), doneOf HB (qTwo 5) _ 2 [rA 0, rA 1]) = _
 rw [hL, hD]
theorem wf_two : wfL wfStep (qTwo 5).steps := by
 have h1 : wfL wfOpn [] := ⟨Nat.zero_le _, by intro x hx; cases hx⟩
 refine ⟨by show 2 ≤ maxLen; decide, fun x hx => ?_⟩
 have : x = stA ∨ x = stB := by simpa [qTwo] using hx
 rcases this with rfl | rfl <;> exact ⟨by show _ ≤ maxLen; decide, h1, ⟨by decide, by decide⟩, ⟨by decide, by decide⟩, by show _ ≤ maxLen; decide, h1⟩
theorem q_awake13 : S.z2oj = some ⟨true⟩ := by
 have hl : (qTwo 5).steps.length ≤ 1048576 := by decide
 have a1 := q_Feed_is (newS (qTwo 5)) ⟨bA, 0, []⟩ 0 hl (by decide)
 have a2 := q_Feed_o (newS (qTwo 5)) ⟨bA, 0, []⟩ 0 hl (by decide)
 have b1 := q_Feed_is ⟨qTwo 5, [rA 0], -1⟩ ⟨bA, 0, []⟩ 1 hl (by decide)
 have b2 := q_Feed_o ⟨qTwo 5, [rA 0], -1⟩ ⟨bA, 0, []⟩ 1 hl (by decide)
 have c1 := q_Feed_is ⟨qTwo 5, [rA 0, rA 1], -1⟩ ⟨bB, 0, []⟩ 2 hl (by decide)
 have c2 := q_Feed_o ⟨qTwo 5, [rA 0, rA 1], -1⟩ ⟨bB, 0, []⟩ 2 hl (by decide)
 have m1 := q_mMay_is ⟨qTwo 5, [rA 0, rA 1], -1⟩ hl
 have m2 := q_mMay_o ⟨qTwo 5, [rA 0, rA 1], -1⟩ hl
 have hm : mayS ⟨qTwo 5, [rA 0, rA 1], -1⟩ := ms2
 have s0 := q_sameM ⟨qTwo 5, [rA 0, rA 1], -1⟩ ⟨qTwo 5, [], -1⟩ rfl rfl wf_two (.inr (by decide))
 rw [awake_1] at a2
 rw [awake_2] at b2
 rw [awake_3] at c2
 rw [decide_eq_true hm] at m2
 dsimp only [outF] at a2 b2 c2 m1 m2 s0 b1 c1
 unfold S.z2oj S.z2oj_R
 dsimp only
 rw [q_Two_is, q_Two_o, q_New_o]
 dsimp only
 rw [a1, a2]
 dsimp only
 rw [b1, b2]
 dsimp only
 rw [c1, c2]
 dsimp only
 rw [m1, m2]
 unfold S.zi5w_is S.zi5w_o
 rw [s0]
 rfl
theorem q_awake13_is : S.z2oj_is = true := by simp [S.z2oj_is, q_awake13]
theorem q_awake13_o : S.z2oj_o.x0 = true := by simp [S.z2oj_o, q_awake13]
end Go.Eng
