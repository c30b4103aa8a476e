/- Of subscriptions: what is the same as itself; few; one that begins. -/
import Derived.Test.YtbjeikmkngcjlaaZP18
import Derived.Test.YtbjeikmkngcjlaaZM6
set_option linter.unusedVariables false
set_option linter.unusedSimpArgs false
namespace Go.Eng
open Go Go.Eng
theorem q_same12 (l : List (Ty .mat)) (hb : l.length ≤ maxLen) : S.ref12_Same l l = some ⟨true⟩ := by
  have e : Lp (S.ref12_Same_4_r l l) (⟨0⟩ : S.ref12_Same_4_V) = some (1, ⟨l.length⟩) := by
    refine Lp_walk (fun k => (⟨(k : Int)⟩ : S.ref12_Same_4_V)) l.length 1 (fun i hi => ?_) ?_
    · have h1 : ((i : Int) < (l.length : Int)) := by omega
      have h2 : (0 : Int) ≤ (i : Int) := by omega
      unfold S.ref12_Same_4_r S.ref12_Same_4_R; dsimp only
      simp [DT.run_br, DT.run_leaf, xdec, xwrap, e_xeqI, xeqB, h1, h2, hi, i_wrap hi hb]
    · unfold S.ref12_Same_4_r S.ref12_Same_4_R; simp [DT.run_br, DT.run_leaf, xdec]
  unfold S.ref12_Same S.ref12_Same_R; dsimp only
  simp [DT.run_br, DT.run_leaf, e_xneI, S.ref12_Same_4_j, Lp_j_of e]
theorem q_sameMat (l : List (Ty .mat)) (hb : l.length ≤ maxLen) : S.slices_Equal_Match l l = some ⟨true⟩ := by
  have e : Lp (S.slices_Equal_Match_4_r l l l.length) (⟨0⟩ : S.slices_Equal_Match_4_V) = some (1, ⟨l.length⟩) := by
    refine Lp_walk (fun k => (⟨(k : Int)⟩ : S.slices_Equal_Match_4_V)) l.length 1 (fun i hi => ?_) ?_
    · have h1 : ((i : Int) < (l.length : Int)) := by omega
      have h2 : (0 : Int) ≤ (i : Int) := by omega
      unfold S.slices_Equal_Match_4_r S.slices_Equal_Match_4_R; dsimp only
      simp [DT.run_br, DT.run_leaf, xdec, xwrap, e_xeqI, xeqB, h1, h2, hi, i_wrap hi hb]
    · unfold S.slices_Equal_Match_4_r S.slices_Equal_Match_4_R; simp [DT.run_br, DT.run_leaf, xdec]
  unfold S.slices_Equal_Match S.slices_Equal_Match_R; dsimp only
  simp [DT.run_br, DT.run_leaf, e_xneI, S.slices_Equal_Match_4_j, Lp_j_of e]
theorem q_same14 (a s : Int) (l : List (Ty .mat)) (hb : l.length ≤ maxLen) : S.ref14_Same a s l a s l = some ⟨true⟩ := by
  unfold S.ref14_Same S.ref14_Same_R
  simp [DT.run_br, DT.run_leaf, e_xeqI, S.ref12_Same_is, S.ref12_Same_o, q_same12 l hb]
theorem q_sameRing (a s : Int) (l : List (Ty .mat)) (hb : l.length ≤ maxLen) : S.ring_Same a s l a s l = some ⟨true⟩ := by
  unfold S.ring_Same S.ring_Same_R
  simp [DT.run_br, DT.run_leaf, e_xeqI, S.slices_Equal_Match_is, S.slices_Equal_Match_o, q_sameMat l hb]
theorem q_same15 (u : SubL) (hw : wfL wfStep u.s.q.steps) (hr : u.s.r.length ≤ maxLen) (hm : u.m.length ≤ maxLen) :
    S.ref15_Same u.id u.sess u.s.q.steps u.s.q.within u.s.q.agg u.s.q.aggStep u.s.q.aggF u.s.r u.s.over u.ack u.sent u.m u.hold u.fin u.told u.id u.sess u.s.q.steps u.s.q.within u.s.q.agg u.s.q.aggStep u.s.q.aggF u.s.r u.s.over u.ack u.sent u.m u.hold u.fin u.told = some ⟨true⟩ := by
  unfold S.ref15_Same S.ref15_Same_R
  simp [DT.run_br, DT.run_leaf, e_xeqI, q_same13_is u.s hw hr, q_same13_o u.s hw hr, S.ref14_Same_is, S.ref14_Same_o, q_same14 u.ack u.sent u.m hm]
theorem q_sameU (u : SubL) (hw : wfL wfStep u.s.q.steps) (hr : u.s.r.length ≤ maxLen) (hm : u.m.length ≤ maxLen) :
    S.sub_Same u.id u.sess u.s.q.steps u.s.q.within u.s.q.agg u.s.q.aggStep u.s.q.aggF u.s.r u.s.over u.ack u.sent u.m u.hold u.fin u.told u.id u.sess u.s.q.steps u.s.q.within u.s.q.agg u.s.q.aggStep u.s.q.aggF u.s.r u.s.over u.ack u.sent u.m u.hold u.fin u.told = some ⟨true⟩ := by
  have sm := q_sameM u.s u.s rfl rfl hw (.inl ⟨rfl, hr⟩)
  unfold S.sub_Same S.sub_Same_R
  simp [DT.run_br, DT.run_leaf, e_xeqI, S.match_Same_is, S.match_Same_o, sm, S.ring_Same_is, S.ring_Same_o, q_sameRing u.ack u.sent u.m hm]
theorem q_few15 (l : List (Ty .step)) (r : List (Ty .run)) (m : List (Ty .mat)) : (S.law15_Few_R l r m).all (fun x => x.x0 = true → l.length ≤ 8 ∧ r.length ≤ 10 ∧ m.length ≤ 20) := by
  unfold S.law15_Few_R
  simp only [DT.all_br, DT.all_leaf, DT.all_fail, q_few13_is, xdec, decide_eq_true_eq, reduceCtorEq, false_implies, implies_true, and_true, true_implies, Bool.true_eq_false, Bool.false_eq_true]
  intro h1 h2
  have := q_few13_o _ _ h1
  exact ⟨this.1, this.2, by omega⟩
theorem q_few15_is (l : List (Ty .step)) (r : List (Ty .run)) (m : List (Ty .mat)) : S.law15_Few_is l r m = true := DT.all_is (q_few15 l r m)
theorem q_few15_o (l : List (Ty .step)) (r : List (Ty .run)) (m : List (Ty .mat)) : (S.law15_Few_o l r m).x0 = true → l.length ≤ 8 ∧ r.length ≤ 10 ∧ m.length ≤ 20 := DT.all_o (q_few15 l r m)
theorem putM_len (a s : Int) : ∀ (l m : List Mat), (putM a s m l).2.length ≤ m.length + l.length
  | [], m => by simp [putM]
  | x :: l, m => by
    unfold putM
    split
    · have := putM_len a s l (m ++ [x])
      simp only [List.length_append, List.length_cons, List.length_nil] at this ⊢
      omega
    · simp only [List.length_cons]; omega
theorem feedU_sizes (u : SubL) (e : Evt) (at' : Int) (hr : u.s.r.length ≤ 10) (hm : u.m.length ≤ 20) : (feedU HB u e at').s.q = u.s.q ∧ (feedU HB u e at').s.r.length ≤ 10 ∧ (feedU HB u e at').m.length ≤ 26 := by
  have h6 := feedL_len HB u.s e at'
  have hp := putM_len u.ack u.sent (feedL HB u.s e at').2 u.m
  have hq := feedL_q HB u.s e at'
  have hl := feedL_rlen HB u.s e at' 10 (by decide) hr
  unfold feedU
  split
  · exact ⟨rfl, hr, by omega⟩
  split
  · refine ⟨hq, Nat.zero_le _, ?_⟩
    show (List.take _ _ : List Mat).length ≤ 26
    rw [List.length_take]; omega
  · exact ⟨hq, hl, by dsimp only; omega⟩
theorem fit_of {u : SubL} (hl : u.s.q.steps.length ≤ 8) (hr : u.s.r.length ≤ 10) (hm : u.m.length ≤ 26) : FitU u := ⟨by omega, by omega, by omega⟩
def newU (id sess : Int) (q : Query) : SubL := ⟨id, sess, newS q, 0, 0, [], false, 0, false⟩
theorem ring0 : rMayL 0 0 [] := ⟨Int.le_refl 0, by show (0 : Int) ≤ 6; decide, by show (0 : Int) + 0 ≤ _; decide, Int.le_refl 0, by show (0 : Int) ≤ 0 + 0; decide⟩
theorem new_may (id sess : Int) (q : Query) : mayU (newU id sess q) ↔ 0 ≤ id ∧ 0 ≤ sess :=
  ⟨fun h => ⟨h.1, h.2.1⟩, fun h => ⟨h.1, h.2, ⟨Nat.zero_le _, fun r hr => (by cases hr), .inl rfl⟩, ring0, .inl ⟨rfl, rfl, rfl⟩⟩⟩
theorem new_give (id sess : Int) (q : Query) : giveU (newU id sess q) = (newU id sess q, noNote, false) := by
  by_cases h : mayU (newU id sess q)
  · rw [giveU_last h rfl rfl, if_pos (.inl rfl)]
  · unfold giveU; rw [if_pos (.inl h)]
theorem new_why (x : Int) : whyL 0 0 [] x = if x = 0 then 0 else 9 := by
  unfold whyL
  rw [if_pos ring0]
  by_cases h : x = 0
  · rw [if_pos h, if_neg (by omega)]
  · rw [if_neg h, if_pos (by omega)]
end Go.Eng
