/- The laws of subscriptions: one that begins; who is evicted. -/
import Derived.Test.YtbjeikmkngcjlaaZP19
import Derived.Test.YtbjeikmkngcjlaaZL30
import Derived.Test.YtbjeikmkngcjlaaZL20
set_option linter.unusedVariables false
set_option linter.unusedSimpArgs false
namespace Go.Eng
open Go Go.Eng
theorem law_SubNew (id sess : Int) (q : Query) (x : Int) (wq : wfL wfStep q.steps) : S.law15_SubNew id sess q.steps q.within q.agg q.aggStep q.aggF x = some ⟨true⟩ := by
  have eN : S.sub_New_o id sess q.steps q.within q.agg q.aggStep q.aggF = ⟨(newU id sess q).id, (newU id sess q).sess, (newU id sess q).s.q.steps, (newU id sess q).s.q.within, (newU id sess q).s.q.agg, (newU id sess q).s.q.aggStep, (newU id sess q).s.q.aggF, (newU id sess q).s.r, (newU id sess q).s.over, (newU id sess q).ack, (newU id sess q).sent, (newU id sess q).m, (newU id sess q).hold, (newU id sess q).fin, (newU id sess q).told⟩ := rfl
  unfold S.law15_SubNew S.law15_SubNew_R; dsimp only
  rw [eN]
  dsimp only
  simp only [DT.run_br, DT.run_leaf, DT.run_fail, q_awake15_is, q_awake15_o, q_made_is q wq, xnot, Bool.not_true, cond_true, cond_false, xdec]
  cases hm : (S.ref09_May_o q.steps q.within q.agg q.aggStep q.aggF).x0 with
  | false => simp
  | true =>
  have hq := q_made_o q wq hm
  have hl := hq.l1
  have c1 : ¬ ((q.steps.length : Nat) : Int) > 8 := by omega
  have fit : FitU (newU id sess q) := fit_of (by show q.steps.length ≤ 8; omega) (Nat.zero_le _) (Nat.zero_le _)
  have hg := q_uGive (newU id sess q) fit
  rw [new_give] at hg
  have ho := q_uGo (newU id sess q) x fit
  have ha := q_uAck (newU id sess q) x fit
  have hy := q_uMay (newU id sess q) fit.l
  have hw : whyL (newU id sess q).ack (newU id sess q).sent (newU id sess q).m x = if x = 0 then 0 else 9 := new_why x
  rw [hw] at ho ha
  have g1 : S.sub_Give_is (newU id sess q).id (newU id sess q).sess (newU id sess q).s.q.steps (newU id sess q).s.q.within (newU id sess q).s.q.agg (newU id sess q).s.q.aggStep (newU id sess q).s.q.aggF (newU id sess q).s.r (newU id sess q).s.over (newU id sess q).ack (newU id sess q).sent (newU id sess q).m (newU id sess q).hold (newU id sess q).fin (newU id sess q).told = true := by
    unfold S.sub_Give_is; rw [hg]; rfl
  have g2 : (S.sub_Give_o (newU id sess q).id (newU id sess q).sess (newU id sess q).s.q.steps (newU id sess q).s.q.within (newU id sess q).s.q.agg (newU id sess q).s.q.aggStep (newU id sess q).s.q.aggF (newU id sess q).s.r (newU id sess q).s.over (newU id sess q).ack (newU id sess q).sent (newU id sess q).m (newU id sess q).hold (newU id sess q).fin (newU id sess q).told).x22 = false := by
    unfold S.sub_Give_o; rw [hg]; rfl
  have o1 : S.sub_Go_is (newU id sess q).id (newU id sess q).sess (newU id sess q).s.q.steps (newU id sess q).s.q.within (newU id sess q).s.q.agg (newU id sess q).s.q.aggStep (newU id sess q).s.q.aggF (newU id sess q).s.r (newU id sess q).s.over (newU id sess q).ack (newU id sess q).sent (newU id sess q).m (newU id sess q).fin x = true := by
    unfold S.sub_Go_is; rw [ho]; rfl
  have o2 : (S.sub_Go_o (newU id sess q).id (newU id sess q).sess (newU id sess q).s.q.steps (newU id sess q).s.q.within (newU id sess q).s.q.agg (newU id sess q).s.q.aggStep (newU id sess q).s.q.aggF (newU id sess q).s.r (newU id sess q).s.over (newU id sess q).ack (newU id sess q).sent (newU id sess q).m (newU id sess q).fin x).x15 = if x = 0 then 0 else 9 := by
    unfold S.sub_Go_o; rw [ho, Option.getD_some]
    by_cases c : x = 0
    · simp [c, outGu]
    · simp [c, outGu]
  have a1 : S.sub_Ack_is (newU id sess q).id (newU id sess q).sess (newU id sess q).s.q.steps (newU id sess q).s.q.within (newU id sess q).s.q.agg (newU id sess q).s.q.aggStep (newU id sess q).s.q.aggF (newU id sess q).s.r (newU id sess q).s.over (newU id sess q).ack (newU id sess q).sent (newU id sess q).m (newU id sess q).hold (newU id sess q).fin (newU id sess q).told x = true := by
    unfold S.sub_Ack_is; rw [ha]; rfl
  have a2 : (S.sub_Ack_o (newU id sess q).id (newU id sess q).sess (newU id sess q).s.q.steps (newU id sess q).s.q.within (newU id sess q).s.q.agg (newU id sess q).s.q.aggStep (newU id sess q).s.q.aggF (newU id sess q).s.r (newU id sess q).s.over (newU id sess q).ack (newU id sess q).sent (newU id sess q).m (newU id sess q).hold (newU id sess q).fin (newU id sess q).told x).x15 = if x = 0 then 0 else 9 := by
    unfold S.sub_Ack_o; rw [ha, Option.getD_some]
    by_cases c : x = 0
    · simp [c, outAu]
    · simp [c, outAu]
  have m1 : S.sub_May_is (newU id sess q).id (newU id sess q).sess (newU id sess q).s.q.steps (newU id sess q).s.r (newU id sess q).s.over (newU id sess q).ack (newU id sess q).sent (newU id sess q).m (newU id sess q).fin (newU id sess q).told = true := by
    unfold S.sub_May_is; rw [hy]; rfl
  have m2 : (S.sub_May_o (newU id sess q).id (newU id sess q).sess (newU id sess q).s.q.steps (newU id sess q).s.r (newU id sess q).s.over (newU id sess q).ack (newU id sess q).sent (newU id sess q).m (newU id sess q).fin (newU id sess q).told).x0 = decide (0 ≤ id ∧ 0 ≤ sess) := by
    unfold S.sub_May_o; rw [hy, Option.getD_some]
    dsimp only
    rw [decide_eq_decide]; exact new_may id sess q
  rw [g1, g2, o1, o2, a1, a2, m1, m2]
  have i1 : (newU id sess q).id = id := rfl
  have i2 : (newU id sess q).sess = sess := rfl
  have i3 : (newU id sess q).fin = 0 := rfl
  rw [i1, i2, i3]
  have e1 : (xeqI (if x = 0 then 0 else 9) 0 == xeqI x 0) = true := by
    by_cases c : x = 0 <;> simp [c, e_xeqI]
  have e2 : xeqI (if x = 0 then 0 else 9) (if x = 0 then 0 else 9) = true := by rw [e_xeqI]; simp
  simp only [c1, e1, e2, e_xeqI, decide_true, decide_false, Bool.not_false, Bool.not_true, cond_true, cond_false]
  by_cases h0 : id ≥ 0
  · have h0' : 0 ≤ id := h0
    by_cases h1 : sess ≥ 0
    · have h1' : 0 ≤ sess := h1
      simp [h0, h0', h1, h1']
    · have h1' : ¬ 0 ≤ sess := h1
      simp [h0, h0', h1, h1']
  · have h0' : ¬ 0 ≤ id := h0
    simp [h0, h0']
theorem ev_loop (m n : List (Ty .mat)) (k : Nat) (hn : n = m.take k) (hb : m.length ≤ 1000) : Lp (S.law15_SubEvicts_16_r m n) (⟨0⟩ : S.law15_SubEvicts_16_V) = some (1, ⟨n.length⟩) := by
  have hl : n.length ≤ m.length := by rw [hn, List.length_take]; omega
  refine Lp_walk (fun k => (⟨(k : Int)⟩ : S.law15_SubEvicts_16_V)) n.length 1 (fun i hi => ?_) ?_
  · have h1 : ((i : Int) < (n.length : Int)) := by omega
    have h2 : (0 : Int) ≤ (i : Int) := by omega
    have h3 : ((i : Int) < (m.length : Int)) := by omega
    have e : n[i] = m[i] := by subst hn; simp
    have e3 : n.getD ((i : Int)).toNat (dflt ET.mat) = m.getD ((i : Int)).toNat (dflt ET.mat) := by
      rw [Int.toNat_natCast, getD_of n i _ hi, getD_of m i _ (by omega), e]
    unfold S.law15_SubEvicts_16_r S.law15_SubEvicts_16_R; dsimp only
    rw [e3]
    simp [DT.run_br, DT.run_leaf, xdec, xwrap, e_xeqI, xeqB, h1, h2, h3, hi, e_wrap1 (show i ≤ 1048576 by omega)]
  · unfold S.law15_SubEvicts_16_r S.law15_SubEvicts_16_R; simp [DT.run_br, DT.run_leaf, xdec]
theorem law_SubEvicts (u : SubL) (e : Evt) (at' : Int) (wq : wfL wfStep u.s.q.steps) :
    S.law15_SubEvicts u.id u.sess u.s.q.steps u.s.q.within u.s.q.agg u.s.q.aggStep u.s.q.aggF u.s.r u.s.over u.ack u.sent u.m u.hold u.fin u.told e.name e.at_ e.v at' = some ⟨true⟩ := by
  unfold S.law15_SubEvicts S.law15_SubEvicts_R; dsimp only
  simp only [DT.run_br, DT.run_leaf, DT.run_fail, q_awake15_is, q_awake15_o, q_few15_is, q_few06_is, xnot, Bool.not_true, cond_true, cond_false]
  cases hf : (S.law15_Few_o u.s.q.steps u.s.r u.m).x0 with
  | false => simp
  | true =>
  obtain ⟨hl8, hr10, hm20⟩ := q_few15_o _ _ _ hf
  have fit : FitU u := fit_of hl8 hr10 (by omega)
  cases hg : (S.law06_Few_o e.name e.v).x0 with
  | false => simp
  | true =>
  rw [q_uMay_is u fit.l, q_uMay_o u fit.l]
  by_cases hu : mayU u
  case neg => simp [hu]
  have hF := q_uFeed u e at' fit
  have F1 : S.sub_Feed_is u.id u.sess u.s.q.steps u.s.q.within u.s.q.agg u.s.q.aggStep u.s.q.aggF u.s.r u.s.over u.ack u.sent u.m u.hold u.fin u.told e.name e.at_ e.v at' = true := by unfold S.sub_Feed_is; rw [hF]; rfl
  have F2 : S.sub_Feed_o u.id u.sess u.s.q.steps u.s.q.within u.s.q.agg u.s.q.aggStep u.s.q.aggF u.s.r u.s.over u.ack u.sent u.m u.hold u.fin u.told e.name e.at_ e.v at' = outFu (feedU HB u e at') := by unfold S.sub_Feed_o; rw [hF]; rfl
  rw [F1, F2]
  dsimp only [outFu]
  simp only [hu, decide_true, Bool.not_true, cond_true, cond_false, e_xneI]
  by_cases c0 : u.fin = 0
  case neg =>
    rw [feed_over (H := HB) c0 e at']
    have sm := q_sameU u wq (Nat.le_trans fit.r (by decide)) (Nat.le_trans fit.m (by decide))
    have s1 : S.sub_Same_is u.id u.sess u.s.q.steps u.s.q.within u.s.q.agg u.s.q.aggStep u.s.q.aggF u.s.r u.s.over u.ack u.sent u.m u.hold u.fin u.told u.id u.sess u.s.q.steps u.s.q.within u.s.q.agg u.s.q.aggStep u.s.q.aggF u.s.r u.s.over u.ack u.sent u.m u.hold u.fin u.told = true := by unfold S.sub_Same_is; rw [sm]; rfl
    have s2 : (S.sub_Same_o u.id u.sess u.s.q.steps u.s.q.within u.s.q.agg u.s.q.aggStep u.s.q.aggF u.s.r u.s.over u.ack u.sent u.m u.hold u.fin u.told u.id u.sess u.s.q.steps u.s.q.within u.s.q.agg u.s.q.aggStep u.s.q.aggF u.s.r u.s.over u.ack u.sent u.m u.hold u.fin u.told).x0 = true := by unfold S.sub_Same_o; rw [sm]; rfl
    rw [s1, s2]
    simp [c0]
  have f1 := q_Feed_is u.s e at' fit.l fit.r
  have f2 := q_Feed_o u.s e at' fit.l fit.r
  rw [f1, f2]
  dsimp only [outF]
  have l6 := feedL_len HB u.s e at'
  obtain ⟨g1, g2, g3, g4, g5⟩ := hu.2.2.2.1
  have w1 : IntKind.i64.wrap ((u.m.length : Int) + ((feedL HB u.s e at').2.length : Int)) = (u.m.length : Int) + ((feedL HB u.s e at').2.length : Int) := e_wrap (by omega) (by omega)
  have w2 : IntKind.i64.wrap (u.ack + (u.m.length : Int)) = u.ack + (u.m.length : Int) := e_wrap (by omega) (by omega)
  have w3 : IntKind.i64.wrap (u.ack + (u.m.length : Int) + ((feedL HB u.s e at').2.length : Int)) = u.ack + (u.m.length : Int) + ((feedL HB u.s e at').2.length : Int) := e_wrap (by omega) (by omega)
  simp only [c0, xwrap, w1, w2, w3, xdec, ne_eq, not_true, decide_false, cond_true, cond_false]
  rcases feedU_evicts (H := HB) hu c0 e at' with ⟨k1, k2, k3, k4⟩ | ⟨k1, k2, k3, k4, k5, k6, k7⟩
  · have n1 : ¬ (u.m.length : Int) + ((feedL HB u.s e at').2.length : Int) > 6 := by omega
    have n2 : ¬ u.ack + (u.m.length : Int) + ((feedL HB u.s e at').2.length : Int) > 1099511627776 := by omega
    have n3 : ((feedU HB u e at').m.length : Int) = (u.m.length : Int) + ((feedL HB u.s e at').2.length : Int) := by omega
    simp [n1, n2, k3, n3, e_xeqI]
  · have lp := ev_loop u.m (feedU HB u e at').m _ k7 (by omega)
    have n4 : IntKind.i64.wrap (u.ack + ((feedU HB u e at').m.length : Int)) = u.sent := by rw [k6]; exact e_wrap (by omega) (by omega)
    have j0 : S.law15_SubEvicts_16_j u.m (feedU HB u e at').m ⟨0⟩ 0 = false := by unfold S.law15_SubEvicts_16_j; rw [Lp_j_of lp]; rfl
    have j1 : S.law15_SubEvicts_16_j u.m (feedU HB u e at').m ⟨0⟩ 1 = true := by unfold S.law15_SubEvicts_16_j; rw [Lp_j_of lp]; rfl
    have n5 : ((feedU HB u e at').s.r.length : Int) = 0 := by rw [k3]; rfl
    by_cases n1 : (u.m.length : Int) + ((feedL HB u.s e at').2.length : Int) > 6
    · simp [n1, k2, k3, k4, k5, n4, j0, j1]
    · have n2 : u.ack + (u.m.length : Int) + ((feedL HB u.s e at').2.length : Int) > 1099511627776 := by omega
      simp [n1, n2, k2, k3, k4, k5, n4, j0, j1]
end Go.Eng
