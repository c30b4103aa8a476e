/- The laws of subscriptions: one that is held. -/
import Derived.Test.YtbjeikmkngcjlaaZP19
import Derived.Test.YtbjeikmkngcjlaaZL23
set_option linter.unusedVariables false
set_option linter.unusedSimpArgs false
namespace Go.Eng
open Go Go.Eng
theorem q_uFeed_is (u : SubL) (e : Evt) (at' : Int) (h : FitU u) : S.sub_Feed_is u.id u.sess u.s.q.steps u.s.q.within u.s.q.agg u.s.q.aggStep u.s.q.aggF u.s.r u.s.over u.ack u.sent u.m u.hold u.fin u.told e.name e.at_ e.v at' = true := by unfold S.sub_Feed_is; rw [q_uFeed u e at' h]; rfl
theorem q_uFeed_o (u : SubL) (e : Evt) (at' : Int) (h : FitU u) : S.sub_Feed_o u.id u.sess u.s.q.steps u.s.q.within u.s.q.agg u.s.q.aggStep u.s.q.aggF u.s.r u.s.over u.ack u.sent u.m u.hold u.fin u.told e.name e.at_ e.v at' = outFu (feedU HB u e at') := by unfold S.sub_Feed_o; rw [q_uFeed u e at' h]; rfl
theorem q_uGive_is (u : SubL) (h : FitU u) : S.sub_Give_is u.id u.sess u.s.q.steps u.s.q.within u.s.q.agg u.s.q.aggStep u.s.q.aggF u.s.r u.s.over u.ack u.sent u.m u.hold u.fin u.told = true := by unfold S.sub_Give_is; rw [q_uGive u h]; rfl
theorem q_uGive_o (u : SubL) (h : FitU u) : S.sub_Give_o u.id u.sess u.s.q.steps u.s.q.within u.s.q.agg u.s.q.aggStep u.s.q.aggF u.s.r u.s.over u.ack u.sent u.m u.hold u.fin u.told = outVu (giveU u) := by unfold S.sub_Give_o; rw [q_uGive u h]; rfl
theorem q_uHold_is (u : SubL) (h : FitU u) : S.sub_Hold_is u.id u.sess u.s.q.steps u.s.q.within u.s.q.agg u.s.q.aggStep u.s.q.aggF u.s.r u.s.over u.ack u.sent u.m u.fin u.told = true := by unfold S.sub_Hold_is; rw [q_uHold u h]; rfl
theorem q_uHold_o (u : SubL) (h : FitU u) : S.sub_Hold_o u.id u.sess u.s.q.steps u.s.q.within u.s.q.agg u.s.q.aggStep u.s.q.aggF u.s.r u.s.over u.ack u.sent u.m u.fin u.told = outHu (holdL u) := by unfold S.sub_Hold_o; rw [q_uHold u h]; rfl
theorem q_uGo_is (u : SubL) (x : Int) (h : FitU u) : S.sub_Go_is u.id u.sess u.s.q.steps u.s.q.within u.s.q.agg u.s.q.aggStep u.s.q.aggF u.s.r u.s.over u.ack u.sent u.m u.fin x = true := by unfold S.sub_Go_is; rw [q_uGo u x h]; rfl
theorem q_uGo_o (u : SubL) (x : Int) (h : FitU u) : S.sub_Go_o u.id u.sess u.s.q.steps u.s.q.within u.s.q.agg u.s.q.aggStep u.s.q.aggF u.s.r u.s.over u.ack u.sent u.m u.fin x = if whyL u.ack u.sent u.m x = 0 then outGu (goL u x) 0 else outGu noU (whyL u.ack u.sent u.m x) := by unfold S.sub_Go_o; rw [q_uGo u x h]; rfl
theorem law_SubHolds (u : SubL) (e : Evt) (at' x : Int) (wq : wfL wfStep u.s.q.steps) :
    S.law15_SubHolds u.id u.sess u.s.q.steps u.s.q.within u.s.q.agg u.s.q.aggStep u.s.q.aggF u.s.r u.s.over u.ack u.sent u.m u.hold u.fin u.told e.name e.at_ e.v at' x = some ⟨true⟩ := by
  unfold S.law15_SubHolds S.law15_SubHolds_R; dsimp only
  simp only [DT.run_br, DT.run_leaf, DT.run_fail, q_awake15_is, q_awake15_o, q_few15_is, q_few06_is, xnot, Bool.not_true, cond_true, cond_false]
  cases hf : (S.law15_Few_o u.s.q.steps u.s.r u.m).x0 with
  | false => simp
  | true =>
  obtain ⟨hl8, hr10, hm20⟩ := q_few15_o _ _ _ hf
  have fit : FitU u := fit_of hl8 hr10 (by omega)
  cases hg : (S.law06_Few_o e.name e.v).x0 with
  | false => simp
  | true =>
  rw [q_uMay_is u fit.l, q_uMay_o u fit.l]
  by_cases hu : mayU u
  case neg => simp [hu]
  have fh : FitU (holdL u) := ⟨fit.1, fit.2, fit.3⟩
  obtain ⟨z1, z2, z3⟩ := feedU_sizes u e at' hr10 hm20
  have ff : FitU (feedU HB u e at') := fit_of (by rw [z1]; exact hl8) z2 z3
  have ffh : FitU (holdL (feedU HB u e at')) := ⟨ff.1, ff.2, ff.3⟩
  have H1 := q_uHold_is u fit
  have H2 := q_uHold_o u fit
  have G1 := q_uGive_is (holdL u) fh
  have G2 := q_uGive_o (holdL u) fh
  have F1 := q_uFeed_is (holdL u) e at' fh
  have F2 := q_uFeed_o (holdL u) e at' fh
  rw [feedU_hold] at F2
  have F3 := q_uFeed_is u e at' fit
  have F4 := q_uFeed_o u e at' fit
  have H3 := q_uHold_is (feedU HB u e at') ff
  have H4 := q_uHold_o (feedU HB u e at') ff
  have G3 := q_uGive_is (holdL (feedU HB u e at')) ffh
  have G4 := q_uGive_o (holdL (feedU HB u e at')) ffh
  have O1 := q_uGo_is (holdL u) x fh
  have O2 := q_uGo_o (holdL u) x fh
  have sm := q_same15 (holdL (feedU HB u e at')) (by show wfL wfStep (feedU HB u e at').s.q.steps; rw [z1]; exact wq) (Nat.le_trans ff.r (by decide)) (Nat.le_trans ff.m (by decide))
  have b1 : (giveU (holdL u)).2.2 = false := giveU_hold rfl
  have b2 : (giveU (holdL (feedU HB u e at'))).2.2 = false := giveU_hold rfl
  rw [H1, H2]
  dsimp only [outHu]
  rw [G1, G2, F1, F2, F3, F4]
  dsimp only [outFu]
  rw [H3, H4]
  dsimp only [outHu]
  rw [G3, G4, O1, O2]
  unfold S.ref15_Same_is S.ref15_Same_o
  rw [sm]
  dsimp only [outVu]
  rw [b1, b2]
  simp only [hu, decide_true, Bool.not_true, Bool.not_false, cond_true, cond_false, Option.isSome_some, Option.getD_some, e_xneI, e_xeqI]
  by_cases c : whyL (holdL u).ack (holdL u).sent (holdL u).m x = 0
  · rw [if_pos c]
    simp [outGu, goL]
  · rw [if_neg c]
    simp [outGu, c]
end Go.Eng
