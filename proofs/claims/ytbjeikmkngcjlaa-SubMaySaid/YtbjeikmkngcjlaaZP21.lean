/- The laws of subscriptions: one that is held. -/
import Derived.Test.YtbjeikmkngcjlaaZP19
import Derived.Test.YtbjeikmkngcjlaaZL23
set_option linter.unusedVariables false
set_option linter.unusedSimpArgs false
namespace Go.Eng
open Go Go.Eng
theorem q_uFeed_is (u : SubL) (e : Evt) (at' : Int) (h : FitU u) : S.sub_Feed_is u.id u.sess u.s.q.steps u.s.q.within u.s.q.agg u.s.q.aggStep u.s.q.aggF u.s.r u.s.over u.ack u.sent u.m u.hold u.fin u.told e.name e.at_ e.v at' = true := by unfold S.sub_Feed_is; rw [q_uFeed u e at' h]; rfl
theorem q_uFeed_o (u : SubL) (e : Evt) (at' : Int) (h : FitU u) : S.sub_Feed_o u.id u.sess u.s.q.steps u.s.q.within u.s.q.agg u.s.q.aggStep u.s.q.aggF u.s.r u.s.over u.ack u.sent u.m u.hold u.fin u.told e.name e.at_ e.v at' = outFu (feedU HB u e at') := by unfold S.sub_Feed_o; rw [q_uFeed u e at' h]; rfl
theorem q_uGive_is (u : SubL) (h : FitU u) : S.sub_Give_is u.id u.sess u.s.q.steps u.s.q.within u.s.q.agg u.s.q.aggStep u.s.q.aggF u.s.r u.s.over u.ack u.sent u.m u.hold u.fin u.told = true := by unfold S.sub_Give_is; rw [q_uGive u h]; rfl
theorem q_uGive_o (u : SubL) (h : FitU u) : S.sub_Give_o u.id u.sess u.s.q.steps u.s.q.within u.s.q.agg u.s.q.aggStep u.s.q.aggF u.s.r u.s.over u.ack u.sent u.m u.hold u.fin u.told = outVu (giveU u) := by unfold S.sub_Give_o; rw [q_uGive u h]; rfl
theorem q_uHold_is (u : SubL) (h : FitU u) : S.sub_Hold_is u.id u.sess u.s.q.steps u.s.q.within u.s.q.agg u.s.q.aggStep u.s.q.aggF u.s.r u.s.over u.ack u.sent u.m u.fin u.told = true := by unfold S.sub_Hold_is; rw [q_uHold u h]; rfl
theorem q_uHold_o (u : SubL) (h : FitU u) : S.sub_Hold_o u.id u.sess u.s.q.steps u.s.q.within u.s.q.agg u.s.q.aggStep u.s.q.aggF u.s.r u.s.over u.ack u.sent u.m u.fin u.told = outHu (holdL u) := by unfold S.sub_Hold_o; rw [q_uHold u h]; rfl
theorem q_uGo_is (u : SubL) (x : Int) (h : FitU u) : S.sub_Go_is u.id u.sess u.s.q.steps u.s.q.within u.s.q.agg u.s.q.aggStep u.s.q.aggF u.s.r u.s.over u.ack u.sent u.m u.fin x = true := by unfold S.sub_Go_is; rw [q_uGo u x h]; rfl
theorem q_uGo_o (u : SubL) (x : Int) (h : FitU u) : S.sub_Go_o u.id u.sess u.s.q.steps u.s.q.within u.s.q.agg u.s.q.aggStep u.s.q.aggF u.s.r u.s.over u.ack u.sent u.m u.fin x = if whyL u.ack u.sent u.m x = 0 then outGu (goL u x) 0 else outGu noU (whyL u.ack u.sent u.m x) := by unfold S.sub_Go_o; rw [q_uGo u x h]; rfl
end Go.Eng
