/- The laws of subscriptions: one that may be stays so. -/
import Derived.Test.YtbjeikmkngcjlaaZP21
import Derived.Test.YtbjeikmkngcjlaaZL31
set_option linter.unusedVariables false
set_option linter.unusedSimpArgs false
namespace Go.Eng
open Go Go.Eng
theorem may_loop (l : List (Ty .run)) (hb : l.length ≤ 1000) : ∃ j v', Lp (S.law15_SubMay_8_r l) ⟨0⟩ = some (j, v') ∧ (j = 0 ∨ j = 1 ∧ ∀ r ∈ l, r.many ≤ 1099511627776) := by
  have hround : ∀ v, (fun v : S.law15_SubMay_8_V => 0 ≤ v.t_13_0 ∧ v.t_13_0 ≤ l.length ∧ ∀ i : Nat, (h : i < l.length) → (i : Int) < v.t_13_0 → l[i].many ≤ 1099511627776) v → (S.law15_SubMay_8_R l v).all (Stp (fun v : S.law15_SubMay_8_V => 0 ≤ v.t_13_0 ∧ v.t_13_0 ≤ l.length ∧ ∀ i : Nat, (h : i < l.length) → (i : Int) < v.t_13_0 → l[i].many ≤ 1099511627776)
      (fun j _ => j = 0 ∨ j = 1 ∧ ∀ i : Nat, (h : i < l.length) → l[i].many ≤ 1099511627776) (fun v => ((l.length : Int) - v.t_13_0).toNat) ((l.length : Int) - v.t_13_0).toNat) := by
    intro v hv
    obtain ⟨t⟩ := v
    obtain ⟨v1, v2, v3⟩ := hv
    dsimp only at v1 v2 v3
    by_cases g : t < (l.length : Int)
    case neg =>
      unfold S.law15_SubMay_8_R; dsimp only
      refine ⟨fun h => ?_, fun _ => .inr ⟨rfl, fun i h => v3 i h (by omega)⟩⟩
      simp only [xdec, decide_eq_true_eq] at h; exact absurd h g
    obtain ⟨k, rfl⟩ : ∃ k : Nat, t = k := ⟨t.toNat, by omega⟩
    have hk : k < l.length := by omega
    have w1 : IntKind.i64.wrap ((k : Int) + 1) = (k : Int) + 1 := e_wrap (by omega) (by omega)
    have hm : ((l.length : Int) - ((k : Int) + 1)).toNat < ((l.length : Int) - (k : Int)).toNat := by omega
    have y1 : (xdec ((0 : Int) ≤ (k : Int)) && xdec ((k : Int) < (l.length : Int))) = true := by simp [xdec, g]
    have hget : l.getD ((k : Int)).toNat (dflt ET.run) = l[k] := by rw [Int.toNat_natCast, getD_of _ _ _ hk]
    unfold S.law15_SubMay_8_R; dsimp only
    rw [hget]
    simp only [xwrap, w1]
    refine ⟨fun _ => ⟨fun _ => ⟨fun _ => .inl rfl, fun a1 => ⟨⟨by dsimp only; omega, by dsimp only; omega, fun i h hi => ?_⟩, hm⟩⟩, fun h => ?_⟩, fun h => ?_⟩
    · simp only [xdec, decide_eq_false_iff_not] at a1
      by_cases e : i = k
      · subst e; omega
      · exact v3 i h (by dsimp only at hi; omega)
    · rw [y1] at h; cases h
    · simp only [xdec, decide_eq_false_iff_not] at h; exact absurd g h
  obtain ⟨j, v', h1, h2⟩ := Lp_all (R := S.law15_SubMay_8_R l) (r := S.law15_SubMay_8_r l) (fun v => rfl) _ _ _ hround ⟨0⟩ ⟨Int.le_refl _, by simp, fun i _ h => by dsimp only at h; omega⟩
  refine ⟨j, v', h1, ?_⟩
  rcases h2 with h2 | ⟨h2, h3⟩
  · exact .inl h2
  · refine .inr ⟨h2, fun r hr => ?_⟩
    obtain ⟨i, hi, rfl⟩ := List.getElem_of_mem hr
    exact h3 i hi
theorem feedU_q (H : HH) (u : SubL) (e : Evt) (at' : Int) : (feedU H u e at').s.q = u.s.q := by
  unfold feedU
  repeat' split
  all_goals first
    | rfl
    | exact feedL_q H u.s e at'
theorem giveU_s (u : SubL) : (giveU u).1.s = u.s := by
  unfold giveU
  repeat' split
  all_goals rfl
theorem q_uAck_is (u : SubL) (x : Int) (h : FitU u) : S.sub_Ack_is u.id u.sess u.s.q.steps u.s.q.within u.s.q.agg u.s.q.aggStep u.s.q.aggF u.s.r u.s.over u.ack u.sent u.m u.hold u.fin u.told x = true := by unfold S.sub_Ack_is; rw [q_uAck u x h]; rfl
theorem q_uAck_o (u : SubL) (x : Int) (h : FitU u) : S.sub_Ack_o u.id u.sess u.s.q.steps u.s.q.within u.s.q.agg u.s.q.aggStep u.s.q.aggF u.s.r u.s.over u.ack u.sent u.m u.hold u.fin u.told x = if whyL u.ack u.sent u.m x = 0 then outAu (ackL u x) 0 else outAu noU (whyL u.ack u.sent u.m x) := by unfold S.sub_Ack_o; rw [q_uAck u x h]; rfl
theorem sm_c18 (a s x : Int) (m : List Mat) (y zs : Int) (hr : rMayL a s m) (hy : y ≥ s) (hz : whyL a s m x = 0 → zs = s) : S.law15_SubMay_c18 x (whyL a s m x) (whyL a s m x) a s a s a y zs = some ⟨true⟩ := by
  unfold S.law15_SubMay_c18 S.law15_SubMay_c18_R
  dsimp only
  by_cases c : whyL a s m x = 0
  · obtain ⟨_, k1, k2⟩ := whyL_zero.1 c
    have z1 : x ≥ a := k1
    simp only [DT.run_br, DT.run_leaf, xdec, e_xeqI, e_xneI, c, hz c, hy, z1, k2, decide_true, decide_false, cond_true, cond_false, ne_eq, not_true, beq_self_eq_true]
  · have z0 : ¬ (a ≤ x ∧ x ≤ s) := fun h => c (whyL_zero.2 ⟨hr, h.1, h.2⟩)
    by_cases z1 : x ≥ a
    · have z2 : ¬ x ≤ s := fun h => z0 ⟨z1, h⟩
      simp [DT.run_br, DT.run_leaf, xdec, e_xeqI, e_xneI, c, hy, z1, z2]
    · simp [DT.run_br, DT.run_leaf, xdec, e_xeqI, e_xneI, c, hy, z1]
theorem law_SubMay (u : SubL) (e : Evt) (at' x : Int) (wq : wfL wfStep u.s.q.steps) :
    S.law15_SubMay u.id u.sess u.s.q.steps u.s.q.within u.s.q.agg u.s.q.aggStep u.s.q.aggF u.s.r u.s.over u.ack u.sent u.m u.hold u.fin u.told e.name e.at_ e.v at' x = some ⟨true⟩ := by
  unfold S.law15_SubMay S.law15_SubMay_R; dsimp only
  simp only [DT.run_br, DT.run_leaf, DT.run_fail, q_awake15_is, q_awake15_o, q_few15_is, q_few06_is, q_made_is u.s.q wq, xnot, Bool.not_true, cond_true, cond_false]
  cases hf : (S.law15_Few_o u.s.q.steps u.s.r u.m).x0 with
  | false => simp
  | true =>
  obtain ⟨hl8, hr10, hm20⟩ := q_few15_o _ _ _ hf
  have fit : FitU u := fit_of hl8 hr10 (by omega)
  cases hg : (S.law06_Few_o e.name e.v).x0 with
  | false => simp
  | true =>
  cases hm : (S.ref09_May_o u.s.q.steps u.s.q.within u.s.q.agg u.s.q.aggStep u.s.q.aggF).x0 with
  | false => simp
  | true =>
  have hq := q_made_o u.s.q wq hm
  rw [q_uMay_is u fit.l, q_uMay_o u fit.l]
  by_cases hu : mayU u
  case neg => simp [hu]
  obtain ⟨j, v', h1, h2⟩ := may_loop u.s.r (by omega)
  simp only [S.law15_SubMay_8_j, Lp_j_of h1, hu, decide_true, Bool.not_true, cond_true, cond_false]
  rcases h2 with rfl | ⟨rfl, h3⟩
  · rfl
  have hF := feedU_may (H := HB) hq hu h3 e at'
  have hV := giveU_may hu
  have hH := holdL_may hu
  obtain ⟨f1, f2, f3⟩ := feedU_keep HB u e at'
  have lF : (feedU HB u e at').s.q.steps.length ≤ 1048576 := by rw [feedU_q]; exact fit.l
  have lV : (giveU u).1.s.q.steps.length ≤ 1048576 := by rw [giveU_s]; exact fit.l
  have mF1 := q_uMay_is _ lF
  have mF2 := q_uMay_o _ lF
  have mV1 := q_uMay_is _ lV
  have mV2 := q_uMay_o _ lV
  have mH1 := q_uMay_is (holdL u) fit.l
  have mH2 := q_uMay_o (holdL u) fit.l
  rw [decide_eq_true hF] at mF2
  rw [decide_eq_true hV.1] at mV2
  rw [decide_eq_true hH] at mH2
  rw [q_uFeed_is u e at' fit, q_uFeed_o u e at' fit, q_uGive_is u fit, q_uGive_o u fit, q_uHold_is u fit, q_uHold_o u fit, q_uAck_is u x fit, q_uAck_o u x fit, q_uGo_is u x fit, q_uGo_o u x fit]
  dsimp only [outFu, outVu, outHu]
  rw [mF1, mF2, mV1, mV2, mH1, mH2, f1, f2, hV.2.1]
  have hring := hu.2.2.2.1
  by_cases c : whyL u.ack u.sent u.m x = 0
  · have hA := ackL_may hu c
    have hG := goL_may hu c
    have mA1 := q_uMay_is (ackL u x) fit.l
    have mA2 := q_uMay_o (ackL u x) fit.l
    have mG1 := q_uMay_is (goL u x) fit.l
    have mG2 := q_uMay_o (goL u x) fit.l
    rw [decide_eq_true hA] at mA2
    rw [decide_eq_true hG] at mG2
    have k := sm_c18 u.ack u.sent x u.m (giveU u).1.sent u.sent hring hV.2.2 (fun _ => rfl)
    rw [c] at k
    rw [if_pos c, if_pos c]
    dsimp only [outAu, outGu]
    rw [mA1, mA2, mG1, mG2]
    have k1 : S.law15_SubMay_c18_is x 0 0 u.ack u.sent u.ack u.sent u.ack (giveU u).1.sent (ackL u x).sent = true := by unfold S.law15_SubMay_c18_is; rw [show (ackL u x).sent = u.sent from rfl, k]; rfl
    have k2 : (S.law15_SubMay_c18_o x 0 0 u.ack u.sent u.ack u.sent u.ack (giveU u).1.sent (ackL u x).sent).x0 = true := by unfold S.law15_SubMay_c18_o; rw [show (ackL u x).sent = u.sent from rfl, k]; rfl
    rw [k1, k2]
    simp [e_xeqI]
  · have k := sm_c18 u.ack u.sent x u.m (giveU u).1.sent noU.sent hring hV.2.2 (fun h => absurd h c)
    rw [if_neg c, if_neg c]
    dsimp only [outAu, outGu]
    have k1 : S.law15_SubMay_c18_is x (whyL u.ack u.sent u.m x) (whyL u.ack u.sent u.m x) u.ack u.sent u.ack u.sent u.ack (giveU u).1.sent noU.sent = true := by unfold S.law15_SubMay_c18_is; rw [k]; rfl
    have k2 : (S.law15_SubMay_c18_o x (whyL u.ack u.sent u.m x) (whyL u.ack u.sent u.m x) u.ack u.sent u.ack u.sent u.ack (giveU u).1.sent noU.sent).x0 = true := by unfold S.law15_SubMay_c18_o; rw [k]; rfl
    rw [k1, k2]
    simp [e_xeqI, c]
end Go.Eng
