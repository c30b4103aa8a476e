/- The laws of subscriptions: one that is over. -/
import Derived.Test.YtbjeikmkngcjlaaZP21
import Derived.Test.YtbjeikmkngcjlaaZL21
set_option linter.unusedVariables false
set_option linter.unusedSimpArgs false
namespace Go.Eng
open Go Go.Eng
structure OvAt (u : SubL) (n i : Int) (v : S.law15_SubOver_9_V) : Prop where
  n : v.t_11_0 = n
  ix : v.t_12_0 = i
  id : v.h_36_0 = u.id
  se : v.h_36_1 = u.sess
  st : v.h_36_2 = u.s.q.steps
  wi : v.h_36_3 = u.s.q.within
  ag : v.h_36_4 = u.s.q.agg
  as' : v.h_36_5 = u.s.q.aggStep
  af : v.h_36_6 = u.s.q.aggF
  r : v.h_36_7 = u.s.r
  ov : v.h_36_8 = u.s.over
  ack : v.h_36_9 = u.ack
  sent : v.h_36_10 = u.sent
  m : v.h_36_11 = u.m
  ho : v.h_36_12 = u.hold
  fin : v.h_36_13 = u.fin
  told : v.h_36_14 = u.told
theorem over_go {u : SubL} (fit : FitU u) {n i : Int} {v : S.law15_SubOver_9_V} (hv : OvAt u n i v) (hi : i < 10) (hi0 : 0 ≤ i) (hn : 0 ≤ n ∧ n ≤ 100) (hg : (giveU u).2.2 = true) :
    ∃ v', S.law15_SubOver_9_r v = some (none, v') ∧ OvAt (giveU u).1 (if (giveU u).2.1.fin ≠ 0 then n + 1 else n) (i + 1) v' := by
  have g1 := q_uGive_is u fit
  have g2 := q_uGive_o u fit
  have w1 : IntKind.i64.wrap (i + 1) = i + 1 := e_wrap (by omega) (by omega)
  have w2 : IntKind.i64.wrap (n + 1) = n + 1 := e_wrap (by omega) (by omega)
  unfold S.law15_SubOver_9_r S.law15_SubOver_9_R
  dsimp only
  rw [hv.n, hv.ix, hv.id, hv.se, hv.st, hv.wi, hv.ag, hv.as', hv.af, hv.r, hv.ov, hv.ack, hv.sent, hv.m, hv.ho, hv.fin, hv.told]
  rw [g1, g2]
  dsimp only [outVu]
  rw [hg]
  simp only [DT.run_br, DT.run_leaf, xdec, xnot, xwrap, w1, w2, hi, e_xneI, decide_true, Bool.not_true, cond_true, cond_false]
  by_cases c : (giveU u).2.1.fin = 0
  · rw [if_neg (fun h => h c)]
    simp only [c, ne_eq, not_true, decide_false, cond_false]
    exact ⟨_, rfl, ⟨rfl, rfl, rfl, rfl, rfl, rfl, rfl, rfl, rfl, rfl, rfl, rfl, rfl, rfl, rfl, rfl, rfl⟩⟩
  · rw [if_pos c]
    simp only [c, ne_eq, not_false_eq_true, decide_true, cond_true]
    exact ⟨_, rfl, ⟨rfl, rfl, rfl, rfl, rfl, rfl, rfl, rfl, rfl, rfl, rfl, rfl, rfl, rfl, rfl, rfl, rfl⟩⟩
theorem over_out {u : SubL} (fit : FitU u) {n i : Int} {v : S.law15_SubOver_9_V} (hv : OvAt u n i v) (hi : i < 10) (hg : (giveU u).2.2 = false) : S.law15_SubOver_9_r v = some (some 0, v) := by
  have g1 := q_uGive_is u fit
  have g2 := q_uGive_o u fit
  have h : (S.law15_SubOver_9_R v).run = some (some 0, v) := by
    unfold S.law15_SubOver_9_R
    dsimp only
    rw [hv.ix, hv.id, hv.se, hv.st, hv.wi, hv.ag, hv.as', hv.af, hv.r, hv.ov, hv.ack, hv.sent, hv.m, hv.ho, hv.fin, hv.told]
    rw [g1, g2]
    dsimp only [outVu]
    rw [hg]
    simp only [DT.run_br, DT.run_leaf, xdec, xnot, hi, decide_true, Bool.not_false, cond_true]
  exact h
theorem ovAt_fit {u : SubL} (fit : FitU u) (i : Nat) : FitU (ovAt u i) := by
  unfold ovAt
  split
  · exact ⟨fit.l, fit.r, fit.m⟩
  · exact ⟨fit.l, fit.r, fit.m⟩
theorem over_walk {u : SubL} (hu : mayU u) (fit : FitU u) (h1 : u.fin ≠ 0) (h2 : u.hold = false) (h3 : u.told = false) : ∀ (k i : Nat) (v : S.law15_SubOver_9_V), i + k = ovN u + 1 → OvAt (ovAt u i) (if i = ovN u + 1 then 1 else 0) i v →
    ∃ v', Lp S.law15_SubOver_9_r v = some (0, v') ∧ OvAt (ovAt u (ovN u + 1)) 1 (ovN u + 1 : Nat) v'
  | 0, i, v, hi, hv => by
    have e : i = ovN u + 1 := by omega
    subst e
    rw [if_pos rfl] at hv
    have h6 := ovN_le hu
    exact ⟨v, Lp_exit (over_out (ovAt_fit fit _) hv (by omega) (by rw [(ov_end hu h1 h2).2])), hv⟩
  | k + 1, i, v, hi, hv => by
    have h6 := ovN_le hu
    rw [if_neg (by omega)] at hv
    obtain ⟨g1, g2, g3, g4⟩ := ov_give hu h1 h2 h3 (i := i) (by omega)
    obtain ⟨v1, r1, r2⟩ := over_go (ovAt_fit fit i) hv (by omega) (by omega) (by omega) g3
    rw [g2] at r2
    have e1 : (if (giveU (ovAt u i)).2.1.fin ≠ 0 then (0 : Int) + 1 else 0) = if i + 1 = ovN u + 1 then 1 else 0 := by
      by_cases c : i = ovN u
      · rw [if_pos (g4.2 c), if_pos (by omega)]; rfl
      · rw [if_neg (fun h => c (g4.1 h)), if_neg (by omega)]
    rw [e1] at r2
    have e2 : ((i : Int) + 1) = ((i + 1 : Nat) : Int) := by omega
    rw [e2] at r2
    obtain ⟨v2, s1, s2⟩ := over_walk hu fit h1 h2 h3 k (i + 1) v1 (by omega) r2
    exact ⟨v2, by rw [Lp_cont r1, s1], s2⟩
theorem law_SubOver (n2 : Option Bool) (f2 : Bool) (n7 : Option Bool) (f7 : Bool) (n11 : Option Bool) (f11 : Bool) (u : SubL) (e : Evt) (at' : Int) :
    S.law15_SubOver u.id u.sess n2 f2 u.s.q.steps u.s.q.within u.s.q.agg u.s.q.aggStep u.s.q.aggF n7 f7 u.s.r u.s.over u.ack u.sent n11 f11 u.m u.hold u.fin u.told e.name e.at_ e.v at' = some ⟨true⟩ := by
  unfold S.law15_SubOver S.law15_SubOver_R; dsimp only
  simp only [DT.run_br, DT.run_leaf, DT.run_fail, q_awake15_is, q_awake15_o, q_few15_is, q_few06_is, xnot, Bool.not_true, cond_true, cond_false]
  cases hf : (S.law15_Few_o u.s.q.steps u.s.r u.m).x0 with
  | false => simp
  | true =>
  obtain ⟨hl8, hr10, hm20⟩ := q_few15_o _ _ _ hf
  have fit : FitU u := fit_of hl8 hr10 (by omega)
  cases hg : (S.law06_Few_o e.name e.v).x0 with
  | false => simp
  | true =>
  rw [q_uMay_is u fit.l, q_uMay_o u fit.l]
  by_cases hu : mayU u
  case neg => simp [hu]
  by_cases c0 : u.fin = 0
  · simp [hu, c0, e_xeqI]
  cases ch : u.hold with
  | true => simp [hu, c0, e_xeqI]
  | false =>
  have fin : ∃ (t : SubL) (n i : Int) (v' : S.law15_SubOver_9_V), Lp S.law15_SubOver_9_r (⟨0, 0, u.id, u.sess, n2, f2, u.s.q.steps, u.s.q.within, u.s.q.agg, u.s.q.aggStep, u.s.q.aggF, n7, f7, u.s.r, u.s.over, u.ack, u.sent, n11, f11, u.m, false, u.fin, u.told⟩ : S.law15_SubOver_9_V) = some (0, v') ∧ OvAt t n i v' ∧ FitU t ∧ t.fin ≠ 0 ∧ t.told = true ∧ (giveU t).2.2 = false ∧ n = (if u.told = true then 0 else 1) := by
    cases ht : u.told with
    | true =>
      have g := told_give hu c0 ch ht
      refine ⟨u, 0, 0, _, Lp_exit (over_out fit (n := 0) (i := 0) ⟨rfl, rfl, rfl, rfl, rfl, rfl, rfl, rfl, rfl, rfl, rfl, rfl, rfl, rfl, ch.symm, rfl, ht.symm⟩ (by decide) (by rw [g])), ⟨rfl, rfl, rfl, rfl, rfl, rfl, rfl, rfl, rfl, rfl, rfl, rfl, rfl, rfl, ch.symm, rfl, ht.symm⟩, fit, c0, ht, by rw [g], rfl⟩
    | false =>
      obtain ⟨w1, w2⟩ := ov_end hu c0 ch
      have hz := hu.2.2.2.1
      obtain ⟨r1, r2, r3, r4, r5⟩ := hz
      have e0 : ovAt u 0 = u := by
        unfold ovAt
        rw [if_pos (by simpa using r5)]
        simp
      obtain ⟨v', k1, k2⟩ := over_walk hu fit c0 ch ht (ovN u + 1) 0 ⟨0, 0, u.id, u.sess, n2, f2, u.s.q.steps, u.s.q.within, u.s.q.agg, u.s.q.aggStep, u.s.q.aggF, n7, f7, u.s.r, u.s.over, u.ack, u.sent, n11, f11, u.m, false, u.fin, false⟩ (by omega) (by
        rw [e0, if_neg (by omega)]
        exact ⟨rfl, rfl, rfl, rfl, rfl, rfl, rfl, rfl, rfl, rfl, rfl, rfl, rfl, rfl, ch.symm, rfl, ht.symm⟩)
      exact ⟨ovAt u (ovN u + 1), 1, _, v', k1, k2, ovAt_fit fit _, by rw [w1]; exact c0, by rw [w1], by rw [w2], by simp⟩
  obtain ⟨t, n, i, v', k1, hv, ft, t1, t2, t3, t4⟩ := fin
  have j0 : S.law15_SubOver_9_j (⟨0, 0, u.id, u.sess, n2, f2, u.s.q.steps, u.s.q.within, u.s.q.agg, u.s.q.aggStep, u.s.q.aggF, n7, f7, u.s.r, u.s.over, u.ack, u.sent, n11, f11, u.m, false, u.fin, u.told⟩ : S.law15_SubOver_9_V) 0 = true := by unfold S.law15_SubOver_9_j; rw [Lp_j_of k1]; rfl
  have jv : S.law15_SubOver_9_v (⟨0, 0, u.id, u.sess, n2, f2, u.s.q.steps, u.s.q.within, u.s.q.agg, u.s.q.aggStep, u.s.q.aggF, n7, f7, u.s.r, u.s.over, u.ack, u.sent, n11, f11, u.m, false, u.fin, u.told⟩ : S.law15_SubOver_9_V) = v' := by unfold S.law15_SubOver_9_v; rw [Lp_v_of k1]
  have F1 := q_uFeed_is t e at' ft
  have F2 := q_uFeed_o t e at' ft
  rw [feed_over (H := HB) t1 e at'] at F2
  have G1 := q_uGive_is t ft
  have G2 := q_uGive_o t ft
  rw [j0, jv, hv.n, hv.id, hv.se, hv.st, hv.wi, hv.ag, hv.as', hv.af, hv.r, hv.ov, hv.ack, hv.sent, hv.m, hv.ho, hv.fin, hv.told]
  rw [F1, F2]
  dsimp only [outFu]
  rw [G1, G2]
  dsimp only [outVu]
  rw [t3, t2, t4]
  cases ht : u.told <;> simp [hu, c0, e_xeqI, xdec]
end Go.Eng
