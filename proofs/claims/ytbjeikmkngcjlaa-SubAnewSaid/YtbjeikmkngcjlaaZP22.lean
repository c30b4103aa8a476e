/- The laws of subscriptions: sent anew. -/
import Derived.Test.YtbjeikmkngcjlaaZP21
import Derived.Test.YtbjeikmkngcjlaaZL22
set_option linter.unusedVariables false
set_option linter.unusedSimpArgs false
namespace Go.Eng
open Go Go.Eng
def AnAt (u : SubL) (i : Int) : S.law15_SubAnew_9_V := ⟨i, u.id, u.sess, u.s.q.steps, u.s.q.within, u.s.q.agg, u.s.q.aggStep, u.s.q.aggF, u.s.r, u.s.over, u.ack, u.sent, u.m, u.hold, u.fin, u.told⟩
theorem anew_loop (u : SubL) (hu : mayU u) (fit : FitU u) (x : Int) (hx : whyL u.ack u.sent u.m x = 0) : ∀ (k i : Nat), i + k = u.m.length → x ≤ u.ack + i →
    Lp (S.law15_SubAnew_9_r u.id u.ack u.m) (AnAt { goL u x with sent := u.ack + (i : Nat) } i) = some (1, AnAt { goL u x with sent := u.ack + (u.m.length : Nat) } u.m.length)
  | 0, i, hi, _ => by
    have e : i = u.m.length := by omega
    subst e
    refine Lp_exit ?_
    unfold S.law15_SubAnew_9_r S.law15_SubAnew_9_R AnAt
    simp [DT.run_br, DT.run_leaf, xdec]
  | k + 1, i, hi, hxi => by
    have hi' : i < u.m.length := by omega
    obtain ⟨hr, k1, k2⟩ := whyL_zero.1 hx
    obtain ⟨r1, r2, r3, r4, r5⟩ := hr
    have fg : FitU { goL u x with sent := u.ack + (i : Nat) } := ⟨fit.l, fit.r, fit.m⟩
    have g1 := q_uGive_is { goL u x with sent := u.ack + (i : Nat) } fg
    have g2 := q_uGive_o { goL u x with sent := u.ack + (i : Nat) } fg
    rw [anew_give hu hx hxi hi'] at g2
    have z1 : ((i : Int) < (u.m.length : Int)) := by omega
    have z2 : (0 : Int) ≤ (i : Int) := by omega
    have w1 : IntKind.i64.wrap (u.ack + (i : Int)) = u.ack + i := e_wrap (by omega) (by omega)
    have w2 : IntKind.i64.wrap (u.ack + (i : Int) + 1) = u.ack + i + 1 := e_wrap (by omega) (by omega)
    have hround : S.law15_SubAnew_9_r u.id u.ack u.m (AnAt { goL u x with sent := u.ack + (i : Nat) } i) = some (none, AnAt { goL u x with sent := u.ack + ((i + 1 : Nat) : Int) } ((i + 1 : Nat) : Int)) := by
      unfold S.law15_SubAnew_9_r S.law15_SubAnew_9_R AnAt
      dsimp only at g1 g2 ⊢
      rw [g1, g2, Int.toNat_natCast, getD_of u.m i _ hi']
      dsimp only [outVu]
      simp [DT.run_br, DT.run_leaf, DT.run_fail, xdec, xnot, xwrap, e_xneI, e_xeqI, xeqB, z1, z2, hi', w1, w2, e_wrap1 (show i ≤ 1048576 by omega)]
    rw [Lp_cont hround]
    exact anew_loop u hu fit x hx k (i + 1) (by omega) (by omega)
theorem law_SubAnew (u : SubL) (x : Int) :
    S.law15_SubAnew u.id u.sess u.s.q.steps u.s.q.within u.s.q.agg u.s.q.aggStep u.s.q.aggF u.s.r u.s.over u.ack u.sent u.m u.fin u.told x = some ⟨true⟩ := by
  unfold S.law15_SubAnew S.law15_SubAnew_R; dsimp only
  simp only [DT.run_br, DT.run_leaf, DT.run_fail, q_awake15_is, q_awake15_o, q_few15_is, xnot, Bool.not_true, cond_true, cond_false]
  cases hf : (S.law15_Few_o u.s.q.steps u.s.r u.m).x0 with
  | false => simp
  | true =>
  obtain ⟨hl8, hr10, hm20⟩ := q_few15_o _ _ _ hf
  have fit : FitU u := fit_of hl8 hr10 (by omega)
  rw [q_uMay_is u fit.l, q_uMay_o u fit.l]
  by_cases hu : mayU u
  case neg => simp [hu]
  have O1 := q_uGo_is u x fit
  have O2 := q_uGo_o u x fit
  have hr := hu.2.2.2.1
  rw [O1, O2]
  simp only [hu, decide_true, Bool.not_true, cond_true, cond_false]
  by_cases c : whyL u.ack u.sent u.m x = 0
  case neg =>
    rw [if_neg c]
    have hc : x < u.ack ∨ u.sent < x := by
      by_cases h1 : x < u.ack ∨ u.sent < x
      · exact h1
      · exact absurd (whyL_zero.2 ⟨hr, by omega, by omega⟩) c
    dsimp only [outGu]
    simp only [e_xneI, c, ne_eq, not_false_eq_true, decide_true, cond_true, xdec]
    by_cases h1 : x < u.ack
    · simp [h1]
    · have h2 : x > u.sent := by omega
      simp [h1, h2]
  rw [if_pos c]
  obtain ⟨_, k1, k2⟩ := whyL_zero.1 c
  obtain ⟨r1, r2, r3, r4, r5⟩ := hr
  have w : IntKind.i64.wrap (x - u.ack) = x - u.ack := e_wrap (by omega) (by omega)
  obtain ⟨i, hi⟩ : ∃ i : Nat, x = u.ack + i := ⟨(x - u.ack).toNat, by omega⟩
  have e0 : (⟨IntKind.i64.wrap (x - u.ack), u.id, u.sess, u.s.q.steps, u.s.q.within, u.s.q.agg, u.s.q.aggStep, u.s.q.aggF, u.s.r, u.s.over, u.ack, x, u.m, false, u.fin, false⟩ : S.law15_SubAnew_9_V) = AnAt { goL u x with sent := u.ack + (i : Nat) } i := by
    unfold AnAt
    have : x - u.ack = (i : Int) := by omega
    rw [w, this]
    simp [goL, hi]
  have lp := anew_loop u hu fit x c (u.m.length - i) i (by omega) (by omega)
  have fe : FitU { goL u x with sent := u.ack + (u.m.length : Nat) } := ⟨fit.l, fit.r, fit.m⟩
  have G1 := q_uGive_is { goL u x with sent := u.ack + (u.m.length : Nat) } fe
  have G2 := q_uGive_o { goL u x with sent := u.ack + (u.m.length : Nat) } fe
  have ge := anew_end hu c
  dsimp only [outGu, goL, xwrap]
  rw [e0]
  have j0 : S.law15_SubAnew_9_j u.id u.ack u.m (AnAt { goL u x with sent := u.ack + (i : Nat) } i) 0 = false := by unfold S.law15_SubAnew_9_j; rw [Lp_j_of lp]; rfl
  have j1 : S.law15_SubAnew_9_j u.id u.ack u.m (AnAt { goL u x with sent := u.ack + (i : Nat) } i) 1 = true := by unfold S.law15_SubAnew_9_j; rw [Lp_j_of lp]; rfl
  have jv : S.law15_SubAnew_9_v u.id u.ack u.m (AnAt { goL u x with sent := u.ack + (i : Nat) } i) = AnAt { goL u x with sent := u.ack + (u.m.length : Nat) } u.m.length := by unfold S.law15_SubAnew_9_v; rw [Lp_v_of lp]
  rw [j0, j1, jv]
  dsimp only [AnAt]
  rw [G1, G2]
  dsimp only [outVu]
  rw [ge]
  simp only [e_xneI, ne_eq, not_true, decide_false, cond_true, cond_false]
  by_cases f0 : u.fin = 0
  · rw [if_pos f0]
    simp [f0, e_xeqI]
  · rw [if_neg f0]
    simp [f0, e_xeqI, xeqB]
    exact ⟨rfl, rfl, rfl, rfl⟩
end Go.Eng
