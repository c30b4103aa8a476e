/- What a subscription's functions come to, in plain words. -/
import Derived.Test.YtbjeikmkngcjlaaZG9
import Derived.Test.YtbjeikmkngcjlaaZP13
import Derived.Test.YtbjeikmkngcjlaaZM3
import Derived.Test.YtbjeikmkngcjlaaZR1
set_option linter.unusedVariables false
set_option linter.unusedSimpArgs false
namespace Go.Eng
open Go Go.Eng
theorem rMay_L (a s : Int) (m : MM) : rMay a s m = decide (rMayL a s m) := by
  unfold rMay; rw [decide_eq_decide]; exact Iff.rfl
theorem rWhy_L (a s : Int) (m : MM) (x : Int) : rWhy a s m x = whyL a s m x := by
  unfold rWhy whyL
  by_cases h : rMayL a s m
  · rw [if_pos (by rw [rMay_L]; simpa using h), if_pos h]
  · rw [if_neg (by rw [rMay_L]; simpa using h), if_neg h]
theorem q_cloneM {a : List (Ty .mat)} (hb : a.length ≤ 1048576) : S.Clone_mat_nn a = some ⟨a, a.length⟩ := by
  unfold S.Clone_mat_nn S.Clone_mat_nn_R
  have h2 : (a.length : Int) ≤ 1048576 := by omega
  simp [DT.run_br, DT.run_leaf, xdec, hb]
theorem q_cloneM_is {a : List (Ty .mat)} (hb : a.length ≤ 1048576) : S.Clone_mat_nn_is a = true := by unfold S.Clone_mat_nn_is; rw [q_cloneM hb]; rfl
theorem q_cloneM_o {a : List (Ty .mat)} (hb : a.length ≤ 1048576) : S.Clone_mat_nn_o a = ⟨a, a.length⟩ := by unfold S.Clone_mat_nn_o; rw [q_cloneM hb]; rfl
theorem q_uMay (u : SubL) (hl : u.s.q.steps.length ≤ 1048576) : S.sub_May u.id u.sess u.s.q.steps u.s.r u.s.over u.ack u.sent u.m u.fin u.told = some ⟨decide (mayU u)⟩ := by
  unfold S.sub_May S.sub_May_R
  dsimp only
  rw [q_mMay_is u.s hl, q_mMay_o u.s hl, p_May_is, p_May_o, rMay_L]
  simp only [DT.run_br, DT.run_leaf, DT.run_fail, xdec, xnot, e_xeqI, e_xneI, cond_true, xwrap]
  by_cases c1 : u.id < 0
  · have : ¬ mayU u := fun h => by have := h.1; omega
    simp [c1, this]
  by_cases c2 : u.sess < 0
  · have : ¬ mayU u := fun h => by have := h.2.1; omega
    simp [c1, c2, this]
  by_cases c3 : mayS u.s
  case neg =>
    have : ¬ mayU u := fun h => c3 h.2.2.1
    simp [c1, c2, c3, this]
  by_cases c4 : rMayL u.ack u.sent u.m
  case neg =>
    have : ¬ mayU u := fun h => c4 h.2.2.2.1
    simp [c1, c2, c3, c4, this]
  have w : IntKind.i64.wrap (u.ack + (u.m.length : Int)) = u.ack + u.m.length := by
    obtain ⟨g1, g2, g3, g4, g5⟩ := c4
    exact e_wrap (by omega) (by omega)
  have key : mayU u ↔ ((u.fin = 0 ∧ u.s.over = -1 ∧ u.told = false) ∨ ((u.fin = 1 ∧ u.s.over ≠ -1 ∨ u.fin = 2) ∧ u.s.r.length = 0 ∧ (u.told = false ∨ u.sent = u.ack + u.m.length))) :=
    ⟨fun h => h.2.2.2.2, fun h => ⟨by omega, by omega, c3, c4, h⟩⟩
  have e0 : ((u.s.r.length : Int) = 0) = (u.s.r.length = 0) := by apply propext; omega
  simp only [c1, c2, c3, c4, w, e0, key, decide_true, decide_false, Bool.not_true, cond_true, cond_false]
  by_cases f0 : u.fin = 0
  · by_cases o : u.s.over = -1
    · cases ht : u.told <;> simp [f0, o, ht]
    · simp [f0, o]
  by_cases f1 : u.fin = 1
  · by_cases o : u.s.over = -1
    · simp [f0, f1, o]
    · by_cases z : u.s.r.length = 0
      · cases ht : u.told <;> simp [f1, o, z, ht]
      · have z' : ¬ u.s.r = [] := fun h => z (by rw [h]; rfl)
        simp [f1, o, z, z']
  by_cases f2 : u.fin = 2
  · by_cases z : u.s.r.length = 0
    · cases ht : u.told <;> simp [f2, z, ht]
    · have z' : ¬ u.s.r = [] := fun h => z (by rw [h]; rfl)
      simp [f2, z, z']
  · simp [f0, f1, f2]
theorem q_uMay_is (u : SubL) (hl : u.s.q.steps.length ≤ 1048576) : S.sub_May_is u.id u.sess u.s.q.steps u.s.r u.s.over u.ack u.sent u.m u.fin u.told = true := by simp [S.sub_May_is, q_uMay u hl]
theorem q_uMay_o (u : SubL) (hl : u.s.q.steps.length ≤ 1048576) : (S.sub_May_o u.id u.sess u.s.q.steps u.s.r u.s.over u.ack u.sent u.m u.fin u.told).x0 = decide (mayU u) := by simp [S.sub_May_o, q_uMay u hl]
structure FitU (u : SubL) : Prop where
  l : u.s.q.steps.length ≤ 1048576
  r : u.s.r.length ≤ 1048576
  m : u.m.length ≤ 1048575
def outFu (u : SubL) : S.sub_Feed_T := ⟨u.id, u.sess, u.s.q.steps, u.s.q.within, u.s.q.agg, u.s.q.aggStep, u.s.q.aggF, u.s.r, u.s.over, u.ack, u.sent, u.m, u.hold, u.fin, u.told⟩
def outHu (u : SubL) : S.sub_Hold_T := ⟨u.id, u.sess, u.s.q.steps, u.s.q.within, u.s.q.agg, u.s.q.aggStep, u.s.q.aggF, u.s.r, u.s.over, u.ack, u.sent, u.m, u.hold, u.fin, u.told⟩
def outAu (u : SubL) (e : Int) : S.sub_Ack_T := ⟨u.id, u.sess, u.s.q.steps, u.s.q.within, u.s.q.agg, u.s.q.aggStep, u.s.q.aggF, u.s.r, u.s.over, u.ack, u.sent, u.m, u.hold, u.fin, u.told, e⟩
def outGu (u : SubL) (e : Int) : S.sub_Go_T := ⟨u.id, u.sess, u.s.q.steps, u.s.q.within, u.s.q.agg, u.s.q.aggStep, u.s.q.aggF, u.s.r, u.s.over, u.ack, u.sent, u.m, u.hold, u.fin, u.told, e⟩
def outVu (p : SubL × NoteL × Bool) : S.sub_Give_T := ⟨p.1.id, p.1.sess, p.1.s.q.steps, p.1.s.q.within, p.1.s.q.agg, p.1.s.q.aggStep, p.1.s.q.aggF, p.1.s.r, p.1.s.over, p.1.ack, p.1.sent, p.1.m, p.1.hold, p.1.fin, p.1.told, p.2.1.sub, p.2.1.seq, p.2.1.fin, p.2.1.m.start, p.2.1.m.fin, p.2.1.m.agg, p.2.1.m.bad, p.2.2⟩
def noU : SubL := ⟨0, 0, ⟨⟨[], 0, 0, 0, 0⟩, [], 0⟩, 0, 0, [], false, 0, false⟩
theorem sub_whole {α : Type} (l : List α) : sub l 0 (0 + l.length) = l := by rw [sub_take, List.take_length]
theorem q_uHold (u : SubL) (h : FitU u) : S.sub_Hold u.id u.sess u.s.q.steps u.s.q.within u.s.q.agg u.s.q.aggStep u.s.q.aggF u.s.r u.s.over u.ack u.sent u.m u.fin u.told = some (outHu (holdL u)) := by
  have hm : u.m.length ≤ 1048576 := by have := h.m; omega
  unfold S.sub_Hold S.sub_Hold_R
  dsimp only
  rw [q_cloneR_is h.r, q_cloneR_o h.r, q_cloneM_is hm, q_cloneM_o hm]
  dsimp only
  rw [sub_whole, sub_whole]
  simp [DT.run_br, DT.run_leaf, xdec, outHu, holdL]
theorem q_uAck (u : SubL) (x : Int) (h : FitU u) : S.sub_Ack u.id u.sess u.s.q.steps u.s.q.within u.s.q.agg u.s.q.aggStep u.s.q.aggF u.s.r u.s.over u.ack u.sent u.m u.hold u.fin u.told x =
    some (if whyL u.ack u.sent u.m x = 0 then outAu (ackL u x) 0 else outAu noU (whyL u.ack u.sent u.m x)) := by
  have hm : u.m.length ≤ 1048576 := by have := h.m; omega
  have ra := p_Ack u.ack u.sent u.m x
  rw [rWhy_L] at ra
  have r1 : S.ring_Ack_is u.ack u.sent u.m x = true := by simp [S.ring_Ack_is, ra]
  have r2 : S.ring_Ack_o u.ack u.sent u.m x = if whyL u.ack u.sent u.m x = 0 then ⟨x, u.sent, u.m.drop (x - u.ack).toNat, 0⟩ else ⟨0, 0, [], whyL u.ack u.sent u.m x⟩ := by simp [S.ring_Ack_o, ra]
  unfold S.sub_Ack S.sub_Ack_R
  dsimp only
  rw [q_cloneR_is h.r, q_cloneR_o h.r, q_cloneM_is hm, r1, r2]
  dsimp only
  rw [sub_whole]
  by_cases c : whyL u.ack u.sent u.m x = 0
  · rw [if_pos c, if_pos c]
    simp [DT.run_br, DT.run_leaf, xdec, xneI, outAu, ackL]
  · rw [if_neg c, if_neg c]
    simp [DT.run_br, DT.run_leaf, xdec, e_xneI, outAu, noU, c]
theorem q_uGo (u : SubL) (x : Int) (h : FitU u) : S.sub_Go u.id u.sess u.s.q.steps u.s.q.within u.s.q.agg u.s.q.aggStep u.s.q.aggF u.s.r u.s.over u.ack u.sent u.m u.fin x =
    some (if whyL u.ack u.sent u.m x = 0 then outGu (goL u x) 0 else outGu noU (whyL u.ack u.sent u.m x)) := by
  have hm : u.m.length ≤ 1048576 := by have := h.m; omega
  have ra := p_Back u.ack u.sent u.m x
  rw [rWhy_L] at ra
  have r1 : S.ring_Back_is u.ack u.sent u.m x = true := by simp [S.ring_Back_is, ra]
  have r2 : S.ring_Back_o u.ack u.sent u.m x = if whyL u.ack u.sent u.m x = 0 then ⟨u.ack, x, u.m, 0⟩ else ⟨0, 0, [], whyL u.ack u.sent u.m x⟩ := by simp [S.ring_Back_o, ra]
  unfold S.sub_Go S.sub_Go_R
  dsimp only
  rw [q_cloneR_is h.r, q_cloneR_o h.r, q_cloneM_is hm, r1, r2]
  dsimp only
  rw [sub_whole]
  by_cases c : whyL u.ack u.sent u.m x = 0
  · rw [if_pos c, if_pos c]
    simp [DT.run_br, DT.run_leaf, xdec, xneI, outGu, goL]
  · rw [if_neg c, if_neg c]
    simp [DT.run_br, DT.run_leaf, xdec, e_xneI, outGu, noU, c]
theorem q_uGive (u : SubL) (h : FitU u) : S.sub_Give u.id u.sess u.s.q.steps u.s.q.within u.s.q.agg u.s.q.aggStep u.s.q.aggF u.s.r u.s.over u.ack u.sent u.m u.hold u.fin u.told = some (outVu (giveU u)) := by
  have hm : u.m.length ≤ 1048576 := by have := h.m; omega
  have ra := p_Next (a := u.ack) (s := u.sent) hm
  have r1 : S.ring_Next_is u.ack u.sent u.m = true := by simp [S.ring_Next_is, ra]
  have r2 := congrArg (fun o => Option.getD o default) ra
  have r3 : S.ring_Next_o u.ack u.sent u.m = _ := r2
  rw [rMay_L, Option.getD_some] at r3
  unfold S.sub_Give S.sub_Give_R
  dsimp only
  rw [q_cloneR_is h.r, q_cloneR_o h.r, q_cloneM_is hm, q_cloneM_o hm, q_uMay_is u h.l, q_uMay_o u h.l, r1, r3]
  dsimp only
  rw [sub_whole, sub_whole]
  unfold giveU
  by_cases c1 : mayU u
  case neg =>
    rw [if_pos (show ¬ mayU u ∨ u.hold = true from .inl c1)]
    simp [DT.run_br, DT.run_leaf, xdec, xnot, c1, outVu, noNote]
    exact ⟨rfl, rfl, rfl, rfl⟩
  cases c2 : u.hold with
  | true =>
    rw [if_pos (show ¬ mayU u ∨ true = true from .inr rfl)]
    simp [DT.run_br, DT.run_leaf, xdec, xnot, c1, outVu, noNote, c2]
    exact ⟨rfl, rfl, rfl, rfl⟩
  | false =>
  rw [if_neg (show ¬ (¬ mayU u ∨ false = true) by intro hh; rcases hh with hh | hh; exact hh c1; cases hh)]
  have c3 : rMayL u.ack u.sent u.m := c1.2.2.2.1
  by_cases c4 : u.sent = u.ack + u.m.length
  · rw [if_neg (show ¬ (u.sent ≠ u.ack + u.m.length) from fun hh => hh c4), if_neg (show ¬ (decide (rMayL u.ack u.sent u.m) = true ∧ u.sent ≠ u.ack + u.m.length) from fun hh => hh.2 c4)]
    by_cases c5 : u.fin = 0 ∨ u.told = true
    · rw [if_pos c5]
      rcases c5 with c5 | c5
      · simp [DT.run_br, DT.run_leaf, xdec, xnot, e_xeqI, c1, outVu, noNote, c2, c5]
        exact ⟨rfl, rfl, rfl, rfl⟩
      · by_cases c6 : u.fin = 0
        · simp [DT.run_br, DT.run_leaf, xdec, xnot, e_xeqI, c1, outVu, noNote, c2, c6]
          exact ⟨rfl, rfl, rfl, rfl⟩
        · simp [DT.run_br, DT.run_leaf, xdec, xnot, e_xeqI, c1, outVu, noNote, c2, c5, c6]
          exact ⟨rfl, rfl, rfl, rfl⟩
    · rw [if_neg c5]
      have c6 : ¬ u.fin = 0 := fun hh => c5 (.inl hh)
      have c7 : u.told = false := by cases ht : u.told; rfl; exact absurd (.inr ht) c5
      simp [DT.run_br, DT.run_leaf, xdec, xnot, e_xeqI, c1, outVu, c2, c6, c7]
      exact ⟨rfl, rfl, rfl, rfl⟩
  · rw [if_pos (show u.sent ≠ u.ack + u.m.length from c4), if_pos (show decide (rMayL u.ack u.sent u.m) = true ∧ u.sent ≠ u.ack + u.m.length from ⟨decide_eq_true c3, c4⟩)]
    simp only [DT.run_br, DT.run_leaf, xdec, xnot, c1, decide_true, Bool.not_true, cond_true, cond_false, Nat.zero_add, Nat.le_refl, Bool.and_self, outVu]
    rfl
theorem rMayL_put {a s : Int} {m : List Mat} (h : rMayL a s m ∧ m.length ≠ 6 ∧ a + m.length ≠ 1099511627776) (x : Mat) : rMayL a s (m ++ [x]) := by
  obtain ⟨⟨g1, g2, g3, g4, g5⟩, h1, h2⟩ := h
  refine ⟨g1, ?_, ?_, g4, ?_⟩ <;> simp only [List.length_append, List.length_cons, List.length_nil] <;> omega
theorem ufeed_loop (l : List (Ty .mat)) (hb : l.length ≤ 1000) (a s : Int) : ∀ (k i : Nat) (m : List Mat), i + k = l.length → rMayL a s m → ∃ v', Lp (S.sub_Feed_8_r l l.length) (⟨i, a, s, m⟩ : S.sub_Feed_8_V) = some (if (putM a s m (l.drop i)).1 = true then 2 else 1, v') ∧
    v'.h_24_9 = a ∧ v'.h_24_10 = s ∧ v'.h_24_11 = (putM a s m (l.drop i)).2
  | 0, i, m, hi, hr => by
    have e : l.drop i = [] := List.drop_eq_nil_of_le (by omega)
    refine ⟨(⟨i, a, s, m⟩ : S.sub_Feed_8_V), (Lp_exit (j := 2) (v' := (⟨i, a, s, m⟩ : S.sub_Feed_8_V)) ?_).trans ?_, rfl, rfl, ?_⟩
    · unfold S.sub_Feed_8_r S.sub_Feed_8_R
      have : ¬ ((i : Int) < (l.length : Int)) := by omega
      simp only [DT.run_br, DT.run_leaf, xdec, this, decide_false, cond_false]
    · rw [e]; rfl
    · rw [e]; rfl
  | k + 1, i, m, hi, hr => by
    have hi' : i < l.length := by omega
    have z1 : ((i : Int) < (l.length : Int)) := by omega
    have z2 : (0 : Int) ≤ (i : Int) := by omega
    obtain ⟨g1, g2, g3, g4, g5⟩ := hr
    have hm : m.length ≤ 1048576 := by omega
    have ra := p_Add (a := a) (s := s) (m := m) (e1 := l[i].start) (e2 := l[i].fin) (e3 := l[i].agg) (e4 := l[i].bad) hm
    rw [rMay_L] at ra
    have r1 : S.ring_Add_is a s m l[i].start l[i].fin l[i].agg l[i].bad = true := by simp [S.ring_Add_is, ra]
    have r2 : S.ring_Add_o a s m l[i].start l[i].fin l[i].agg l[i].bad = _ := congrArg (fun o => Option.getD o default) ra
    rw [Option.getD_some] at r2
    have w : IntKind.i64.wrap (s - a) = s - a := e_wrap (by omega) (by omega)
    have hround : S.sub_Feed_8_r l l.length (⟨i, a, s, m⟩ : S.sub_Feed_8_V) = if rMayL a s m ∧ m.length ≠ 6 ∧ a + m.length ≠ 1099511627776 then some (none, ⟨((i + 1 : Nat) : Int), a, s, m ++ [l[i]]⟩) else some (some 1, ⟨i, a, s, m⟩) := by
      unfold S.sub_Feed_8_r S.sub_Feed_8_R
      dsimp only
      rw [Int.toNat_natCast, getD_of l i _ hi', r1, r2]
      by_cases c : rMayL a s m ∧ m.length ≠ 6 ∧ a + m.length ≠ 1099511627776
      · rw [if_pos c, if_pos ⟨decide_eq_true c.1, by have := c.2.1; omega, c.2.2⟩]
        simp only [DT.run_br, DT.run_leaf, DT.run_fail, xdec, xnot, xwrap, z1, z2, decide_true, Bool.not_true, Bool.and_self, cond_true, cond_false, e_wrap1 (show i ≤ 1048576 by omega)]
      · rw [if_neg c, if_neg (fun hh => c ⟨of_decide_eq_true hh.1, by have := hh.2.1; omega, hh.2.2⟩)]
        have z3 : (0 : Int) ≤ s - a := by omega
        have z4 : s - a ≤ Int.ofNat m.length := by show _ ≤ ((m.length : Nat) : Int); omega
        simp only [DT.run_br, DT.run_leaf, DT.run_fail, xdec, xnot, xwrap, w, z1, z2, z3, z4, decide_true, Bool.not_false, Bool.and_self, cond_true, cond_false]
    have ed : l.drop i = l[i] :: l.drop (i + 1) := List.drop_eq_getElem_cons hi'
    by_cases c : rMayL a s m ∧ m.length ≠ 6 ∧ a + m.length ≠ 1099511627776
    · rw [if_pos c] at hround
      obtain ⟨v', k1, k2, k3, k4⟩ := ufeed_loop l hb a s k (i + 1) (m ++ [l[i]]) (by omega) (rMayL_put c _)
      have ep : putM a s m (l.drop i) = putM a s (m ++ [l[i]]) (l.drop (i + 1)) := by
        rw [ed]; show (if _ then _ else _) = _; rw [if_pos c]
      rw [ep]
      exact ⟨v', by rw [Lp_cont hround, k1], k2, k3, k4⟩
    · rw [if_neg c] at hround
      have ep : putM a s m (l.drop i) = (false, m) := by
        rw [ed]; show (if _ then _ else _) = _; rw [if_neg c]
      rw [ep]
      exact ⟨_, Lp_exit hround, rfl, rfl, rfl⟩
theorem q_uFeed (u : SubL) (e : Evt) (at' : Int) (h : FitU u) : S.sub_Feed u.id u.sess u.s.q.steps u.s.q.within u.s.q.agg u.s.q.aggStep u.s.q.aggF u.s.r u.s.over u.ack u.sent u.m u.hold u.fin u.told e.name e.at_ e.v at' = some (outFu (feedU HB u e at')) := by
  have hm : u.m.length ≤ 1048576 := by have := h.m; omega
  have f1 := q_Feed_is u.s e at' h.l h.r
  have f2 := q_Feed_o u.s e at' h.l h.r
  unfold S.sub_Feed S.sub_Feed_R
  dsimp only
  rw [q_cloneR_is h.r, q_cloneR_o h.r, q_cloneM_is hm, q_cloneM_o hm, q_uMay_is u h.l, q_uMay_o u h.l, f1, f2]
  dsimp only [outF]
  rw [sub_whole, sub_whole]
  unfold feedU
  by_cases c1 : mayU u
  case neg =>
    rw [if_pos (show ¬ mayU u ∨ u.fin ≠ 0 from .inl c1)]
    simp [DT.run_br, DT.run_leaf, xdec, xnot, c1, outFu]
  by_cases c2 : u.fin = 0
  case neg =>
    rw [if_pos (show ¬ mayU u ∨ u.fin ≠ 0 from .inr c2)]
    simp [DT.run_br, DT.run_leaf, xdec, xnot, e_xneI, c1, c2, outFu]
  rw [if_neg (show ¬ (¬ mayU u ∨ u.fin ≠ 0) by intro hh; rcases hh with hh | hh; exact hh c1; exact hh c2)]
  have c3 : rMayL u.ack u.sent u.m := c1.2.2.2.1
  have l6 := feedL_len HB u.s e at'
  obtain ⟨v', k1, k2, k3, k4⟩ := ufeed_loop (feedL HB u.s e at').2 (by omega) u.ack u.sent (feedL HB u.s e at').2.length 0 u.m (by omega) c3
  rw [List.drop_zero] at k1 k4
  have w : IntKind.i64.wrap (u.sent - u.ack) = u.sent - u.ack := by
    obtain ⟨g1, g2, g3, g4, g5⟩ := c3
    exact e_wrap (by omega) (by omega)
  have kv : S.sub_Feed_8_v (feedL HB u.s e at').2 (feedL HB u.s e at').2.length (⟨0, u.ack, u.sent, u.m⟩ : S.sub_Feed_8_V) = v' := Lp_v_of k1
  have kj : ∀ j, S.sub_Feed_8_j (feedL HB u.s e at').2 (feedL HB u.s e at').2.length (⟨0, u.ack, u.sent, u.m⟩ : S.sub_Feed_8_V) j = ((if (putM u.ack u.sent u.m (feedL HB u.s e at').2).1 = true then 2 else 1) == j) := fun j => Lp_j_of k1 j
  rw [kv, kj, kj, kj, k2, k3, k4]
  cases hp : (putM u.ack u.sent u.m (feedL HB u.s e at').2).1 with
  | false =>
    rw [if_pos (show (false : Bool) = false from rfl)]
    simp [DT.run_br, DT.run_leaf, xdec, xnot, e_xneI, c1, c2, outFu, w, sub_take']
  | true =>
    rw [if_neg (show ¬ ((true : Bool) = false) by decide)]
    by_cases o : (feedL HB u.s e at').1.over = -1
    · simp [DT.run_br, DT.run_leaf, xdec, xnot, e_xneI, c1, c2, outFu, o]
    · simp [DT.run_br, DT.run_leaf, xdec, xnot, e_xneI, c1, c2, outFu, o]
end Go.Eng
