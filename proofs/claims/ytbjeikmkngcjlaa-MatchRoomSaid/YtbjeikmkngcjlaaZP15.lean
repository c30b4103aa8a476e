/- The laws of stores: room. -/
import Derived.Test.YtbjeikmkngcjlaaZP13
import Derived.Test.YtbjeikmkngcjlaaZL15
set_option linter.unusedVariables false
set_option linter.unusedSimpArgs false
namespace Go.Eng
open Go Go.Eng
theorem room_loop (l : List (Ty .run)) (hb : l.length ≤ 1000) : ∃ j v', Lp (S.law13_MatchRoom_9_r l) ⟨0⟩ = some (j, v') ∧ (j = 0 ∨ j = 1 ∧ ∀ r ∈ l, r.many ≤ 1099511627776) := by
  have hround : ∀ v, (fun v : S.law13_MatchRoom_9_V => 0 ≤ v.t_14_0 ∧ v.t_14_0 ≤ l.length ∧ ∀ i : Nat, (h : i < l.length) → (i : Int) < v.t_14_0 → l[i].many ≤ 1099511627776) v → (S.law13_MatchRoom_9_R l v).all (Stp (fun v : S.law13_MatchRoom_9_V => 0 ≤ v.t_14_0 ∧ v.t_14_0 ≤ l.length ∧ ∀ i : Nat, (h : i < l.length) → (i : Int) < v.t_14_0 → l[i].many ≤ 1099511627776)
      (fun j _ => j = 0 ∨ j = 1 ∧ ∀ i : Nat, (h : i < l.length) → l[i].many ≤ 1099511627776) (fun v => ((l.length : Int) - v.t_14_0).toNat) ((l.length : Int) - v.t_14_0).toNat) := by
    intro v hv
    obtain ⟨t⟩ := v
    obtain ⟨v1, v2, v3⟩ := hv
    dsimp only at v1 v2 v3
    by_cases g : t < (l.length : Int)
    case neg =>
      unfold S.law13_MatchRoom_9_R; dsimp only
      refine ⟨fun h => ?_, fun _ => .inr ⟨rfl, fun i h => v3 i h (by omega)⟩⟩
      simp only [xdec, decide_eq_true_eq] at h; exact absurd h g
    obtain ⟨k, rfl⟩ : ∃ k : Nat, t = k := ⟨t.toNat, by omega⟩
    have hk : k < l.length := by omega
    have w1 : IntKind.i64.wrap ((k : Int) + 1) = (k : Int) + 1 := e_wrap (by omega) (by omega)
    have hm : ((l.length : Int) - ((k : Int) + 1)).toNat < ((l.length : Int) - (k : Int)).toNat := by omega
    have y1 : (xdec ((0 : Int) ≤ (k : Int)) && xdec ((k : Int) < (l.length : Int))) = true := by simp [xdec, g]
    have hget : l.getD ((k : Int)).toNat (dflt ET.run) = l[k] := by rw [Int.toNat_natCast, getD_of _ _ _ hk]
    unfold S.law13_MatchRoom_9_R; dsimp only
    rw [hget]
    simp only [xwrap, w1]
    refine ⟨fun _ => ⟨fun _ => ⟨fun _ => .inl rfl, fun a1 => ⟨⟨by dsimp only; omega, by dsimp only; omega, fun i h hi => ?_⟩, hm⟩⟩, fun h => ?_⟩, fun h => ?_⟩
    · simp only [xdec, decide_eq_false_iff_not] at a1
      by_cases e : i = k
      · subst e; omega
      · exact v3 i h (by dsimp only at hi; omega)
    · rw [y1] at h; cases h
    · simp only [xdec, decide_eq_false_iff_not] at h; exact absurd g h
  obtain ⟨j, v', h1, h2⟩ := Lp_all (R := S.law13_MatchRoom_9_R l) (r := S.law13_MatchRoom_9_r l) (fun v => rfl) _ _ _ hround ⟨0⟩ ⟨Int.le_refl _, by simp, fun i _ h => by dsimp only at h; omega⟩
  refine ⟨j, v', h1, ?_⟩
  rcases h2 with h2 | ⟨h2, h3⟩
  · exact .inl h2
  · refine .inr ⟨h2, fun r hr => ?_⟩
    obtain ⟨i, hi, rfl⟩ := List.getElem_of_mem hr
    exact h3 i hi
theorem law_MatchRoom (s : StoreL) (e f : Evt) (at' : Int) (wq : wfL wfStep s.q.steps) :
    S.law13_MatchRoom s.q.steps s.q.within s.q.agg s.q.aggStep s.q.aggF s.r s.over e.name e.at_ e.v f.name f.at_ f.v at' = some ⟨true⟩ := by
  unfold S.law13_MatchRoom S.law13_MatchRoom_R; dsimp only
  simp only [DT.run_br, DT.run_leaf, DT.run_fail, q_awake13_is, q_awake13_o, q_few13_is, q_few06_is, q_made_is s.q wq, xnot, Bool.not_true, cond_true, cond_false]
  cases hf : (S.law13_Few_o s.q.steps s.r).x0 with
  | false => simp
  | true =>
  obtain ⟨hl8, hr10⟩ := q_few13_o _ _ hf
  have hl : s.q.steps.length ≤ 1048576 := by omega
  have hr : s.r.length ≤ 1048576 := by omega
  cases hg : (S.law06_Few_o e.name e.v).x0 with
  | false => simp
  | true =>
  cases hg2 : (S.law06_Few_o f.name f.v).x0 with
  | false => simp
  | true =>
  cases hm : (S.ref09_May_o s.q.steps s.q.within s.q.agg s.q.aggStep s.q.aggF).x0 with
  | false => simp
  | true =>
  have hq := q_made_o s.q wq hm
  simp only [q_mMay_is s hl, q_mMay_o s hl, Bool.not_true, cond_true, cond_false]
  by_cases hs : mayS s
  case neg => simp [hs]
  obtain ⟨j, v', h1, h2⟩ := room_loop s.r (by omega)
  simp only [S.law13_MatchRoom_9_j, Lp_j_of h1, hs, decide_true, Bool.not_true, cond_false]
  rcases h2 with rfl | ⟨rfl, h3⟩
  · rfl
  obtain ⟨r1, r2, r3, r4, r5⟩ := feedL_room (H := HB) hq hs h3 e at'
  have f1 := q_Feed_is s e at' hl hr
  have f2 := q_Feed_o s e at' hl hr
  have hq2 : (feedL HB s e at').1.q = s.q := feedL_q HB s e at'
  have hl2 : (feedL HB s e at').1.q.steps.length ≤ 1048576 := by rw [hq2]; exact hl
  have hr2 : (feedL HB s e at').1.r.length ≤ 1048576 := by omega
  have m1 := q_mMay_is (feedL HB s e at').1 hl2
  have m2 := q_mMay_o (feedL HB s e at').1 hl2
  rw [decide_eq_true r1] at m2
  rw [f1, f2]
  dsimp only [outF]
  rw [m1, m2]
  have w : IntKind.i64.wrap ((s.r.length : Int) + 1) = (s.r.length : Int) + 1 := e_wrap (by omega) (by omega)
  have n1 : ¬ ((feedL HB s e at').1.r.length : Int) > (s.r.length : Int) + 1 := by omega
  have n2 : ¬ ((feedL HB s e at').2.length : Int) > (s.r.length : Int) + 1 := by omega
  simp only [xwrap, w, xdec, n1, n2, decide_false, Bool.not_true, cond_true, cond_false, e_xeqI]
  by_cases ho : (feedL HB s e at').1.over = -1
  · have := r4 ho
    simp [ho, this]
  · have g1 := q_Feed_is (feedL HB s e at').1 f at' hl2 hr2
    have g2 := q_Feed_o (feedL HB s e at').1 f at' hl2 hr2
    rw [feedL_over (.inr ho)] at g2
    have s1 := q_same13_is (feedL HB s e at').1 (by rw [hq2]; exact wq) (Nat.le_trans hr2 (by decide))
    have s2 := q_same13_o (feedL HB s e at').1 (by rw [hq2]; exact wq) (Nat.le_trans hr2 (by decide))
    have r6 := r5 ho
    rw [g1, g2]
    dsimp only [outF]
    rw [s1, s2, r6]
    simp [ho]
end Go.Eng
