/- The laws of stores: in parts; how long runs last. -/
import Derived.Test.YtbjeikmkngcjlaaZP13
import Derived.Test.YtbjeikmkngcjlaaZL17
import Derived.Test.YtbjeikmkngcjlaaZL19
set_option linter.unusedVariables false
set_option linter.unusedSimpArgs false
namespace Go.Eng
open Go Go.Eng
theorem law_MatchParts (q : Query) (l : List (Ty .evt)) (at' : Int) (wq : wfL wfStep q.steps) : S.law13_MatchParts q.steps q.within q.agg q.aggStep q.aggF l at' = some ⟨true⟩ := by
  unfold S.law13_MatchParts S.law13_MatchParts_R; dsimp only
  simp only [DT.run_br, DT.run_leaf, DT.run_fail, q_awake13_is, q_awake13_o, q_few09_is, q_log_is l 25 (by decide), xnot, Bool.not_true, cond_true, cond_false, xdec]
  cases hf : (S.law09_Few_o q.steps).x0 with
  | false => simp
  | true =>
  have hl : q.steps.length ≤ 1048576 := by have := q_few09_o _ hf; omega
  cases hg : (S.law12_Log_o l 25).x0 with
  | false => simp
  | true =>
  have hlog := q_log_o l 25 (by decide) hg
  by_cases c1 : at' < 0
  · simp [c1]
  by_cases c2 : at' > (l.length : Int)
  · simp [c1, c2]
  have d1 : (0 : Int) ≤ at' := by omega
  have d2 : at' ≤ Int.ofNat l.length := by show at' ≤ (l.length : Int); omega
  have e1 : sub l 0 at'.toNat = l.take at'.toNat := sub_take' _ _
  have e2 : sub l at'.toNat l.length = l.drop at'.toNat := by
    simp only [sub]; exact List.take_of_length_le (by rw [List.length_drop]; exact Nat.le_refl _)
  have hl1 : (newS q).q.steps.length ≤ 1048576 := hl
  have hr1 : (newS q).r.length ≤ 1048576 := Nat.zero_le _
  have f1 := q_fed_is none false none false (newS q) (l.take at'.toNat) 0 hl1 hr1 (by rw [List.length_take]; omega) (by omega)
  have f2 := q_fed_o none false none false (newS q) (l.take at'.toNat) 0 hl1 hr1 (by rw [List.length_take]; omega) (by omega)
  have f3 := q_fed_is none false none false (newS q) l 0 hl1 hr1 (by omega) (by omega)
  have f4 := q_fed_o none false none false (newS q) l 0 hl1 hr1 (by omega) (by omega)
  have hq2 : (fedL HB (newS q) (l.take at'.toNat) 0).1.q = q := fedL_q HB _ _ _
  have hl2 : (fedL HB (newS q) (l.take at'.toNat) 0).1.q.steps.length ≤ 1048576 := by rw [hq2]; exact hl
  have hr2 := fedL_rlen HB (l.take at'.toNat) (newS q) 0 1048576 (by decide) hr1
  have f5 := q_fed_is none false none false (fedL HB (newS q) (l.take at'.toNat) 0).1 (l.drop at'.toNat) at' hl2 hr2 (by rw [List.length_drop]; omega) (by omega)
  have f6 := q_fed_o none false none false (fedL HB (newS q) (l.take at'.toNat) 0).1 (l.drop at'.toNat) at' hl2 hr2 (by rw [List.length_drop]; omega) (by omega)
  have lt : ((l.take at'.toNat).length : Int) = at' := by rw [List.length_take]; omega
  have key : fedL HB (newS q) l 0 = ((fedL HB (fedL HB (newS q) (l.take at'.toNat) 0).1 (l.drop at'.toNat) at').1, (fedL HB (newS q) (l.take at'.toNat) 0).2 + (fedL HB (fedL HB (newS q) (l.take at'.toNat) 0).1 (l.drop at'.toNat) at').2) := by
    have := fedL_append HB (l.take at'.toNat) (l.drop at'.toNat) (newS q) 0
    rw [List.take_append_drop, lt, Int.zero_add] at this
    exact this
  rw [key] at f4
  have n1 := fedL_len HB (l.take at'.toNat) (newS q) 0
  have n2 := fedL_len HB (l.drop at'.toNat) (fedL HB (newS q) (l.take at'.toNat) 0).1 at'
  have n3 : (l.take at'.toNat).length ≤ 25 := by rw [List.length_take]; omega
  have n4 : (l.drop at'.toNat).length ≤ 25 := by rw [List.length_drop]; omega
  have hq3 : (fedL HB (fedL HB (newS q) (l.take at'.toNat) 0).1 (l.drop at'.toNat) at').1.q = q := by rw [fedL_q]; exact hq2
  have hr3 := fedL_rlen HB (l.drop at'.toNat) (fedL HB (newS q) (l.take at'.toNat) 0).1 at' 1048576 (by decide) hr2
  have s1 := q_same13_is (fedL HB (fedL HB (newS q) (l.take at'.toNat) 0).1 (l.drop at'.toNat) at').1 (by rw [hq3]; exact wq) (Nat.le_trans hr3 (by decide))
  have s2 := q_same13_o (fedL HB (fedL HB (newS q) (l.take at'.toNat) 0).1 (l.drop at'.toNat) at').1 (by rw [hq3]; exact wq) (Nat.le_trans hr3 (by decide))
  have w : IntKind.i64.wrap (((fedL HB (newS q) (l.take at'.toNat) 0).2 : Int) + ((fedL HB (fedL HB (newS q) (l.take at'.toNat) 0).1 (l.drop at'.toNat) at').2 : Int)) = (((fedL HB (newS q) (l.take at'.toNat) 0).2 + (fedL HB (fedL HB (newS q) (l.take at'.toNat) 0).1 (l.drop at'.toNat) at').2 : Nat) : Int) := by
    rw [e_wrap (by omega) (by omega)]; omega
  rw [q_New_o, e1, e2]
  dsimp only
  rw [f1, f2, f3, f4]
  dsimp only [outFed]
  rw [f5, f6]
  dsimp only [outFed]
  rw [s1, s2]
  simp only [c1, c2, d1, d2, xwrap, w, e_xeqI, decide_true, decide_false, Bool.not_true, Bool.and_self, cond_true, cond_false]
theorem spans_loop (l : List (Ty .evt)) (hb : l.length ≤ 1000) : ∃ j v', Lp (S.law13_MatchSpans_8_r l) ⟨0⟩ = some (j, v') ∧
    (j = 0 ∨ j = 1 ∧ (∀ e ∈ l, 0 ≤ e.at_ ∧ e.at_ ≤ 1125899906842624) ∧ (l.map (·.at_)).Pairwise (· ≤ ·)) := by
  have G : ∀ k : Nat, k ≤ l.length → Prop := fun k _ => True
  have pw : (∀ i : Nat, (h : i < l.length) → (0 ≤ l[i].at_ ∧ l[i].at_ ≤ 1125899906842624) ∧ (∀ h2 : 0 < i, l[i - 1].at_ ≤ l[i].at_)) → (∀ e ∈ l, 0 ≤ e.at_ ∧ e.at_ ≤ 1125899906842624) ∧ (l.map (·.at_)).Pairwise (· ≤ ·) := by
    intro h
    refine ⟨fun e he => ?_, ?_⟩
    · obtain ⟨i, hi, rfl⟩ := List.getElem_of_mem he
      exact (h i hi).1
    · rw [List.pairwise_iff_getElem]
      have step : ∀ d i : Nat, (hi : i + d < l.length) → l[i].at_ ≤ l[i + d].at_ := by
        intro d
        induction d with
        | zero => intro i hi; exact Int.le_refl _
        | succ d ih =>
          intro i hi
          have h1 := ih i (by omega)
          have h2 := (h (i + d + 1) (by omega)).2 (by omega)
          have e : i + d + 1 - 1 = i + d := by omega
          simp only [e] at h2
          exact Int.le_trans h1 h2
      intro i j hi hj hij
      simp only [List.length_map] at hi hj
      have := step (j - i) i (by omega)
      have e : i + (j - i) = j := by omega
      simp only [e] at this
      simpa using this
  have hround : ∀ v, (fun v : S.law13_MatchSpans_8_V => 0 ≤ v.t_9_0 ∧ v.t_9_0 ≤ l.length ∧ ∀ i : Nat, (h : i < l.length) → (i : Int) < v.t_9_0 → (0 ≤ l[i].at_ ∧ l[i].at_ ≤ 1125899906842624) ∧ (∀ h2 : 0 < i, l[i - 1].at_ ≤ l[i].at_)) v → (S.law13_MatchSpans_8_R l v).all (Stp (fun v : S.law13_MatchSpans_8_V => 0 ≤ v.t_9_0 ∧ v.t_9_0 ≤ l.length ∧ ∀ i : Nat, (h : i < l.length) → (i : Int) < v.t_9_0 → (0 ≤ l[i].at_ ∧ l[i].at_ ≤ 1125899906842624) ∧ (∀ h2 : 0 < i, l[i - 1].at_ ≤ l[i].at_)) (fun (j : Nat) (_ : S.law13_MatchSpans_8_V) => j = 0 ∨ j = 1 ∧ ∀ i : Nat, (h : i < l.length) → (0 ≤ l[i].at_ ∧ l[i].at_ ≤ 1125899906842624) ∧ (∀ h2 : 0 < i, l[i - 1].at_ ≤ l[i].at_)) (fun v : S.law13_MatchSpans_8_V => ((l.length : Int) - v.t_9_0).toNat) ((fun v : S.law13_MatchSpans_8_V => ((l.length : Int) - v.t_9_0).toNat) v)) := by
    intro v hv
    obtain ⟨t⟩ := v
    obtain ⟨v1, v2, v3⟩ := hv
    dsimp only at v1 v2 v3
    by_cases g : t < (l.length : Int)
    case neg =>
      unfold S.law13_MatchSpans_8_R; dsimp only
      refine ⟨fun h => ?_, fun _ => .inr ⟨rfl, fun i h => v3 i h (by omega)⟩⟩
      simp only [xdec, decide_eq_true_eq] at h; exact absurd h g
    obtain ⟨k, rfl⟩ : ∃ k : Nat, t = k := ⟨t.toNat, by omega⟩
    have hk : k < l.length := by omega
    have w1 : IntKind.i64.wrap ((k : Int) + 1) = (k : Int) + 1 := e_wrap (by omega) (by omega)
    have w2 : IntKind.i64.wrap ((k : Int) - 1) = (k : Int) - 1 := e_wrap (by omega) (by omega)
    have hm : ((l.length : Int) - ((k : Int) + 1)).toNat < ((l.length : Int) - (k : Int)).toNat := by omega
    have y1 : (xdec ((0 : Int) ≤ (k : Int)) && xdec ((k : Int) < (l.length : Int))) = true := by simp [xdec, g]
    have hget : l.getD ((k : Int)).toNat (dflt ET.evt) = l[k] := by rw [Int.toNat_natCast, getD_of _ _ _ hk]
    have nxt : (0 ≤ l[k].at_ ∧ l[k].at_ ≤ 1125899906842624) → (∀ h2 : 0 < k, l[k - 1].at_ ≤ l[k].at_) → 0 ≤ (k : Int) + 1 ∧ (k : Int) + 1 ≤ (l.length : Int) ∧ ∀ i : Nat, (h : i < l.length) → (i : Int) < (k : Int) + 1 → (0 ≤ l[i].at_ ∧ l[i].at_ ≤ 1125899906842624) ∧ (∀ h2 : 0 < i, l[i - 1].at_ ≤ l[i].at_) := by
      intro p1 p2
      refine ⟨by omega, by omega, fun i h hi => ?_⟩
      by_cases e : i = k
      · subst e; exact ⟨p1, p2⟩
      · exact v3 i h (by omega)
    unfold S.law13_MatchSpans_8_R; dsimp only
    rw [hget]
    simp only [xwrap, w1, w2]
    refine ⟨fun _ => ⟨fun _ => ⟨fun _ => .inl rfl, fun a1 => ⟨fun _ => ⟨fun _ => .inl rfl, fun a2 => ⟨fun a3 => ⟨fun _ => ⟨fun a4 => ⟨fun _ => .inl rfl, fun a5 => ⟨?_, hm⟩⟩, fun a4 => ?_⟩, fun h => ?_⟩, fun a3 => ⟨?_, hm⟩⟩⟩, fun h => ?_⟩⟩, fun h => ?_⟩, fun h => ?_⟩
    · simp only [xdec, decide_eq_true_eq, decide_eq_false_iff_not] at a1 a2 a3 a5
      refine nxt ⟨by omega, by omega⟩ (fun h2 => ?_)
      have e : ((k : Int) - 1).toNat = k - 1 := by omega
      rw [e, getD_of _ _ _ (show k - 1 < l.length by omega)] at a5
      omega
    · simp only [xdec, decide_eq_true_eq, Bool.and_eq_false_iff, decide_eq_false_iff_not] at a3 a4
      omega
    · rw [y1] at h; cases h
    · simp only [xdec, decide_eq_true_eq, decide_eq_false_iff_not] at a1 a2 a3
      exact nxt ⟨by omega, by omega⟩ (fun h2 => by omega)
    · rw [y1] at h; cases h
    · rw [y1] at h; cases h
    · simp only [xdec, decide_eq_false_iff_not] at h; exact absurd g h
  obtain ⟨j, v', h1, h2⟩ := Lp_all (R := S.law13_MatchSpans_8_R l) (r := S.law13_MatchSpans_8_r l) (fun v => rfl) (fun v : S.law13_MatchSpans_8_V => 0 ≤ v.t_9_0 ∧ v.t_9_0 ≤ l.length ∧ ∀ i : Nat, (h : i < l.length) → (i : Int) < v.t_9_0 → (0 ≤ l[i].at_ ∧ l[i].at_ ≤ 1125899906842624) ∧ (∀ h2 : 0 < i, l[i - 1].at_ ≤ l[i].at_)) (fun (j : Nat) (_ : S.law13_MatchSpans_8_V) => j = 0 ∨ j = 1 ∧ ∀ i : Nat, (h : i < l.length) → (0 ≤ l[i].at_ ∧ l[i].at_ ≤ 1125899906842624) ∧ (∀ h2 : 0 < i, l[i - 1].at_ ≤ l[i].at_)) (fun v : S.law13_MatchSpans_8_V => ((l.length : Int) - v.t_9_0).toNat) hround ⟨0⟩ ⟨Int.le_refl _, by simp, fun i _ h => by dsimp only at h; omega⟩
  refine ⟨j, v', h1, ?_⟩
  rcases h2 with h2 | ⟨h2, h3⟩
  · exact .inl h2
  · exact .inr ⟨h2, pw h3⟩
theorem getLastD_eq (l : List (Ty .evt)) (t : Int) (h : 0 < l.length) : (l.map (·.at_)).getLastD t = (l.getD (l.length - 1) (dflt ET.evt)).at_ := by
  rw [getD_of _ _ _ (by omega)]
  cases l with
  | nil => simp at h
  | cons x r =>
    rw [List.getLastD_eq_getLast?, List.getLast?_eq_getElem?]
    have e : (List.map (fun x : Evt => x.at_) (x :: r))[(List.map (fun x : Evt => x.at_) (x :: r)).length - 1]? = some ((x :: r)[(x :: r).length - 1]).at_ := by
      rw [List.length_map, List.getElem?_map, List.getElem?_eq_getElem (show (x :: r).length - 1 < (x :: r).length by simp)]
      rfl
    exact congrArg (fun o => Option.getD o t) e
theorem spans_runs (l : List (Ty .evt)) (w : Int) (rs : List (Ty .run)) (hb : 0 < l.length ∧ l.length ≤ 1000) (hr : rs.length ≤ 1000) (T : Int) (hT : T = (l.getD (l.length - 1) (dflt ET.evt)).at_) (hT1 : T ≤ 1125899906842624)
    (h : ∀ r ∈ rs, 0 ≤ r.at_ ∧ r.at_ ≤ T ∧ T - r.at_ ≤ w) : Lp (S.law13_MatchSpans_14_r l w rs) (⟨0⟩ : S.law13_MatchSpans_14_V) = some (1, ⟨rs.length⟩) := by
  refine Lp_walk (fun k => (⟨(k : Int)⟩ : S.law13_MatchSpans_14_V)) rs.length 1 (fun i hi => ?_) ?_
  · have h1 : ((i : Int) < (rs.length : Int)) := by omega
    have h2 : (0 : Int) ≤ (i : Int) := by omega
    obtain ⟨g1, g2, g3⟩ := h _ (List.getElem_mem hi)
    have w1 : IntKind.i64.wrap ((l.length : Int) - 1) = (l.length : Int) - 1 := e_wrap (by omega) (by omega)
    have w2 : ((l.length : Int) - 1).toNat = l.length - 1 := by omega
    have w3 : (0 : Int) ≤ (l.length : Int) - 1 := by omega
    have w4 : (l.length : Int) - 1 < (l.length : Int) := by omega
    have w5 : IntKind.i64.wrap (T - rs[i].at_) = T - rs[i].at_ := e_wrap (by omega) (by omega)
    have n1 : ¬ rs[i].at_ > T := by omega
    have n2 : ¬ T - rs[i].at_ > w := by omega
    unfold S.law13_MatchSpans_14_r S.law13_MatchSpans_14_R; dsimp only
    rw [Int.toNat_natCast, getD_of rs i _ hi]
    simp only [xwrap, w1, w2, ← hT, w5, DT.run_br, DT.run_leaf, DT.run_fail, xdec, h1, h2, w3, w4, n1, n2, decide_true, decide_false, Bool.and_self, cond_true, cond_false, e_wrap1 (show i ≤ 1048576 by omega)]
  · unfold S.law13_MatchSpans_14_r S.law13_MatchSpans_14_R; simp [DT.run_br, DT.run_leaf, xdec]
theorem law_MatchSpans (q : Query) (l : List (Ty .evt)) (wq : wfL wfStep q.steps) : S.law13_MatchSpans q.steps q.within q.agg q.aggStep q.aggF l = some ⟨true⟩ := by
  unfold S.law13_MatchSpans S.law13_MatchSpans_R; dsimp only
  simp only [DT.run_br, DT.run_leaf, DT.run_fail, q_awake13_is, q_awake13_o, q_few09_is, q_log_is l 25 (by decide), q_made_is q wq, xnot, Bool.not_true, cond_true, cond_false]
  cases hf : (S.law09_Few_o q.steps).x0 with
  | false => simp
  | true =>
  have hl : q.steps.length ≤ 1048576 := by have := q_few09_o _ hf; omega
  cases hg : (S.law12_Log_o l 25).x0 with
  | false => simp
  | true =>
  have hlog := q_log_o l 25 (by decide) hg
  cases hm : (S.ref09_May_o q.steps q.within q.agg q.aggStep q.aggF).x0 with
  | false => simp
  | true =>
  have hq := q_made_o q wq hm
  by_cases c1 : (l.length : Int) = 0
  · simp [e_xeqI, c1]
  obtain ⟨j, v', h1, h2⟩ := spans_loop l (by omega)
  simp only [S.law13_MatchSpans_8_j, Lp_j_of h1, e_xeqI, c1, Bool.not_true, decide_false, cond_false]
  rcases h2 with rfl | ⟨rfl, h3, h4⟩
  · rfl
  have hl1 : (newS q).q.steps.length ≤ 1048576 := hl
  have hr1 : (newS q).r.length ≤ 1048576 := Nat.zero_le _
  have f1 := q_fed_is none false none false (newS q) l 0 hl1 hr1 (by omega) (by omega)
  have f2 := q_fed_o none false none false (newS q) l 0 hl1 hr1 (by omega) (by omega)
  rw [q_New_o]
  dsimp only
  rw [f1, f2]
  dsimp only [outFed]
  have inv0 : StInv q (newS q) 0 := ⟨rfl, Nat.zero_le _, .inl rfl, fun r hr => (by cases hr)⟩
  have inv := StInv_fed (H := HB) hq l (s := newS q) (t := 0) 0 inv0 h3 (List.pairwise_cons.2 ⟨fun x hx => by
    obtain ⟨e, he, rfl⟩ := List.mem_map.1 hx
    exact (h3 e he).1, h4⟩)
  rw [getLastD_eq l 0 (by omega)] at inv
  have hT1 : (l.getD (l.length - 1) (dflt ET.evt)).at_ ≤ 1125899906842624 := by
    rw [getD_of _ _ _ (show l.length - 1 < l.length by omega)]; exact (h3 _ (List.getElem_mem _)).2
  have r1 := spans_runs l q.within (fedL HB (newS q) l 0).1.r ⟨by omega, by omega⟩ (by have := inv.len; omega) _ rfl hT1 (fun r hr => (inv.run r hr).2)
  have len5 : ((fedL HB (newS q) l 0).1.r.length : Int) ≤ 5 := by have := inv.len; omega
  have wi : (newS q).q.within = q.within := rfl
  simp only [S.law13_MatchSpans_14_j, Lp_j_of r1, xdec, len5, decide_true]
  rfl
end Go.Eng
