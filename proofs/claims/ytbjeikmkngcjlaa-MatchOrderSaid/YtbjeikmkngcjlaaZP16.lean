/- The laws of stores: the order of matches and runs. -/
import Derived.Test.YtbjeikmkngcjlaaZP13
import Derived.Test.YtbjeikmkngcjlaaZL16
set_option linter.unusedVariables false
set_option linter.unusedSimpArgs false
namespace Go.Eng
open Go Go.Eng
theorem ord_mats (l : List (Ty .mat)) (i : Int) (hb : l.length ≤ 1000) (h1 : l.Pairwise (fun (a b : Mat) => a.start < b.start)) (h2 : ∀ m ∈ l, (m : Mat).fin = i ∧ (m : Mat).start ≤ i) :
    Lp (S.law13_MatchOrder_13_r i l) (⟨0⟩ : S.law13_MatchOrder_13_V) = some (1, ⟨l.length⟩) := by
  refine Lp_walk (fun k => (⟨(k : Int)⟩ : S.law13_MatchOrder_13_V)) l.length 1 (fun k hk => ?_) ?_
  · have z1 : ((k : Int) < (l.length : Int)) := by omega
    have z2 : (0 : Int) ≤ (k : Int) := by omega
    obtain ⟨g1, g2⟩ := h2 _ (List.getElem_mem hk)
    have g3 : ¬ l[k].start > i := by omega
    have w2 : IntKind.i64.wrap ((k : Int) - 1) = (k : Int) - 1 := e_wrap (by omega) (by omega)
    unfold S.law13_MatchOrder_13_r S.law13_MatchOrder_13_R; dsimp only
    rw [Int.toNat_natCast, getD_of l k _ hk]
    by_cases c : (k : Int) > 0
    · have z3 : (0 : Int) ≤ (k : Int) - 1 := by omega
      have z4 : (k : Int) - 1 < (l.length : Int) := by omega
      have z5 : ((k : Int) - 1).toNat = k - 1 := by omega
      have lt := List.pairwise_iff_getElem.1 h1 (k - 1) k (by omega) hk (by omega)
      have g4 : ¬ l[k].start ≤ l[k - 1].start := by omega
      simp only [xwrap, w2, z5, getD_of l (k - 1) _ (show k - 1 < l.length by omega), DT.run_br, DT.run_leaf, DT.run_fail, xdec, e_xneI, g1, ne_eq, not_true, z1, z2, z3, z4, c, g3, g4, decide_true, decide_false, Bool.and_self, cond_true, cond_false, e_wrap1 (show k ≤ 1048576 by omega)]
    · simp only [xwrap, DT.run_br, DT.run_leaf, DT.run_fail, xdec, e_xneI, g1, ne_eq, not_true, z1, z2, c, g3, decide_true, decide_false, Bool.and_self, cond_true, cond_false, e_wrap1 (show k ≤ 1048576 by omega)]
  · unfold S.law13_MatchOrder_13_r S.law13_MatchOrder_13_R; simp [DT.run_br, DT.run_leaf, xdec]
theorem ord_runs (l : List (Ty .run)) (i : Int) (hb : l.length ≤ 1048576) (h1 : l.Pairwise (fun (a b : Run) => a.first < b.first)) (h2 : ∀ r ∈ l, (r : Run).first ≤ i) :
    Lp (S.law13_MatchOrder_18_r i l) (⟨0⟩ : S.law13_MatchOrder_18_V) = some (1, ⟨l.length⟩) := by
  refine Lp_walk (fun k => (⟨(k : Int)⟩ : S.law13_MatchOrder_18_V)) l.length 1 (fun k hk => ?_) ?_
  · have z1 : ((k : Int) < (l.length : Int)) := by omega
    have z2 : (0 : Int) ≤ (k : Int) := by omega
    have g2 := h2 _ (List.getElem_mem hk)
    have g3 : ¬ l[k].first > i := by omega
    have w2 : IntKind.i64.wrap ((k : Int) - 1) = (k : Int) - 1 := e_wrap (by omega) (by omega)
    have w3 : IntKind.i64.wrap ((l.length : Int) - 1) = (l.length : Int) - 1 := e_wrap (by omega) (by omega)
    have last : l[k].first = i → ¬ ((k : Int) ≠ (l.length : Int) - 1) := by
      intro h hne
      have hk1 : k + 1 < l.length := by omega
      have lt := List.pairwise_iff_getElem.1 h1 k (k + 1) hk hk1 (by omega)
      have := h2 _ (List.getElem_mem hk1)
      omega
    have fin : (bif decide (l[k].first = i) then bif decide ((k : Int) ≠ (l.length : Int) - 1) then (some (some 0, (⟨(k : Int)⟩ : S.law13_MatchOrder_18_V)) : Option (Option Nat × S.law13_MatchOrder_18_V)) else some (none, ⟨((k + 1 : Nat) : Int)⟩) else some (none, ⟨((k + 1 : Nat) : Int)⟩)) = some (none, ⟨((k + 1 : Nat) : Int)⟩) := by
      by_cases c : l[k].first = i
      · rw [decide_eq_true c, decide_eq_false (last c)]; rfl
      · rw [decide_eq_false c]; rfl
    unfold S.law13_MatchOrder_18_r S.law13_MatchOrder_18_R; dsimp only
    rw [Int.toNat_natCast, getD_of l k _ hk]
    by_cases c : (k : Int) > 0
    · have z3 : (0 : Int) ≤ (k : Int) - 1 := by omega
      have z4 : (k : Int) - 1 < (l.length : Int) := by omega
      have z5 : ((k : Int) - 1).toNat = k - 1 := by omega
      have lt := List.pairwise_iff_getElem.1 h1 (k - 1) k (by omega) hk (by omega)
      have g4 : ¬ l[k].first ≤ l[k - 1].first := by omega
      simp only [xwrap, w2, w3, z5, getD_of l (k - 1) _ (show k - 1 < l.length by omega), DT.run_br, DT.run_leaf, DT.run_fail, xdec, e_xneI, e_xeqI, z1, z2, z3, z4, c, g3, g4, decide_true, decide_false, Bool.and_self, cond_true, cond_false, e_wrap1 (show k ≤ 1048576 by omega)]
      exact fin
    · simp only [xwrap, w3, DT.run_br, DT.run_leaf, DT.run_fail, xdec, e_xneI, e_xeqI, z1, z2, c, g3, decide_true, decide_false, Bool.and_self, cond_true, cond_false, e_wrap1 (show k ≤ 1048576 by omega)]
      exact fin
  · unfold S.law13_MatchOrder_18_r S.law13_MatchOrder_18_R; simp [DT.run_br, DT.run_leaf, xdec]
structure OrdAt (q : Query) (l : List Evt) (i : Nat) (v : S.law13_MatchOrder_9_V) : Prop where
  ix : v.t_10_0 = i
  st : v.h_29_0 = (fedL HB (newS q) (l.take i) 0).1.q.steps
  wi : v.h_29_1 = (fedL HB (newS q) (l.take i) 0).1.q.within
  ag : v.h_29_2 = (fedL HB (newS q) (l.take i) 0).1.q.agg
  as' : v.h_29_3 = (fedL HB (newS q) (l.take i) 0).1.q.aggStep
  af : v.h_29_4 = (fedL HB (newS q) (l.take i) 0).1.q.aggF
  r : v.h_29_5 = (fedL HB (newS q) (l.take i) 0).1.r
  ov : v.h_29_6 = (fedL HB (newS q) (l.take i) 0).1.over
  ord : ordR (fedL HB (newS q) (l.take i) 0).1.r i
theorem ord_round (q : Query) (l : List (Ty .evt)) (hl : q.steps.length ≤ 1048576) (hb : l.length ≤ 1000) (i : Nat) (hi : i < l.length) (v : S.law13_MatchOrder_9_V) (hv : OrdAt q l i v) :
    ∃ v', S.law13_MatchOrder_9_r l v = some (none, v') ∧ OrdAt q l (i + 1) v' := by
  have z1 : ((i : Int) < (l.length : Int)) := by omega
  have z2 : (0 : Int) ≤ (i : Int) := by omega
  have lt : (l.take i).length = i := by rw [List.length_take]; omega
  have sn : (fedL HB (newS q) (l.take (i + 1)) 0).1 = (feedL HB (fedL HB (newS q) (l.take i) 0).1 l[i] i).1 := by
    rw [List.take_succ_eq_append_getElem hi, fedL_snoc, lt, Int.zero_add]
  have hq : (fedL HB (newS q) (l.take i) 0).1.q = q := fedL_q HB _ _ _
  have hl' : (fedL HB (newS q) (l.take i) 0).1.q.steps.length ≤ 1048576 := by rw [hq]; exact hl
  have hr' := fedL_rlen HB (l.take i) (newS q) 0 1048576 (by decide) (Nat.zero_le _)
  have f1 := q_Feed_is (fedL HB (newS q) (l.take i) 0).1 l[i] i hl' hr'
  have f2 := q_Feed_o (fedL HB (newS q) (l.take i) 0).1 l[i] i hl' hr'
  obtain ⟨⟨o1, o2⟩, ⟨o3, o4⟩, o5⟩ := feedL_order (H := HB) hv.ord l[i]
  have l6 := feedL_len HB (fedL HB (newS q) (l.take i) 0).1 l[i] i
  have r6 := feedL_rlen HB (fedL HB (newS q) (l.take i) 0).1 l[i] i 1048576 (by decide) hr'
  have p1 := ord_mats (feedL HB (fedL HB (newS q) (l.take i) 0).1 l[i] i).2 i (by omega) o1 o2
  have p2 := ord_runs (feedL HB (fedL HB (newS q) (l.take i) 0).1 l[i] i).1.r i r6 o3 o4
  unfold S.law13_MatchOrder_9_r S.law13_MatchOrder_9_R
  dsimp only
  rw [hv.ix, hv.st, hv.wi, hv.ag, hv.as', hv.af, hv.r, hv.ov]
  rw [Int.toNat_natCast, getD_of l i _ hi, f1, f2]
  dsimp only [outF]
  simp only [S.law13_MatchOrder_13_j, S.law13_MatchOrder_18_j, Lp_j_of p1, Lp_j_of p2, DT.run_br, DT.run_leaf, DT.run_fail, xdec, xwrap, z1, z2, decide_true, Bool.and_self, cond_true, e_wrap1 (show i ≤ 1048576 by omega)]
  refine ⟨_, rfl, ?_⟩
  exact ⟨rfl, by rw [sn], by rw [sn], by rw [sn], by rw [sn], by rw [sn], by rw [sn], by rw [sn], by rw [sn]; exact o5⟩
theorem law_MatchOrder (q : Query) (l : List (Ty .evt)) (wq : wfL wfStep q.steps) : S.law13_MatchOrder q.steps q.within q.agg q.aggStep q.aggF l = some ⟨true⟩ := by
  unfold S.law13_MatchOrder S.law13_MatchOrder_R; dsimp only
  simp only [DT.run_br, DT.run_leaf, DT.run_fail, q_awake13_is, q_awake13_o, q_few09_is, q_log_is l 25 (by decide), q_made_is q wq, xnot, Bool.not_true, cond_true, cond_false]
  cases hf : (S.law09_Few_o q.steps).x0 with
  | false => simp
  | true =>
  have hl : q.steps.length ≤ 1048576 := by have := q_few09_o _ hf; omega
  cases hg : (S.law12_Log_o l 25).x0 with
  | false => simp
  | true =>
  have hlog := q_log_o l 25 (by decide) hg
  cases hm : (S.ref09_May_o q.steps q.within q.agg q.aggStep q.aggF).x0 with
  | false => simp
  | true =>
  have key : ∀ k i v, i + k = l.length → OrdAt q l i v → ∃ v', Lp (S.law13_MatchOrder_9_r l) v = some (2, v') := by
    intro k
    induction k with
    | zero =>
      intro i v hi hv
      refine ⟨v, Lp_exit ?_⟩
      have h1 := hv.ix
      unfold S.law13_MatchOrder_9_r S.law13_MatchOrder_9_R
      dsimp only
      have : ¬ (v.t_10_0 < (l.length : Int)) := by omega
      simp only [DT.run_br, DT.run_leaf, xdec, this, decide_false, cond_false]
    | succ k ih =>
      intro i v hi hv
      obtain ⟨v1, h1, h2⟩ := ord_round q l hl (by omega) i (by omega) v hv
      obtain ⟨v2, h3⟩ := ih (i + 1) v1 (by omega) h2
      exact ⟨v2, by rw [Lp_cont h1, h3]⟩
  obtain ⟨v', h1⟩ := key l.length 0 ⟨0, (newS q).q.steps, (newS q).q.within, (newS q).q.agg, (newS q).q.aggStep, (newS q).q.aggF, (newS q).r, (newS q).over⟩ (by omega) ⟨rfl, rfl, rfl, rfl, rfl, rfl, rfl, rfl, ⟨by show ([] : List Run).Pairwise _; exact .nil, fun r hr => (by cases hr)⟩⟩
  rw [q_New_o]
  simp only [S.law13_MatchOrder_9_j, Lp_j_of h1]
  rfl
end Go.Eng
