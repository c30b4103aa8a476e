/- The laws of runs: how a run ends; one that is guarded. -/
import Derived.Test.YtbjeikmkngcjlaaZP6
import Derived.Test.YtbjeikmkngcjlaaZL11
import Derived.Test.YtbjeikmkngcjlaaZL12
set_option linter.unusedVariables false
set_option linter.unusedSimpArgs false
namespace Go.Eng
open Go Go.Eng
theorem ends_sum {q : Query} (hq : Made q) : Lp (S.law11_RunEnds_8_r q.steps) (⟨0, 0⟩ : S.law11_RunEnds_8_V) = some (0, ⟨pre q.steps q.steps.length, q.steps.length⟩) := by
  have bd : ∀ k : Nat, k ≤ q.steps.length → 0 ≤ pre q.steps k ∧ pre q.steps k ≤ 4 * k := by
    intro k
    induction k with
    | zero => intro _; exact ⟨Int.le_refl 0, by show (0 : Int) ≤ _; omega⟩
    | succ k ih =>
      intro h
      have h1 := ih (by omega)
      have h2 := hq.st (k : Int) (by omega) (by omega)
      constructor
      · show 0 ≤ pre q.steps k + (stp q.steps (k : Int)).max; omega
      · show pre q.steps k + (stp q.steps (k : Int)).max ≤ _; omega
  have hl := hq.l1
  refine Lp_walk (fun k => (⟨pre q.steps k, (k : Int)⟩ : S.law11_RunEnds_8_V)) q.steps.length 0 (fun i hi => ?_) ?_
  · have b1 := bd i (by omega)
    have b2 := bd (i + 1) (by omega)
    have e1 : IntKind.i64.wrap (pre q.steps i + (stp q.steps (i : Int)).max) = pre q.steps (i + 1) := e_wrap (by show _ ≤ pre q.steps (i + 1); omega) (by show pre q.steps (i + 1) ≤ _; omega)
    have e2 : q.steps.getD ((i : Int)).toNat (dflt ET.step) = stp q.steps (i : Int) := rfl
    have g : (i : Int) < (q.steps.length : Int) := by omega
    have g0 : (0 : Int) ≤ (i : Int) := by omega
    unfold S.law11_RunEnds_8_r S.law11_RunEnds_8_R; dsimp only
    rw [e2]
    simp only [DT.run_br, DT.run_leaf, DT.run_fail, xdec, xwrap, g, g0, e1, decide_true, Bool.and_self, cond_true, e_wrap1 (show i ≤ 1048576 by omega)]
  · unfold S.law11_RunEnds_8_r S.law11_RunEnds_8_R; dsimp only
    simp [DT.run_br, DT.run_leaf, xdec]
def runOf (v : S.law11_RunEnds_14_V) : Run := ⟨v.h_45_0, v.h_45_1, v.h_45_2, v.h_45_3, v.h_45_4, v.h_45_5, v.h_45_6⟩
def EndsI (q : Query) (n : Nat) (v : S.law11_RunEnds_14_V) : Prop := 1 ≤ v.t_13_0 ∧ v.t_13_0 ≤ n ∧ 0 ≤ v.t_12_0 ∧ v.t_12_0 ≤ v.t_13_0 ∧ (v.t_11_0 ≠ 1 → RunInv q (runOf v) v.t_12_0)
def EndsQ (q : Query) (j : Nat) (v : S.law11_RunEnds_14_V) : Prop := j = 0 ∨ j = 1 ∧ (v.t_11_0 ≠ 1 → RunInv q (runOf v) v.t_12_0)
theorem ends_round {q : Query} (hq : Made q) (l : List (Ty .evt)) (hb : l.length ≤ 30) (v : S.law11_RunEnds_14_V) (hv : EndsI q l.length v) :
    (S.law11_RunEnds_14_R l q.steps q.within q.agg q.aggStep q.aggF v).all (Stp (EndsI q l.length) (EndsQ q) (fun v => ((l.length : Int) - v.t_13_0).toNat) ((l.length : Int) - v.t_13_0).toNat) := by
  obtain ⟨f, took, i, r0, r1, r2, r3, r4, r5, r6⟩ := v
  obtain ⟨v1, v2, v3, v4, v5⟩ := hv
  dsimp only at v1 v2 v3 v4 v5
  have hl : q.steps.length ≤ 1048576 := by have := hq.l1; omega
  have n1 := q_Next_is q ⟨r0, r1, r2, r3, r4, r5, r6⟩ (l.getD i.toNat (dflt ET.evt)) hl
  have n2 := q_Next_o q ⟨r0, r1, r2, r3, r4, r5, r6⟩ (l.getD i.toNat (dflt ET.evt)) hl
  unfold S.law11_RunEnds_14_R
  dsimp only at n1 n2 ⊢
  rw [n1, n2, q_few06_is]
  by_cases g : i < (l.length : Int)
  case neg =>
    refine ⟨fun h => ?_, fun _ => .inr ⟨rfl, v5⟩⟩
    simp only [xdec, decide_eq_true_eq] at h; exact absurd h g
  have w1 : IntKind.i64.wrap (i + 1) = i + 1 := e_wrap (by omega) (by omega)
  have w2 : IntKind.i64.wrap (took + 1) = took + 1 := e_wrap (by omega) (by omega)
  have hm : ((l.length : Int) - (i + 1)).toNat < ((l.length : Int) - i).toNat := by omega
  have yt : (xdec (0 ≤ i) && xdec (i < (l.length : Int))) = true := by
    have : (0 : Int) ≤ i := by omega
    simp [xdec, this, g]
  simp only [xwrap, w1, w2]
  have key : f = 0 → (nextL HB q ⟨r0, r1, r2, r3, r4, r5, r6⟩ (l.getD i.toNat (dflt ET.evt))).2 ≠ 1 → RunInv q (nextL HB q ⟨r0, r1, r2, r3, r4, r5, r6⟩ (l.getD i.toNat (dflt ET.evt))).1
      (if (nextL HB q ⟨r0, r1, r2, r3, r4, r5, r6⟩ (l.getD i.toNat (dflt ET.evt))).1.step ≠ r2 ∨ (nextL HB q ⟨r0, r1, r2, r3, r4, r5, r6⟩ (l.getD i.toNat (dflt ET.evt))).1.n ≠ r3 then took + 1 else took) := fun h h2 =>
    RunInv_next hq (v5 (by omega)) _ h2
  generalize nextL HB q ⟨r0, r1, r2, r3, r4, r5, r6⟩ (l.getD i.toNat (dflt ET.evt)) = p at key ⊢
  refine ⟨fun _ => ⟨fun c1 => ⟨fun _ => ⟨fun _ => ⟨fun _ => .inl rfl, fun _ => ⟨fun _ => ⟨fun _ => ⟨fun c2 => ?_, fun c2 => ⟨fun c3 => ?_, fun c3 => ?_⟩⟩, fun g => (by cases g)⟩, fun g => ?_⟩⟩, fun g => (by cases g)⟩, fun g => ?_⟩, fun _ => .inr ⟨rfl, v5⟩⟩, fun _ => .inr ⟨rfl, v5⟩⟩
  · simp only [e_xeqI, decide_eq_true_eq] at c1
    simp only [e_xneI, decide_eq_true_eq] at c2
    refine ⟨⟨by dsimp only; omega, by dsimp only; omega, by dsimp only; omega, by dsimp only; omega, fun h => ?_⟩, hm⟩
    have := key c1 h
    rw [if_pos (.inl c2)] at this
    exact this
  · simp only [e_xeqI, decide_eq_true_eq] at c1
    simp only [e_xneI, decide_eq_true_eq] at c3
    refine ⟨⟨by dsimp only; omega, by dsimp only; omega, by dsimp only; omega, by dsimp only; omega, fun h => ?_⟩, hm⟩
    have := key c1 h
    rw [if_pos (.inr c3)] at this
    exact this
  · simp only [e_xeqI, decide_eq_true_eq] at c1
    simp only [e_xneI, decide_eq_false_iff_not] at c2 c3
    refine ⟨⟨by dsimp only; omega, by dsimp only; omega, by dsimp only; omega, by dsimp only; omega, fun h => ?_⟩, hm⟩
    have := key c1 h
    rw [if_neg (fun h => h.elim c2 c3)] at this
    exact this
  · rw [yt] at g; cases g
  · rw [yt] at g; cases g
theorem law_RunEnds (q : Query) (l : List (Ty .evt)) (wq : wfL wfStep q.steps) : S.law11_RunEnds q.steps q.within q.agg q.aggStep q.aggF l = some ⟨true⟩ := by
  unfold S.law11_RunEnds S.law11_RunEnds_R; dsimp only
  simp only [DT.run_br, DT.run_leaf, DT.run_fail, q_awake11_is, q_awake11_o, q_few09_is, q_few06_is, q_made_is q wq, xnot, Bool.not_true, cond_true, cond_false]
  cases hf : (S.law09_Few_o q.steps).x0 with
  | false => simp
  | true =>
  have hl : q.steps.length ≤ 1048576 := by have := q_few09_o _ hf; omega
  cases hm : (S.ref09_May_o q.steps q.within q.agg q.aggStep q.aggF).x0 with
  | false => simp
  | true =>
  have hq := q_made_o q wq hm
  by_cases c1 : (l.length : Int) = 0
  · simp [e_xeqI, c1]
  by_cases c2 : (l.length : Int) > 30
  · simp [e_xeqI, c1, xdec, c2]
  have c3 : (0 : Int) < l.length := by omega
  have b1 := q_Begin_is q (l.getD (Int.toNat 0) (dflt ET.evt)) 0 hl
  have b2 := q_Begin_o q (l.getD (Int.toNat 0) (dflt ET.evt)) 0 hl
  have i1 : (beginL HB q (l.getD (Int.toNat 0) (dflt ET.evt)) 0).2 ≠ 1 → RunInv q (beginL HB q (l.getD (Int.toNat 0) (dflt ET.evt)) 0).1 1 := fun h => RunInv_begin hq h
  rw [b1, b2]
  generalize beginL HB q (l.getD (Int.toNat 0) (dflt ET.evt)) 0 = p at i1 ⊢
  obtain ⟨j, v', h1, h2⟩ := Lp_all (R := S.law11_RunEnds_14_R l q.steps q.within q.agg q.aggStep q.aggF) (r := S.law11_RunEnds_14_r l q.steps q.within q.agg q.aggStep q.aggF) (fun v => rfl) (EndsI q l.length) (EndsQ q) (fun v => ((l.length : Int) - v.t_13_0).toNat) (ends_round hq l (by omega))
    ⟨p.2, 1, 1, p.1.first, p.1.at_, p.1.step, p.1.n, p.1.many, p.1.agg, p.1.bad⟩ ⟨Int.le_refl _, by dsimp only; omega, by dsimp only; omega, Int.le_refl _, i1⟩
  have s1 := ends_sum hq
  dsimp only [outB]
  simp only [S.law11_RunEnds_8_j, S.law11_RunEnds_8_v, S.law11_RunEnds_14_j, S.law11_RunEnds_14_v, Lp_j_of h1, Lp_v_of h1, Lp_j_of s1, Lp_v_of s1]
  have z0 : (0 : Int) ≤ 0 := Int.le_refl 0
  have a0 := hq.s0
  have a1 := hq.s1
  have e2 : q.steps.getD q.aggStep.toNat (dflt ET.step) = stp q.steps q.aggStep := rfl
  rw [e2]
  have hn : ¬ l = [] := by rintro rfl; exact c1 rfl
  have hp : 0 < l.length := by omega
  rcases h2 with rfl | ⟨rfl, h3⟩
  · simp [e_xeqI, e_xneI, c1, xdec, c2, c3, hn, hp]
  · by_cases hg : v'.t_11_0 = 1
    · simp [e_xeqI, e_xneI, c1, xdec, c2, c3, hn, hp, hg]
    · obtain ⟨k1, k2, k3⟩ := RunInv_end hq (h3 hg)
      have k2' : v'.h_45_4 ≤ (stp q.steps q.aggStep).max := k2
      by_cases ha : q.agg = 0
      · obtain ⟨k4, k5⟩ := k3 ha
        have k4' : v'.h_45_5 = v'.h_45_4 := k4
        have k5' : v'.h_45_6 = false := k5
        simp [e_xeqI, e_xneI, c1, xdec, c2, c3, hn, hp, hg, ha, k1, k2', k4', k5', a0, a1]
      · simp [e_xeqI, e_xneI, c1, xdec, c2, c3, hn, hp, hg, ha, k1, k2', a0, a1]
theorem law_RunGuard (least took : Int) (name : ByteArray) : S.law11_RunGuard least took name = some ⟨true⟩ := by
  unfold S.law11_RunGuard S.law11_RunGuard_R; dsimp only
  simp only [DT.run_br, DT.run_leaf, DT.run_fail, q_awake11_is, q_awake11_o, xnot, Bool.not_true, cond_true, cond_false, xdec]
  by_cases h1 : least < 1
  · simp [h1]
  by_cases h2 : least > 4
  · simp [h1, h2]
  by_cases h3 : took < 1
  · simp [h1, h2, h3]
  by_cases h4 : took > 4
  · simp [h1, h2, h3, h4]
  by_cases h5 : (name.size : Int) > 60
  · simp [h1, h2, h3, h4, h5]
  have hl : (qGuard bA bB least name).steps.length ≤ 1048576 := by show (2 : Nat) ≤ _; decide
  have es : sub [({ name := { data := { toList := [97] } }, ifs := [], min := least, max := 4, guard := false, notName := ByteArray.empty, notIf := [] } : Step), { name := { data := { toList := [98] } }, ifs := [], min := 1, max := 1, guard := true, notName := name, notIf := [] }] 0 (0 + 2) = (qGuard bA bB least name).steps := rfl
  have n1 := q_Next_is (qGuard bA bB least name) ⟨0, 0, 0, took, took, took, false⟩ ⟨name, 0, []⟩ hl
  have n2 := q_Next_o (qGuard bA bB least name) ⟨0, 0, 0, took, took, took, false⟩ ⟨name, 0, []⟩ hl
  obtain ⟨g1, g2⟩ := next_guard (H := HB) HB_Plain (a := bA) (b := bB) (name := name) (least := least) (took := took) (by omega) (by omega) (by omega) (by omega)
  have e1 : (qGuard bA bB least name).within = 9 := rfl
  have e2 : (qGuard bA bB least name).agg = 0 := rfl
  have e3 : (qGuard bA bB least name).aggStep = 0 := rfl
  have e4 : (qGuard bA bB least name).aggF = 0 := rfl
  rw [e1, e2, e3, e4] at n1 n2
  dsimp only at n1 n2
  rw [es, n1, n2]
  have w1 : IntKind.i64.wrap (took + 1) = took + 1 := e_wrap (by omega) (by omega)
  by_cases ht : took ≥ least
  · rw [g1 ht]
    simp [h1, h2, h3, h4, h5, ht, outN, e_xeqI, xeqB]
  · obtain ⟨g3, g4⟩ := g2 (by omega)
    simp only [h1, h2, h3, h4, h5, ht, outN, e_xeqI, g3, xwrap, w1, decide_true, decide_false, cond_true, cond_false]
    have e5 : decide (name = { data := { toList := [97] } }) = decide ((nextL HB (qGuard bA bB least name) ⟨0, 0, 0, took, took, took, false⟩ ⟨name, 0, []⟩).1.n = took + 1) := by
      rw [decide_eq_decide, ← g4]
      exact ⟨fun h => h.symm, fun h => h.symm⟩
    rw [e5]
    simp
end Go.Eng
