/- The law of the store and the model: event by event the matches are all matches, by definition. -/
import Derived.Test.YtbjeikmkngcjlaaZP39
import Derived.Test.YtbjeikmkngcjlaaZP13
import Derived.Test.YtbjeikmkngcjlaaZM8
import Derived.Test.YtbjeikmkngcjlaaZL32
set_option maxHeartbeats 2000000
set_option linter.unusedVariables false
set_option linter.unusedSimpArgs false
namespace Go.Eng
open Go Go.Eng
structure MModAt (q : Query) (l : List (Ty .evt)) (i : Nat) (v : S.zfps_10_V) : Prop where
 n : v.t10_l = (toldBy HB q l i).length
 ix : v.t11_ = i
 st : v.h29_ = q.steps
 wi : v.h_29_1 = q.within
 ag : v.h_29_2 = q.agg
 as' : v.h_29_3 = q.aggStep
 af : v.h_29_4 = q.aggF
 r : v.h_29_5 = (storeAt HB q l i).r
 ov : v.h_29_6 = (storeAt HB q l i).over
 al : v.h_33 = toldBy HB q l i
theorem storeAt_q (q : Query) (l : List Evt) (i : Nat) : (storeAt HB q l i).q = q := by
 unfold storeAt
 split <;> rfl
theorem mmod_round (q : Query) (l : List (Ty .evt)) (hq : Made q) (hl : q.steps.length ≤ 1048576) (hb : l.length ≤ 1000) (i : Nat) (hi : i < l.length) (v : S.zfps_10_V) (hv : MModAt q l i v) :
    ∃ v', S.zfps_10_r l v = some (none, v') ∧ MModAt q l (i + 1) v' := by
 have z1 : ((i : Int) < (l.length : Int)) := by omega
 have z2 : (0 : Int) ≤ (i : Int) := by omega
 have hs := store_next (H := HB) hq l (k := i) hi
 have he : evAt l i = l[i] := by have := evAt_get hi; rw [List.getElem?_eq_getElem hi] at this; injection this with this; exact this.symm
 rw [he] at hs
 have hm := store_may (H := HB) hq l (k := i) (by omega)
 have hm2 := store_may (H := HB) hq l (k := i + 1) (by omega)
 have hq1 := storeAt_q q l i
 have hq2 := storeAt_q q l (i + 1)
 have ht := told_next (H := HB) (q := q) l i
 have hn := told_len (H := HB) (q := q) l (k := i + 1) (by omega)
 rw [ht, List.length_append] at hn
 have hl1 : (storeAt HB q l i).q.steps.length ≤ 1048576 := by rw [hq1]; exact hl
 have hl2 : (storeAt HB q l (i + 1)).q.steps.length ≤ 1048576 := by rw [hq2]; exact hl
 have f1 := q_Feed_is (storeAt HB q l i) l[i] i hl1 (by have := hm.1; omega)
 have f2 := q_Feed_o (storeAt HB q l i) l[i] i hl1 (by have := hm.1; omega)
 have g1 := q_mMay_is (storeAt HB q l (i + 1)) hl2
 have g2 := q_mMay_o (storeAt HB q l (i + 1)) hl2
 rw [hs] at f2
 rw [decide_eq_true hm2] at g2
 dsimp only [outF] at f2
 rw [hq1] at f1 f2
 rw [hq2] at f2 g1 g2
 unfold S.zfps_10_r S.zfps_10_R
 dsimp only
 rw [hv.ix, hv.n, hv.st, hv.wi, hv.ag, hv.as', hv.af, hv.r, hv.ov, hv.al]
 rw [Int.toNat_natCast, getD_of l i _ hi]
 rw [f1, f2]
 dsimp only
 rw [g1, g2]
 have z3 : (toldBy HB q l i).length + (toldAt HB q l i).length ≤ 1048576 := by omega
 simp only [xwrap, DT.run_br, DT.run_leaf, DT.run_fail, xdec, xnot, z1, z2, z3, Nat.le_refl, decide_true, Bool.and_self, Bool.not_true, cond_true, cond_false, e_wrap1 (show i ≤ 1048576 by omega)]
 refine ⟨_, rfl, ?_⟩
 exact ⟨by rw [ht, List.length_append], rfl, rfl, rfl, rfl, rfl, rfl, rfl, rfl, by rw [ht, List.take_length]⟩
theorem mmod_loop (q : Query) (l : List (Ty .evt)) (hq : Made q) (hl : q.steps.length ≤ 1048576) (hb : l.length ≤ 1000) : ∀ k i v, i + k = l.length → MModAt q l i v → ∃ v', Lp (S.zfps_10_r l) v = some (1, v') ∧ MModAt q l l.length v' := by
 intro k
 induction k with
 | zero =>
  intro i v hi hv
  have : i = l.length := by omega
  subst this
  refine ⟨v, Lp_exit ?_, hv⟩
  have h1 := hv.ix
  unfold S.zfps_10_r S.zfps_10_R
  dsimp only
  have : ¬ (v.t11_ < (l.length : Int)) := by omega
  simp only [DT.run_br, DT.run_leaf, xdec, this, decide_false, cond_false]
 | succ k ih =>
  intro i v hi hv
  obtain ⟨v1, h1, h2⟩ := mmod_round q l hq hl hb i (by omega) v hv
  obtain ⟨v2, h3, h4⟩ := ih (i + 1) v1 (by omega) h2
  exact ⟨v2, by rw [Lp_cont h1, h3], h4⟩
theorem law_MatchModel (n0 : Option Bool) (f0 : Bool) (q : Query) (n1 : Option Bool) (f1 : Bool) (l : List (Ty .evt)) (wq : wfL wfStep q.steps) : S.zfps n0 f0 q.steps q.within q.agg q.aggStep q.aggF n1 f1 l = some ⟨true⟩ := by
 unfold S.zfps S.zfps_R; dsimp only
 simp only [DT.run_br, DT.run_leaf, DT.run_fail, q_awake13_is, q_awake13_o, q_few09_is, q_log_is l 25 (by decide), q_made_is q wq, xnot, Bool.not_true, cond_true, cond_false]
 cases hf : (S.zydq_o q.steps).x0 with
 | false => simp
 | true =>
 have hl : q.steps.length ≤ 1048576 := by have := q_few09_o _ hf; omega
 cases hg : (S.zgwp_o l 25).x0 with
 | false => simp
 | true =>
 have hlog := q_log_o l 25 (by decide) hg
 cases hm : (S.zjar_o q.steps q.within q.agg q.aggStep q.aggF).x0 with
 | false => simp
 | true =>
 have hq := q_made_o q wq hm
 have A1 := q_All2_is sorts39 n0 f0 q n1 f1 l 5 hl (by omega) (by omega)
 obtain ⟨g1, A2⟩ := q_All2_o sorts39 n0 f0 q n1 f1 l 5 hl (by omega) (by omega)
 obtain ⟨v', h1, h2⟩ := mmod_loop q l hq hl (by omega) l.length 0 ⟨true, 0, 0, none, false, q.steps, q.within, q.agg, q.aggStep, q.aggF, none, false, [], -1, []⟩ (by omega)
  ⟨rfl, rfl, rfl, rfl, rfl, rfl, rfl, by rw [store_zero], by rw [store_zero], rfl⟩
 rw [q_New_o]
 dsimp only [newS]
 simp only [S.zfps_10_j, S.zfps_10_v, Lp_j_of h1, Lp_v_of h1]
 rw [h2.n, h2.al, h2.ov, A1, A2, q_Over_is q l 5 hl (by omega), q_Over_o q l 5 hl (by omega), told_all, store_over]
 have hbA := all_len25 HB q l 5
 dsimp only
 generalize allL HB q l 5 = A at *
 simp only [sub_zero, Nat.zero_add, List.take_length]
 have s1 := q_sameL_is A (by omega)
 have s2 := q_sameL_o A (by omega)
 rw [s1, s2]
 simp only [xdec, e_xeqI, Nat.le_refl, decide_true, cond_true, cond_false, Bool.and_self, Bool.true_and, Bool.and_true, Bool.not_true, beq_self_eq_true, Nat.reduceBEq]
end Go.Eng
