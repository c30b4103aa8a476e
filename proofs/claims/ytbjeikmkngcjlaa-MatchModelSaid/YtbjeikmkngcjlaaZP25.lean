/- All matches by definition: the functions' plain words. -/
import Derived.Test.YtbjeikmkngcjlaaZP13
import Derived.Test.YtbjeikmkngcjlaaZM7
import Derived.Test.YtbjeikmkngcjlaaZG11
set_option linter.unusedVariables false
set_option linter.unusedSimpArgs false
namespace Go.Eng
open Go Go.Eng
def preL (H : HH) (q : Query) : List Evt → Run → Int → List Run
 | [], _, _ => []
 | e :: es, r, f => if f = 0 then r :: preL H q es (nextL H q r e).1 (nextL H q r e).2 else []
theorem preL_stop {H : HH} {q : Query} (f : Int) (hf : f ≠ 0) (es : List Evt) (r : Run) : preL H q es r f = [] := by
 cases es with
 | nil => rfl
 | cons e es => simp [preL, hf]
theorem steps_pre (H : HH) (q : Query) : ∀ (es : List Evt) (r : Run) (f : Int), (stepsL H q es r f).1 = preL H q es r f ++ (if (stepsL H q es r f).2.2 = 0 then [(stepsL H q es r f).2.1] else [])
 | [], r, f => by by_cases h : f = 0 <;> simp [stepsL, preL, h]
 | e :: es, r, f => by
  by_cases h : f = 0
  ·subst h
   simp only [stepsL, preL, if_true, List.cons_append]
   rw [← steps_pre H q es]
  ·rw [stepsL_stop f h, preL_stop f h]; simp [h]
theorem preL_len (H : HH) (q : Query) : ∀ (es : List Evt) (r : Run) (f : Int), (preL H q es r f).length ≤ es.length
 | [], r, f => by simp [preL]
 | e :: es, r, f => by
  have := preL_len H q es (nextL H q r e).1 (nextL H q r e).2
  simp only [preL]
  split
  ·simp only [List.length_cons]; omega
  ·simp
structure FromAt (acc : List Run) (r : Run) (f : Int) (k : Nat) (v : S.zu6e_4_V) : Prop where
 ff : v.t9_ = f
 ix : v.t27_ = k
 ln : v.h2_l = acc.length
 a0 : v.h13_ = r.first
 a1 : v.h_13_1 = r.at_
 a2 : v.h_13_2 = r.step
 a3 : v.h_13_3 = r.n
 a4 : v.h_13_4 = r.many
 a5 : v.h_13_5 = r.agg
 a6 : v.h_13_6 = r.bad
 ac : v.h_22 = acc
theorem from_loop (q : Query) (hl : q.steps.length ≤ 1048576) (es : List (Ty .evt)) (hb : es.length ≤ 1000) : ∀ (n k : Nat) (acc : List Run) (r : Run) (f : Int) (v : S.zu6e_4_V), k + n = es.length → acc.length ≤ k → FromAt acc r f k v →
    ∃ j v' k', Lp (S.zu6e_4_r es es.length q.steps q.within q.agg q.aggStep q.aggF) v = some (j, v') ∧ (j = 0 ∨ j = 1) ∧ FromAt (acc ++ preL HB q (es.drop k) r f) (stepsL HB q (es.drop k) r f).2.1 (stepsL HB q (es.drop k) r f).2.2 k' v'
 | 0, k, acc, r, f, v, hk, ha, hv => by
  have hd : es.drop k = [] := List.drop_eq_nil_of_le (by omega)
  refine ⟨1, v, k, Lp_exit ?_, .inr rfl, ?_⟩
  ·have z : ¬ ((k : Int) < (es.length : Int)) := by omega
   unfold S.zu6e_4_r S.zu6e_4_R
   dsimp only
   rw [hv.ix]
   simp only [DT.run_br, DT.run_leaf, xdec, z, decide_false, cond_false]
  ·rw [hd]; simp only [preL, stepsL, List.append_nil]; exact hv
 | n + 1, k, acc, r, f, v, hk, ha, hv => by
  have hk' : k < es.length := by omega
  have z1 : ((k : Int) < (es.length : Int)) := by omega
  have z2 : (0 : Int) ≤ (k : Int) := by omega
  have hd : es.drop k = es[k] :: es.drop (k + 1) := List.drop_eq_getElem_cons hk'
  by_cases h : f = 0
  ·subst h
   have g1 := q_Next_is q r es[k] hl
   have g2 := q_Next_o q r es[k] hl
   have hround : ∃ v1, S.zu6e_4_r es es.length q.steps q.within q.agg q.aggStep q.aggF v = some (none, v1) ∧ FromAt (acc ++ [r]) (nextL HB q r es[k]).1 (nextL HB q r es[k]).2 (k + 1) v1 := by
    refine ⟨⟨(nextL HB q r es[k]).2, ((k + 1 : Nat) : Int), false, acc.length + 1, (nextL HB q r es[k]).1.first, (nextL HB q r es[k]).1.at_, (nextL HB q r es[k]).1.step, (nextL HB q r es[k]).1.n, (nextL HB q r es[k]).1.many, (nextL HB q r es[k]).1.agg, (nextL HB q r es[k]).1.bad, acc ++ [r]⟩, ?_, ⟨rfl, rfl, by simp, rfl, rfl, rfl, rfl, rfl, rfl, rfl, rfl⟩⟩
    unfold S.zu6e_4_r S.zu6e_4_R
    dsimp only
    rw [hv.ix, hv.ff, hv.ln, hv.a0, hv.a1, hv.a2, hv.a3, hv.a4, hv.a5, hv.a6, hv.ac]
    rw [Int.toNat_natCast, getD_of es k _ hk', g1, g2]
    have y3 : acc.length + 1 ≤ 1048576 := by omega
    simp only [DT.run_br, DT.run_leaf, DT.run_fail, xdec, xwrap, e_xneI, z1, z2, decide_true, cond_true, Bool.and_self, ne_eq, not_true, decide_false, cond_false, List.replicate, List.set, List.length_cons, List.length_nil, Nat.le_refl, y3, List.take_length, e_wrap1 (show k ≤ 1048576 by omega)]
    rfl
   obtain ⟨v1, r1, r2⟩ := hround
   obtain ⟨j, v', k', e1, e2, e3⟩ := from_loop q hl es hb n (k + 1) (acc ++ [r]) _ _ v1 (by omega) (by simp; omega) r2
   refine ⟨j, v', k', by rw [Lp_cont r1]; exact e1, e2, ?_⟩
   rw [hd]
   simp only [preL, stepsL, if_true]
   rw [List.append_assoc] at e3
   exact e3
  ·refine ⟨0, v, k, Lp_exit ?_, .inl rfl, ?_⟩
   ·unfold S.zu6e_4_r S.zu6e_4_R
    dsimp only
    rw [hv.ix, hv.ff]
    simp only [DT.run_br, DT.run_leaf, xdec, z1, z2, e_xneI, ne_eq, h, not_false_eq_true, decide_true, cond_true, Bool.and_self]
   ·rw [preL_stop f h, stepsL_stop f h, List.append_nil]; exact hv
theorem sub_drop {α : Type} (l : List α) (i : Nat) : sub l i l.length = l.drop i := by
 unfold sub
 exact List.take_of_length_le (by simp)
def outFr (p : List Run × Run × Int) (b : Bool) : S.zu6e_T := ⟨p.1, b, p.1.length, p.2.1.first, p.2.1.at_, p.2.1.step, p.2.1.n, p.2.1.many, p.2.1.agg, p.2.1.bad, decide (p.2.2 = 2)⟩
theorem q_from (q : Query) (l : List (Ty .evt)) (i : Nat) (hl : q.steps.length ≤ 1048576) (hb : l.length ≤ 1000) (hi : i < l.length) : ∃ b, S.zu6e q.steps q.within q.agg q.aggStep q.aggF l i = some (outFr (fromL HB q l i) b) := by
 have z1 : ((i : Int) < (l.length : Int)) := by omega
 have z2 : (0 : Int) ≤ (i : Int) := by omega
 have w := e_wrap1 (n := i) (by omega)
 have g1 := q_Begin_is q l[i] i hl
 have g2 := q_Begin_o q l[i] i hl
 have hsub : sub l (i + 1) l.length = l.drop (i + 1) := sub_drop l (i + 1)
 have ed : l.drop (i + 1) = (l.drop (i + 1)).drop 0 := rfl
 obtain ⟨j, v', k', e1, e2, e3⟩ := from_loop q hl (l.drop (i + 1)) (by simp; omega) (l.drop (i + 1)).length 0 [] (beginL HB q l[i] i).1 (beginL HB q l[i] i).2
  ⟨(beginL HB q l[i] i).2, 0, true, 0, (beginL HB q l[i] i).1.first, (beginL HB q l[i] i).1.at_, (beginL HB q l[i] i).1.step, (beginL HB q l[i] i).1.n, (beginL HB q l[i] i).1.many, (beginL HB q l[i] i).1.agg, (beginL HB q l[i] i).1.bad, []⟩ (by omega) (by simp) ⟨rfl, rfl, rfl, rfl, rfl, rfl, rfl, rfl, rfl, rfl, rfl⟩
 have hev : evAt l i = l[i] := getD_of l i _ hi
 have hfr : fromL HB q l i = stepsL HB q (l.drop (i + 1)) (beginL HB q l[i] i).1 (beginL HB q l[i] i).2 := by unfold fromL; rw [hev]
 rw [List.drop_zero, List.nil_append] at e3
 have hp := steps_pre HB q (l.drop (i + 1)) (beginL HB q l[i] i).1 (beginL HB q l[i] i).2
 have hpl := preL_len HB q (l.drop (i + 1)) (beginL HB q l[i] i).1 (beginL HB q l[i] i).2
 rw [← hfr] at e3 hp
 have hlen : (preL HB q (l.drop (i + 1)) (beginL HB q l[i] i).1 (beginL HB q l[i] i).2).length ≤ 1000 := by have : (l.drop (i + 1)).length ≤ l.length := by simp
                                                                                                            omega
 generalize preL HB q (l.drop (i + 1)) (beginL HB q l[i] i).1 (beginL HB q l[i] i).2 = pr at e3 hp hlen
 have J0 : S.zu6e_4_j (l.drop (i + 1)) (l.drop (i + 1)).length q.steps q.within q.agg q.aggStep q.aggF ⟨(beginL HB q l[i] i).2, 0, true, 0, (beginL HB q l[i] i).1.first, (beginL HB q l[i] i).1.at_, (beginL HB q l[i] i).1.step, (beginL HB q l[i] i).1.n, (beginL HB q l[i] i).1.many, (beginL HB q l[i] i).1.agg, (beginL HB q l[i] i).1.bad, []⟩ 0 = (j == 0) := Lp_j_of e1 0
 have J1 : S.zu6e_4_j (l.drop (i + 1)) (l.drop (i + 1)).length q.steps q.within q.agg q.aggStep q.aggF ⟨(beginL HB q l[i] i).2, 0, true, 0, (beginL HB q l[i] i).1.first, (beginL HB q l[i] i).1.at_, (beginL HB q l[i] i).1.step, (beginL HB q l[i] i).1.n, (beginL HB q l[i] i).1.many, (beginL HB q l[i] i).1.agg, (beginL HB q l[i] i).1.bad, []⟩ 1 = (j == 1) := Lp_j_of e1 1
 have JV : S.zu6e_4_v (l.drop (i + 1)) (l.drop (i + 1)).length q.steps q.within q.agg q.aggStep q.aggF ⟨(beginL HB q l[i] i).2, 0, true, 0, (beginL HB q l[i] i).1.first, (beginL HB q l[i] i).1.at_, (beginL HB q l[i] i).1.step, (beginL HB q l[i] i).1.n, (beginL HB q l[i] i).1.many, (beginL HB q l[i] i).1.agg, (beginL HB q l[i] i).1.bad, []⟩ = v' := Lp_v_of e1
 have fin : ∃ b, (bif decide ((fromL HB q l i).2.2 = 0) then some (⟨pr ++ [(fromL HB q l i).2.1], false, pr.length + 1, (fromL HB q l i).2.1.first, (fromL HB q l i).2.1.at_, (fromL HB q l i).2.1.step, (fromL HB q l i).2.1.n, (fromL HB q l i).2.1.many, (fromL HB q l i).2.1.agg, (fromL HB q l i).2.1.bad, decide ((fromL HB q l i).2.2 = 2)⟩ : S.zu6e_T)
     else some (⟨pr, v'.h2_f, pr.length, (fromL HB q l i).2.1.first, (fromL HB q l i).2.1.at_, (fromL HB q l i).2.1.step, (fromL HB q l i).2.1.n, (fromL HB q l i).2.1.many, (fromL HB q l i).2.1.agg, (fromL HB q l i).2.1.bad, decide ((fromL HB q l i).2.2 = 2)⟩ : S.zu6e_T)) = some (outFr (fromL HB q l i) b) := by
  by_cases h : (fromL HB q l i).2.2 = 0
  ·rw [if_pos h] at hp
   refine ⟨false, ?_⟩
   rw [decide_eq_true h]
   simp only [outFr, hp, List.length_append, List.length_cons, List.length_nil, cond_true]
  ·rw [if_neg h, List.append_nil] at hp
   refine ⟨v'.h2_f, ?_⟩
   rw [decide_eq_false h]
   simp only [outFr, hp, cond_false]
 obtain ⟨b, hfin⟩ := fin
 refine ⟨b, ?_⟩
 unfold S.zu6e S.zu6e_R
 dsimp only
 rw [Int.toNat_natCast, getD_of l i _ hi, g1, g2]
 dsimp only [outB]
 simp only [xwrap, w, Int.toNat_natCast, hsub]
 rw [J0, J1, JV]
 simp only [e3.ff, e3.ln, e3.a0, e3.a1, e3.a2, e3.a3, e3.a4, e3.a5, e3.a6, e3.ac]
 have y1 : (0 : Int) ≤ ((i + 1 : Nat) : Int) := by omega
 have y2 : (((i + 1 : Nat) : Int)) ≤ Int.ofNat l.length := by show ((i + 1 : Nat) : Int) ≤ (l.length : Int); omega
 have y3 : pr.length + 1 ≤ 1048576 := by omega
 have e : (j == 0) = true ∨ (j == 0) = false ∧ (j == 1) = true := by rcases e2 with rfl | rfl <;> simp
 rcases e with e | ⟨e, e'⟩
 ·rw [e]
  simp only [DT.run_br, DT.run_leaf, DT.run_fail, xdec, z1, z2, e_xeqI, y1, y2, y3, decide_true, cond_true, Bool.and_self, List.replicate, List.set, List.length_cons, List.length_nil, Nat.le_refl, List.take_length]
  exact hfin
 ·rw [e, e']
  simp only [DT.run_br, DT.run_leaf, DT.run_fail, xdec, z1, z2, e_xeqI, y1, y2, y3, decide_true, cond_true, cond_false, Bool.and_self, List.replicate, List.set, List.length_cons, List.length_nil, Nat.le_refl, List.take_length]
  exact hfin
theorem q_from_is (q : Query) (l : List (Ty .evt)) (i : Nat) (hl : q.steps.length ≤ 1048576) (hb : l.length ≤ 1000) (hi : i < l.length) : S.zu6e_is q.steps q.within q.agg q.aggStep q.aggF l i = true := by
 obtain ⟨b, h⟩ := q_from q l i hl hb hi
 simp [S.zu6e_is, h]
theorem q_from_o (q : Query) (l : List (Ty .evt)) (i : Nat) (hl : q.steps.length ≤ 1048576) (hb : l.length ≤ 1000) (hi : i < l.length) : ∃ b, S.zu6e_o q.steps q.within q.agg q.aggStep q.aggF l i = outFr (fromL HB q l i) b := by
 obtain ⟨b, h⟩ := q_from q l i hl hb hi
 exact ⟨b, by simp [S.zu6e_o, h]⟩
def outOne : Option Mat → S.znv3_T
 | some m => ⟨m.start, m.fin, m.agg, m.bad, true⟩
 | none => ⟨0, 0, 0, false, false⟩
theorem q_told' (a : Int) (b : Bool) : S.zhhg_o a b = ⟨a, b⟩ := rfl
theorem q_One (q : Query) (l : List (Ty .evt)) (i : Nat) (hl : q.steps.length ≤ 1048576) (hb : l.length ≤ 1000) (hi : i < l.length) : S.znv3 q.steps q.within q.agg q.aggStep q.aggF l i = some (outOne (oneL HB q l i)) := by
 have z1 : ¬ ((i : Int) ≥ (l.length : Int)) := by omega
 have z2 : ¬ (i : Int) < 0 := by omega
 have g1 := q_from_is q l i hl hb hi
 obtain ⟨b, g2⟩ := q_from_o q l i hl hb hi
 have hn := (nRun_le (H := HB) (q := q) l hi).1
 have hw : IntKind.i64.wrap ((i : Int) + ((fromL HB q l i).1.length : Nat)) = (i : Int) + (nRun HB q l i : Nat) := by
  show IntKind.i64.wrap ((i : Int) + (nRun HB q l i : Nat)) = _
  exact e_wrap (by omega) (by omega)
 have hm : S.zrty (fromL HB q l i).1 (fromL HB q l i).2.1.agg (fromL HB q l i).2.1.bad (decide ((fromL HB q l i).2.2 = 2)) i = some (let o := outOne (oneL HB q l i); ⟨o.x0, o.x1, o.x2, o.x3, o.x4⟩) := by
  unfold S.zrty S.zrty_R oneL
  by_cases h : (fromL HB q l i).2.2 = 2
  ·simp only [h, decide_true, xnot, Bool.not_true, DT.run_br, DT.run_leaf, cond_false, if_true, xwrap, hw, q_told']
   rfl
  ·simp only [h, decide_false, xnot, Bool.not_false, DT.run_br, DT.run_leaf, cond_true, if_false]
   rfl
 have hm1 : S.zrty_is (fromL HB q l i).1 (fromL HB q l i).2.1.agg (fromL HB q l i).2.1.bad (decide ((fromL HB q l i).2.2 = 2)) i = true := by simp [S.zrty_is, hm]
 have hm2 : S.zrty_o (fromL HB q l i).1 (fromL HB q l i).2.1.agg (fromL HB q l i).2.1.bad (decide ((fromL HB q l i).2.2 = 2)) i = (let o := outOne (oneL HB q l i); ⟨o.x0, o.x1, o.x2, o.x3, o.x4⟩) := by simp [S.zrty_o, hm]
 unfold S.znv3 S.znv3_R
 dsimp only
 rw [g1, g2]
 dsimp only [outFr]
 rw [sub_take, List.take_length, hm1, hm2]
 have y1 : 0 + (fromL HB q l i).1.length ≤ (fromL HB q l i).1.length := by omega
 simp only [DT.run_br, DT.run_leaf, DT.run_fail, xdec, z1, z2, y1, decide_false, decide_true, cond_false, cond_true, Bool.and_self]
theorem q_One_is (q : Query) (l : List (Ty .evt)) (i : Nat) (hl : q.steps.length ≤ 1048576) (hb : l.length ≤ 1000) (hi : i < l.length) : S.znv3_is q.steps q.within q.agg q.aggStep q.aggF l i = true := by simp [S.znv3_is, q_One q l i hl hb hi]
theorem q_One_o (q : Query) (l : List (Ty .evt)) (i : Nat) (hl : q.steps.length ≤ 1048576) (hb : l.length ≤ 1000) (hi : i < l.length) : S.znv3_o q.steps q.within q.agg q.aggStep q.aggF l i = outOne (oneL HB q l i) := by simp [S.znv3_o, q_One q l i hl hb hi]
def cntTo (H : HH) (q : Query) (l : List Evt) (k e : Nat) : Nat := (List.range k).countP (liveB H q l e)
def cntsL (H : HH) (q : Query) (l : List Evt) (k i : Nat) : List Int := (List.range l.length).map fun e => (((cntTo H q l k e + if k ≤ e ∧ e < k + i then 1 else 0 : Nat)) : Int)
def ownsL (H : HH) (q : Query) (l : List Evt) (k : Nat) : List Bool := (List.range l.length).map fun e => decide (e < k) && decide (0 < nRun H q l e)
theorem cntTo_le (H : HH) (q : Query) (l : List Evt) (k e : Nat) : cntTo H q l k e ≤ k := by
 unfold cntTo
 have := List.countP_le_length (p := liveB H q l e) (l := List.range k)
 simpa using this
theorem cnts_next (H : HH) (q : Query) (l : List Evt) (k : Nat) : cntsL H q l k (nRun H q l k) = cntsL H q l (k + 1) 0 := by
 unfold cntsL
 refine List.map_congr_left fun e _ => ?_
 have e1 : cntTo H q l (k + 1) e = cntTo H q l k e + if liveB H q l e k = true then 1 else 0 := by
  unfold cntTo; rw [List.range_succ, List.countP_append]; simp [List.countP_cons]
 have e2 : (liveB H q l e k = true) ↔ (k ≤ e ∧ e < k + nRun H q l k) := by unfold liveB; simp
 rw [e1]
 have e3 : ¬ (k + 1 ≤ e ∧ e < k + 1 + 0) := by omega
 rw [if_neg e3]
 by_cases h : k ≤ e ∧ e < k + nRun H q l k
 ·rw [if_pos h, if_pos (e2.2 h)]
 ·rw [if_neg h, if_neg (fun g => h (e2.1 g))]
theorem cnts_set (H : HH) (q : Query) (l : List Evt) {k i : Nat} (hk : k + i < l.length) (hb : l.length ≤ 1000) : (cntsL H q l k i).set (k + i) (IntKind.i64.wrap ((cntsL H q l k i).getD (k + i) 0 + 1)) = cntsL H q l k (i + 1) := by
 have hlen : (cntsL H q l k i).length = l.length := by simp [cntsL]
 have hg : (cntsL H q l k i).getD (k + i) 0 = (cntTo H q l k (k + i) : Nat) := by
  rw [getD_of _ _ _ (by rw [hlen]; exact hk)]
  simp [cntsL]
 have hc := cntTo_le H q l k (k + i)
 rw [hg, e_wrap1 (by omega)]
 refine List.ext_getElem (by simp [cntsL]) (fun e h1 h2 => ?_)
 rw [List.getElem_set]
 have he : e < l.length := by simpa [cntsL] using h2
 by_cases h : k + i = e
 ·subst h
  rw [if_pos rfl]
  simp [cntsL]
 ·rw [if_neg h]
  simp only [cntsL, List.getElem_map, List.getElem_range]
  have : (k ≤ e ∧ e < k + i) ↔ (k ≤ e ∧ e < k + (i + 1)) := by omega
  by_cases g : k ≤ e ∧ e < k + i
  ·rw [if_pos g, if_pos (this.1 g)]
  ·rw [if_neg g, if_neg (fun x => g (this.2 x))]
theorem owns_set (H : HH) (q : Query) (l : List Evt) {k : Nat} (hk : k < l.length) : (ownsL H q l k).set k (decide (((nRun H q l k : Nat) : Int) > 0)) = ownsL H q l (k + 1) := by
 refine List.ext_getElem (by simp [ownsL]) (fun e h1 h2 => ?_)
 rw [List.getElem_set]
 by_cases h : k = e
 ·subst h
  rw [if_pos rfl]
  simp [ownsL]
 ·rw [if_neg h]
  simp only [ownsL, List.getElem_map, List.getElem_range]
  have : (e < k) ↔ (e < k + 1) := by omega
  rw [decide_eq_decide.2 this]
theorem over_inner (q : Query) (l : List (Ty .evt)) (hb : l.length ≤ 1000) (k : Nat) (hk : k < l.length) : Lp (S.zjsn_8_r l.length k (nRun HB q l k : Nat)) ⟨0, cntsL HB q l k 0⟩ = some (0, ⟨(nRun HB q l k : Nat), cntsL HB q l k (nRun HB q l k)⟩) := by
 have hn := (nRun_le (H := HB) (q := q) l hk).1
 refine Lp_walk (fun i => (⟨(i : Int), cntsL HB q l k i⟩ : S.zjsn_8_V)) (nRun HB q l k) 0 (fun i hi => ?_) ?_
 ·have z1 : ((i : Int) < ((nRun HB q l k : Nat) : Int)) := by omega
  have w : IntKind.i64.wrap ((k : Int) + (i : Int)) = ((k + i : Nat) : Int) := by rw [e_wrap (by omega) (by omega)]; omega
  have hlen : (cntsL HB q l k i).length = l.length := by simp [cntsL]
  have z2 : (0 : Int) ≤ ((k + i : Nat) : Int) := by omega
  have z3 : ((k + i : Nat) : Int) < (l.length : Int) := by omega
  have z4 : k + i < (cntsL HB q l k i).length := by omega
  unfold S.zjsn_8_r S.zjsn_8_R
  dsimp only
  simp only [xwrap, w, Int.toNat_natCast, Nat.zero_add]
  have hs := cnts_set HB q l (show k + i < l.length by omega) hb
  have hd : (dflt ET.int : Ty ET.int) = (0 : Int) := rfl
  rw [hd, hs]
  simp only [DT.run_br, DT.run_leaf, DT.run_fail, xdec, z1, z2, z3, z4, decide_true, cond_true, Bool.and_self, e_wrap1 (show i ≤ 1048576 by omega)]
 ·have z1 : ¬ (((nRun HB q l k : Nat) : Int) < ((nRun HB q l k : Nat) : Int)) := by omega
  unfold S.zjsn_8_r S.zjsn_8_R
  dsimp only
  simp only [DT.run_br, DT.run_leaf, xdec, z1, decide_false, cond_false]
theorem over_outer (q : Query) (l : List (Ty .evt)) (hl : q.steps.length ≤ 1048576) (hb : l.length ≤ 1000) : Lp (S.zjsn_4_r l l.length l.length l.length q.steps q.within q.agg q.aggStep q.aggF) ⟨0, cntsL HB q l 0 0, ownsL HB q l 0⟩ = some (0, ⟨(l.length : Nat), cntsL HB q l l.length 0, ownsL HB q l l.length⟩) := by
 refine Lp_walk (fun k => (⟨(k : Int), cntsL HB q l k 0, ownsL HB q l k⟩ : S.zjsn_4_V)) l.length 0 (fun k hk => ?_) ?_
 ·have z1 : ((k : Int) < (l.length : Int)) := by omega
  have z2 : (0 : Int) ≤ (k : Int) := by omega
  have g1 := q_from_is q l k hl hb hk
  obtain ⟨b, g2⟩ := q_from_o q l k hl hb hk
  have lp := over_inner q l hb k hk
  have J : S.zjsn_8_j l.length k (nRun HB q l k : Nat) ⟨0, cntsL HB q l k 0⟩ 0 = true := by unfold S.zjsn_8_j; rw [Lp_j_of lp]; rfl
  have V : S.zjsn_8_v l.length k (nRun HB q l k : Nat) ⟨0, cntsL HB q l k 0⟩ = ⟨(nRun HB q l k : Nat), cntsL HB q l k (nRun HB q l k)⟩ := by unfold S.zjsn_8_v; rw [Lp_v_of lp]
  have hlen : (ownsL HB q l k).length = l.length := by simp [ownsL]
  have z4 : k < (ownsL HB q l k).length := by omega
  unfold S.zjsn_4_r S.zjsn_4_R
  dsimp only
  rw [g1, g2]
  dsimp only [outFr]
  rw [show S.zjsn_8_j l.length k ((fromL HB q l k).1.length : Nat) ⟨0, cntsL HB q l k 0⟩ 0 = true from J, show S.zjsn_8_v l.length k ((fromL HB q l k).1.length : Nat) ⟨0, cntsL HB q l k 0⟩ = ⟨(nRun HB q l k : Nat), cntsL HB q l k (nRun HB q l k)⟩ from V]
  dsimp only
  simp only [Int.toNat_natCast, Nat.zero_add]
  rw [cnts_next]
  have hs : (ownsL HB q l k).set k (decide ((((fromL HB q l k).1.length : Nat) : Int) > 0)) = ownsL HB q l (k + 1) := owns_set HB q l hk
  simp only [DT.run_br, DT.run_leaf, DT.run_fail, xdec, xwrap, z1, z2, z4, decide_true, cond_true, Bool.and_self, e_wrap1 (show k ≤ 1048576 by omega)]
  exact congrArg (fun z => (some (none, ⟨((k + 1 : Nat) : Int), cntsL HB q l (k + 1) 0, z⟩) : Option (Option Nat × S.zjsn_4_V))) hs
 ·have z1 : ¬ ((l.length : Int) < (l.length : Int)) := by omega
  unfold S.zjsn_4_r S.zjsn_4_R
  dsimp only
  simp only [DT.run_br, DT.run_leaf, xdec, z1, decide_false, cond_false]
theorem cnts_zero (H : HH) (q : Query) (l : List Evt) : cntsL H q l 0 0 = List.replicate l.length 0 := by
 unfold cntsL
 refine List.ext_getElem (by simp) (fun e h1 h2 => ?_)
 have : ¬ (0 ≤ e ∧ e < 0 + 0) := by omega
 simp only [List.getElem_map, List.getElem_range, List.getElem_replicate, if_neg this]
 simp [cntTo]
theorem owns_zero (H : HH) (q : Query) (l : List Evt) : ownsL H q l 0 = List.replicate l.length false := by
 unfold ownsL
 refine List.ext_getElem (by simp) (fun e h1 h2 => ?_)
 simp
theorem over_find (q : Query) (l : List (Ty .evt)) (hb : l.length ≤ 1000) (most : Int) : Lp (S.zjsn_15_r most l.length l.length l.length (cntsL HB q l l.length 0) (ownsL HB q l l.length)) ⟨0⟩ = match (List.range l.length).find? (overB HB q l most) with
    | some e => some (0, ⟨(e : Nat)⟩)
    | none => some (1, ⟨(l.length : Nat)⟩) := by
 have hg1 : ∀ e, e < l.length → (cntsL HB q l l.length 0).getD e 0 = (nLive HB q l e : Nat) := fun e he => by
  rw [getD_of _ _ _ (by simpa [cntsL] using he)]
  have : ¬ (l.length ≤ e ∧ e < l.length + 0) := by omega
  simp only [cntsL, List.getElem_map, List.getElem_range, if_neg this]
  rfl
 have hg2 : ∀ e, e < l.length → (ownsL HB q l l.length).getD e false = decide (0 < nRun HB q l e) := fun e he => by
  rw [getD_of _ _ _ (by simpa [ownsL] using he)]
  simp [ownsL, he]
 have key := Lp_idx (V := S.zjsn_15_V) (r := S.zjsn_15_r most l.length l.length l.length (cntsL HB q l l.length 0) (ownsL HB q l l.length)) (fun k => ⟨k⟩) (List.range l.length) (overB HB q l most) (fun e he => ?_) ?_
 ·have hl : (List.range l.length).length = l.length := List.length_range
  rw [hl] at key
  cases hf : (List.range l.length).findIdx? (overB HB q l most) with
  | none =>
   rw [hf] at key
   have : (List.range l.length).find? (overB HB q l most) = none := by
    rw [List.find?_eq_none]
    rw [List.findIdx?_eq_none_iff] at hf
    exact fun x hx => by rw [hf x hx]; decide
   rw [this]; exact key
  | some j =>
   rw [hf] at key
   obtain ⟨h1, h2, h3⟩ := List.findIdx?_eq_some_iff_getElem.1 hf
   have : (List.range l.length).find? (overB HB q l most) = some j := by
    rw [List.find?_eq_some_iff_getElem]
    simp only [List.getElem_range] at h2 h3
    exact ⟨h2, j, h1, by simp, fun i hi => by simpa using h3 i hi⟩
   rw [this]; exact key
 ·have he' : e < l.length := by simpa using he
  have z1 : ((e : Int) < (l.length : Int)) := by omega
  have z2 : (0 : Int) ≤ (e : Int) := by omega
  have z3 : e < (cntsL HB q l l.length 0).length := by simpa [cntsL] using he'
  have z4 : e < (ownsL HB q l l.length).length := by simpa [ownsL] using he'
  unfold S.zjsn_15_r S.zjsn_15_R
  dsimp only
  simp only [Int.toNat_natCast, Nat.zero_add]
  have d1 : (dflt ET.int : Ty ET.int) = (0 : Int) := rfl
  have d2 : (dflt ET.bool : Ty ET.bool) = false := rfl
  rw [d1, d2, hg1 e he', hg2 e he']
  simp only [DT.run_br, DT.run_leaf, DT.run_fail, xdec, xwrap, z1, z2, z3, z4, decide_true, cond_true, Bool.and_self, e_wrap1 (show e ≤ 1048576 by omega), List.getElem_range, overB]
  by_cases c1 : 0 < nRun HB q l e <;> by_cases c2 : (nLive HB q l e : Int) > most <;> simp [c1, c2]
 ·have z1 : ¬ ((l.length : Int) < (l.length : Int)) := by omega
  unfold S.zjsn_15_r S.zjsn_15_R
  dsimp only
  simp only [DT.run_br, DT.run_leaf, xdec, List.length_range, z1, decide_false, cond_false]
theorem q_Over (q : Query) (l : List (Ty .evt)) (most : Int) (hl : q.steps.length ≤ 1048576) (hb : l.length ≤ 1000) : S.zjsn q.steps q.within q.agg q.aggStep q.aggF l most = some ⟨overL HB q l most⟩ := by
 have lp := over_outer q l hl hb
 rw [cnts_zero, owns_zero] at lp
 have lf := over_find q l hb most
 have J : S.zjsn_4_j l l.length l.length l.length q.steps q.within q.agg q.aggStep q.aggF ⟨0, List.replicate l.length 0, List.replicate l.length false⟩ 0 = true := by unfold S.zjsn_4_j; rw [Lp_j_of lp]; rfl
 have V : S.zjsn_4_v l l.length l.length l.length q.steps q.within q.agg q.aggStep q.aggF ⟨0, List.replicate l.length 0, List.replicate l.length false⟩ = ⟨(l.length : Nat), cntsL HB q l l.length 0, ownsL HB q l l.length⟩ := by unfold S.zjsn_4_v; rw [Lp_v_of lp]
 have z1 : (0 : Int) ≤ (l.length : Int) := by omega
 have z2 : (l.length : Int) ≤ 1048576 := by omega
 have d1 : (dflt ET.int : Ty ET.int) = (0 : Int) := rfl
 have d2 : (dflt ET.bool : Ty ET.bool) = false := rfl
 unfold S.zjsn S.zjsn_R
 dsimp only
 rw [Int.toNat_natCast, d1, d2, J, V]
 dsimp only
 unfold S.zjsn_15_j S.zjsn_15_v overL
 cases hf : (List.range l.length).find? (overB HB q l most) with
 | none =>
  rw [hf] at lf
  rw [Lp_j_of lf, Lp_j_of lf]
  simp only [DT.run_br, DT.run_leaf, DT.run_fail, xdec, e_xeqI, z1, z2, decide_true, cond_true, Bool.and_self]
  rfl
 | some e =>
  rw [hf] at lf
  rw [Lp_j_of lf, Lp_v_of lf]
  simp only [DT.run_br, DT.run_leaf, DT.run_fail, xdec, e_xeqI, z1, z2, decide_true, cond_true, Bool.and_self]
  rfl
theorem q_Over_is (q : Query) (l : List (Ty .evt)) (most : Int) (hl : q.steps.length ≤ 1048576) (hb : l.length ≤ 1000) : S.zjsn_is q.steps q.within q.agg q.aggStep q.aggF l most = true := by simp [S.zjsn_is, q_Over q l most hl hb]
theorem q_Over_o (q : Query) (l : List (Ty .evt)) (most : Int) (hl : q.steps.length ≤ 1048576) (hb : l.length ≤ 1000) : S.zjsn_o q.steps q.within q.agg q.aggStep q.aggF l most = ⟨overL HB q l most⟩ := by simp [S.zjsn_o, q_Over q l most hl hb]
end Go.Eng
