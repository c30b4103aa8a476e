/- The stable sort of at most two blocks; all matches. -/
import Derived.Test.YtbjeikmkngcjlaaZP37
set_option maxHeartbeats 2000000
set_option linter.unusedVariables false
set_option linter.unusedSimpArgs false
namespace Go.Eng
open Go Go.Eng
def Sorts2 (n : Nat) : Prop := ∀ l : List (Ty .mat), l.length ≤ n → S.sort2 l = some ⟨stab l⟩
theorem q_stable39 (l : List (Ty .mat)) (h : l.length ≤ 39) : S.stable2 l (l.length : Nat) = some ⟨stab l⟩ := by
 have w40 : IntKind.i64.wrap (20 + 20) = 40 := e_wrap (by omega) (by omega)
 have w40' : IntKind.i64.wrap (2 * 20) = 40 := e_wrap (by omega) (by omega)
 have w40'' : IntKind.i64.wrap (20 * 2) = 40 := e_wrap (by omega) (by omega)
 have w20 : IntKind.i64.wrap (0 + 20) = 20 := e_wrap (by omega) (by omega)
 by_cases c : 20 ≤ l.length
 case neg =>
  have z7 : ¬ ((20 : Int) < (l.length : Int)) := by omega
  have z1 : ¬ ((20 : Int) ≤ (l.length : Int)) := by omega
  have L7 : Lp (S.stable2_7_r l.length (l.length : Nat)) ⟨20, stab l⟩ = some (0, ⟨20, stab l⟩) := by
   refine Lp_exit ?_
   unfold S.stable2_7_r S.stable2_7_R
   simp only [DT.run_br, DT.run_leaf, xdec, z7, decide_false, cond_false]
  have L2 : Lp (S.stable2_2_r l.length (l.length : Nat) 20) ⟨0, 20, l⟩ = some (0, ⟨0, 20, l⟩) := by
   refine Lp_exit ?_
   unfold S.stable2_2_r S.stable2_2_R
   simp only [DT.run_br, DT.run_leaf, xdec, z1, decide_false, cond_false]
  unfold S.stable2 S.stable2_R
  dsimp only
  unfold S.stable2_2_j S.stable2_2_v S.stable2_7_j S.stable2_7_v
  rw [Lp_j_of L2, Lp_v_of L2]
  dsimp only
  rw [q_insAll_is l (by omega), q_insAll_o l (by omega)]
  dsimp only
  rw [Lp_j_of L7, Lp_v_of L7]
  simp only [DT.run_br, DT.run_leaf, xdec, decide_true, cond_true, Bool.and_self, beq_self_eq_true]
 obtain ⟨x, y, e, lx⟩ : ∃ x y : List Mat, l = x ++ y ∧ x.length = 20 := ⟨l.take 20, l.drop 20, (List.take_append_drop _ _).symm, by simp; omega⟩
 have ln : l.length = 20 + y.length := by rw [e]; simp; omega
 have sx := stab_len x
 have sy := stab_len y
 have z1 : (20 : Int) ≤ (l.length : Int) := by omega
 have z2 : ¬ ((40 : Int) ≤ (l.length : Int)) := by omega
 have z4 : ¬ ((40 : Int) < (l.length : Int)) := by omega
 have i1 : S.zztx_is l 0 20 = true := by
  have := q_insSort_is [] x y (by simp; omega)
  rw [show ([] : List Mat).length + x.length = 20 by simp [lx], List.nil_append, ← e] at this
  exact this
 have i2 : S.zztx_o l 0 20 = ⟨stab x ++ y⟩ := by
  have := q_insSort_o [] x y (by simp; omega)
  rw [show ([] : List Mat).length + x.length = 20 by simp [lx], List.nil_append, List.nil_append, ← e] at this
  exact this
 have L2 : Lp (S.stable2_2_r l.length (l.length : Nat) 20) ⟨0, 20, l⟩ = some (0, ⟨20, 40, stab x ++ y⟩) := by
  rw [Lp_cont (v' := ⟨20, 40, stab x ++ y⟩)]
  ·refine Lp_exit ?_
   unfold S.stable2_2_r S.stable2_2_R
   simp only [DT.run_br, DT.run_leaf, xdec, z2, decide_false, cond_false]
  ·unfold S.stable2_2_r S.stable2_2_R
   dsimp only
   rw [i1, i2]
   simp only [DT.run_br, DT.run_leaf, xdec, xwrap, w40, z1, decide_true, cond_true, Bool.and_self]
 have i3 : S.zztx_is (stab x ++ y) 20 (l.length : Nat) = true := by
  have := q_insSort_is (stab x) y [] (by simp; omega)
  rw [show (stab x).length + y.length = l.length by omega, show (stab x).length = 20 by omega, List.append_nil] at this
  exact this
 have i4 : S.zztx_o (stab x ++ y) 20 (l.length : Nat) = ⟨stab x ++ stab y⟩ := by
  have := q_insSort_o (stab x) y [] (by simp; omega)
  rw [show (stab x).length + y.length = l.length by omega, show (stab x).length = 20 by omega, List.append_nil, List.append_nil] at this
  exact this
 have hl1 : l.length = (stab x ++ y).length := by simp; omega
 have hl2 : l.length = (stab x ++ stab y).length := by simp; omega
 have hres : stab (stab x ++ stab y) = stab l := by
  refine stab_of (stab_srt _) fun q => ?_
  rw [stab_filter, List.filter_append, stab_filter, stab_filter, ← List.filter_append, ← e]
 have L7 : ∃ v, Lp (S.stable2_7_r l.length (l.length : Nat)) ⟨20, stab x ++ stab y⟩ = some (0, ⟨v, stab l⟩) := by
  by_cases g : y.length = 0
  ·have z7 : ¬ ((20 : Int) < (l.length : Int)) := by omega
   have hy : y = [] := List.eq_nil_of_length_eq_zero g
   refine ⟨20, Lp_exit ?_⟩
   unfold S.stable2_7_r S.stable2_7_R
   simp only [DT.run_br, DT.run_leaf, xdec, z7, decide_false, cond_false]
   subst hy
   rw [e, List.append_nil]
   simp [stab]
  ·have z7 : ((20 : Int) < (l.length : Int)) := by omega
   have L9 : Lp (S.stable2_9_r l.length (l.length : Nat) 20) ⟨0, 40, stab x ++ stab y⟩ = some (0, ⟨0, 40, stab x ++ stab y⟩) := by
    refine Lp_exit ?_
    unfold S.stable2_9_r S.stable2_9_R
    simp only [DT.run_br, DT.run_leaf, xdec, z2, decide_false, cond_false]
   obtain ⟨f1, f2⟩ := q_symFin [] (stab x) (stab y) [] (stab_srt _) (stab_srt _) (by omega) (by omega) (by omega) (by simp; omega)
   rw [show ([] : List Mat).length + (stab x).length + (stab y).length = l.length by simp; omega, show ([] : List Mat).length + (stab x).length = 20 by simp; omega, List.nil_append, List.append_nil] at f1 f2
   rw [List.nil_append, List.append_nil, hres] at f2
   refine ⟨40, ?_⟩
   rw [Lp_cont (v' := ⟨40, stab l⟩)]
   ·refine Lp_exit ?_
    unfold S.stable2_7_r S.stable2_7_R
    simp only [DT.run_br, DT.run_leaf, xdec, z4, decide_false, cond_false]
   ·unfold S.stable2_7_r S.stable2_7_R
    dsimp only
    unfold S.stable2_9_j S.stable2_9_v
    simp only [xwrap, w40', w40'']
    rw [Lp_j_of L9, Lp_v_of L9]
    dsimp only
    simp only [w20]
    have f1' : S.symFin_is (stab x ++ stab y) 0 20 (l.length : Nat) = true := f1
    have f2' : S.symFin_o (stab x ++ stab y) 0 20 (l.length : Nat) = stab l := f2
    rw [f1', f2']
    simp only [DT.run_br, DT.run_leaf, DT.run_fail, xdec, z7, hl2, decide_true, cond_true, Bool.and_self, beq_self_eq_true]
    rw [← hl2]
    simp only [z7, decide_true, cond_true]
 obtain ⟨v, L7⟩ := L7
 unfold S.stable2 S.stable2_R
 dsimp only
 unfold S.stable2_2_j S.stable2_2_v S.stable2_7_j S.stable2_7_v
 rw [Lp_j_of L2, Lp_v_of L2]
 dsimp only
 rw [i3, i4]
 dsimp only
 rw [Lp_j_of L7, Lp_v_of L7]
 have hl1' : xdec (l.length = (stab x ++ y).length) = true := decide_eq_true hl1
 rw [hl1']
 simp only [DT.run_br, DT.run_leaf, cond_true, Bool.and_self, beq_self_eq_true]
theorem sorts39 : Sorts2 39 := fun l hl => by
 unfold S.sort2 S.sort2_R S.stable2_is S.stable2_o
 dsimp only
 rw [q_stable39 l hl]
 simp only [DT.run_br, DT.run_leaf, xdec, decide_true, cond_true, Bool.and_self, Option.isSome_some, Option.getD_some]
theorem all2_loop (q : Query) (l : List (Ty .evt)) (o : Int) (hl : q.steps.length ≤ 1048576) (hb : l.length ≤ 1000) : ∀ (n k : Nat) (f : Bool), k + n = l.length →
    ∃ f', Lp (S.all2_1_r l q.steps q.within q.agg q.aggStep q.aggF l.length o) ⟨(k : Int), f, (kL HB q l o k).length, kL HB q l o k⟩ = some (2, ⟨(l.length : Nat), f', (kL HB q l o l.length).length, kL HB q l o l.length⟩)
 | 0, k, f, hk => by
  have e : k = l.length := by omega
  subst e
  refine ⟨f, Lp_exit ?_⟩
  unfold S.all2_1_r S.all2_1_R
  dsimp only
  have z : ¬ ((l.length : Int) < (l.length : Int)) := by omega
  simp only [DT.run_br, DT.run_leaf, xdec, z, decide_false, cond_false]
 | n + 1, k, f, hk => by
  have hk' : k < l.length := by omega
  have z : ((k : Int) < (l.length : Int)) := by omega
  have g1 := q_One_is q l k hl hb hk'
  have g2 := q_One_o q l k hl hb hk'
  have hlen := kL_len HB q l o k
  have hround : ∃ f1, S.all2_1_r l q.steps q.within q.agg q.aggStep q.aggF l.length o ⟨(k : Int), f, (kL HB q l o k).length, kL HB q l o k⟩ = some (none, ⟨((k + 1 : Nat) : Int), f1, (kL HB q l o (k + 1)).length, kL HB q l o (k + 1)⟩) := by
   unfold S.all2_1_r S.all2_1_R
   dsimp only
   rw [g1, g2]
   simp only [xwrap, e_wrap1 (show k ≤ 1048576 by omega), List.take_length]
   cases ho : oneL HB q l k with
   | none =>
    rw [kL_none ho]
    refine ⟨f, ?_⟩
    dsimp only [outOne]
    simp only [DT.run_br, DT.run_leaf, xdec, z, decide_true, cond_true, cond_false]
   | some m =>
    rw [kL_some ho]
    dsimp only [outOne]
    have y3 : (kL HB q l o k).length + 1 ≤ 1048576 := by omega
    by_cases c : keptB o m = true
    ·rw [if_pos c]
     refine ⟨false, ?_⟩
     have ec : (kL HB q l o k ++ [m]).length = (kL HB q l o k).length + 1 := by simp
     rw [ec]
     simp only [DT.run_br, DT.run_leaf, DT.run_fail, xdec, xnot, z, y3, decide_true, cond_true, cond_false, Bool.and_self, List.replicate, List.set, List.length_cons, List.length_nil, Nat.le_refl, Bool.not_true]
     by_cases c1 : o < 0
     ·simp only [c1, decide_true, cond_true]
     ·have c2 : m.fin ≤ o := by simpa [keptB, c1] using c
      simp only [c1, c2, decide_true, decide_false, cond_true, cond_false]
    ·rw [if_neg c]
     refine ⟨f, ?_⟩
     have c0 : ¬ o < 0 ∧ ¬ m.fin ≤ o := by simpa [keptB] using c
     simp only [DT.run_br, DT.run_leaf, DT.run_fail, xdec, xnot, z, c0.1, c0.2, decide_true, decide_false, cond_true, cond_false, Bool.not_true]
  obtain ⟨f1, hr⟩ := hround
  obtain ⟨f', h⟩ := all2_loop q l o hl hb n (k + 1) f1 (by omega)
  exact ⟨f', by rw [Lp_cont hr]; exact h⟩
theorem q_All2 {N : Nat} (hs : Sorts2 N) (n0 : Option Bool) (f0 : Bool) (q : Query) (n1 : Option Bool) (f1 : Bool) (l : List (Ty .evt)) (most : Int) (hl : q.steps.length ≤ 1048576) (hN : l.length ≤ N) (hb : l.length ≤ 1000) :
    ∃ f, S.all2 n0 f0 q.steps q.within q.agg q.aggStep q.aggF n1 f1 l most = some ⟨allL HB q l most, f, (allL HB q l most).length⟩ := by
 obtain ⟨f', h⟩ := all2_loop q l (overL HB q l most) hl hb l.length 0 true (by omega)
 have hk := kL_len HB q l (overL HB q l most) l.length
 have h0 : kL HB q l (overL HB q l most) 0 = [] := rfl
 rw [h0] at h
 have hS := hs (kL HB q l (overL HB q l most) l.length) (by omega)
 have hA : stab (kL HB q l (overL HB q l most) l.length) = allL HB q l most := rfl
 have hL : (allL HB q l most).length = (kL HB q l (overL HB q l most) l.length).length := by rw [← hA, stab_len]
 rw [hA] at hS
 refine ⟨f', ?_⟩
 have hm : S.zpzf_o n0 f0 q.steps q.within q.agg q.aggStep q.aggF n1 f1 l = ⟨n1, f1, l, n0, f0, q.steps, q.within, q.agg, q.aggStep, q.aggF⟩ := rfl
 have hS1 : S.sort2_is (kL HB q l (overL HB q l most) l.length) = true := by simp [S.sort2_is, hS]
 have hS2 : S.sort2_o (kL HB q l (overL HB q l most) l.length) = ⟨allL HB q l most⟩ := by simp [S.sort2_o, hS]
 unfold S.all2 S.all2_R
 dsimp only
 rw [hm, q_Over_is q l most hl hb, q_Over_o q l most hl hb]
 dsimp only
 unfold S.all2_1_j S.all2_1_v
 rw [show ((0 : Nat) : Int) = (0 : Int) from rfl] at h
 rw [show ([] : List Mat).length = 0 from rfl] at h
 rw [Lp_j_of h, Lp_j_of h, Lp_j_of h, Lp_v_of h]
 dsimp only
 rw [hS1, hS2, hL]
 simp only [DT.run_br, DT.run_leaf, xdec, decide_true, cond_true, cond_false, Bool.and_self]
 rfl
theorem q_All2_is {N : Nat} (hs : Sorts2 N) (n0 : Option Bool) (f0 : Bool) (q : Query) (n1 : Option Bool) (f1 : Bool) (l : List (Ty .evt)) (most : Int) (hl : q.steps.length ≤ 1048576) (hN : l.length ≤ N) (hb : l.length ≤ 1000) :
    S.all2_is n0 f0 q.steps q.within q.agg q.aggStep q.aggF n1 f1 l most = true := by
 obtain ⟨f, h⟩ := q_All2 hs n0 f0 q n1 f1 l most hl hN hb
 simp [S.all2_is, h]
theorem q_All2_o {N : Nat} (hs : Sorts2 N) (n0 : Option Bool) (f0 : Bool) (q : Query) (n1 : Option Bool) (f1 : Bool) (l : List (Ty .evt)) (most : Int) (hl : q.steps.length ≤ 1048576) (hN : l.length ≤ N) (hb : l.length ≤ 1000) :
    ∃ f, S.all2_o n0 f0 q.steps q.within q.agg q.aggStep q.aggF n1 f1 l most = ⟨allL HB q l most, f, (allL HB q l most).length⟩ := by
 obtain ⟨f, h⟩ := q_All2 hs n0 f0 q n1 f1 l most hl hN hb
 exact ⟨f, by simp [S.all2_o, h]⟩
end Go.Eng
