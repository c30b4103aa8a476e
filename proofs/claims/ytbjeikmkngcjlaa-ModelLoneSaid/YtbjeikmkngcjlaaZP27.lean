/- All matches: the functions' plain words. -/
import Derived.Test.YtbjeikmkngcjlaaZP26
import Derived.Test.YtbjeikmkngcjlaaZG12
set_option linter.unusedVariables false
set_option linter.unusedSimpArgs false
namespace Go.Eng
open Go Go.Eng
theorem q_insSort_is (a s z : List Mat) (hn : a.length + s.length + z.length ≤ 1000) : S.zztx_is (a ++ s ++ z) a.length ((a.length + s.length : Nat) : Int) = true := by unfold S.zztx_is; rw [q_insSort a s z hn]; rfl
theorem q_insSort_o (a s z : List Mat) (hn : a.length + s.length + z.length ≤ 1000) : S.zztx_o (a ++ s ++ z) a.length ((a.length + s.length : Nat) : Int) = ⟨a ++ stab s ++ z⟩ := by unfold S.zztx_o; rw [q_insSort a s z hn]; rfl
theorem q_insAll_is (l : List Mat) (hn : l.length ≤ 1000) : S.zztx_is l 0 (l.length : Nat) = true := by
 have := q_insSort_is [] l [] (by simpa using hn)
 simpa using this
theorem q_insAll_o (l : List Mat) (hn : l.length ≤ 1000) : S.zztx_o l 0 (l.length : Nat) = ⟨stab l⟩ := by
 have := q_insSort_o [] l [] (by simpa using hn)
 simpa using this
theorem q_insNil_is (l : List Mat) (hn : l.length ≤ 1000) : S.zztx_is l (l.length : Nat) (l.length : Nat) = true := by
 have := q_insSort_is l [] [] (by simpa using hn)
 simpa using this
theorem q_insNil_o (l : List Mat) (hn : l.length ≤ 1000) : S.zztx_o l (l.length : Nat) (l.length : Nat) = ⟨l⟩ := by
 have := q_insSort_o l [] [] (by simpa using hn)
 simpa [stab] using this
def Sorts (n : Nat) : Prop := ∀ l : List (Ty .mat), l.length ≤ n → S.zm5a l = some ⟨stab l⟩
theorem q_stable20 (l : List (Ty .mat)) (h : l.length ≤ 20) : S.zuks l (l.length : Nat) = some ⟨stab l⟩ := by
 have z7 : ¬ ((20 : Int) < (l.length : Int)) := by omega
 have L7 : Lp (S.zuks_7_r (l.length : Nat)) ⟨20⟩ = some (0, ⟨20⟩) := by
  refine Lp_exit ?_
  unfold S.zuks_7_r S.zuks_7_R
  simp only [DT.run_br, DT.run_leaf, xdec, z7, decide_false, cond_false]
 by_cases c : l.length = 20
 ·have z1 : (20 : Int) ≤ (l.length : Int) := by omega
  have z2 : ¬ ((40 : Int) ≤ (l.length : Int)) := by omega
  have e20 : (20 : Int) = ((l.length : Nat) : Int) := by omega
  have sl := stab_len l
  have i1 : S.zztx_is l 0 20 = true := by rw [e20]; exact q_insAll_is l (by omega)
  have i2 : S.zztx_o l 0 20 = ⟨stab l⟩ := by rw [e20]; exact q_insAll_o l (by omega)
  have i3 : S.zztx_is (stab l) 20 (l.length : Nat) = true := by
   have := q_insNil_is (stab l) (by omega)
   rw [sl] at this; rw [e20]; exact this
  have i4 : S.zztx_o (stab l) 20 (l.length : Nat) = ⟨stab l⟩ := by
   have := q_insNil_o (stab l) (by omega)
   rw [sl] at this; rw [e20]; exact this
  have L2 : Lp (S.zuks_2_r l.length (l.length : Nat) 20) ⟨0, 20, l⟩ = some (0, ⟨20, 40, stab l⟩) := by
   have w : IntKind.i64.wrap (20 + 20) = 40 := e_wrap (by omega) (by omega)
   rw [Lp_cont (v' := ⟨20, 40, stab l⟩)]
   ·refine Lp_exit ?_
    unfold S.zuks_2_r S.zuks_2_R
    simp only [DT.run_br, DT.run_leaf, xdec, z2, decide_false, cond_false]
   ·unfold S.zuks_2_r S.zuks_2_R
    dsimp only
    rw [i1, i2]
    simp only [DT.run_br, DT.run_leaf, xdec, xwrap, w, z1, decide_true, cond_true, Bool.and_self]
  unfold S.zuks S.zuks_R
  dsimp only
  unfold S.zuks_2_j S.zuks_2_v S.zuks_7_j
  rw [Lp_j_of L2, Lp_v_of L2, Lp_j_of L7]
  dsimp only
  rw [i3, i4]
  simp only [DT.run_br, DT.run_leaf, xdec, sl, decide_true, cond_true, Bool.and_self, beq_self_eq_true]
 ·have z1 : ¬ ((20 : Int) ≤ (l.length : Int)) := by omega
  have L2 : Lp (S.zuks_2_r l.length (l.length : Nat) 20) ⟨0, 20, l⟩ = some (0, ⟨0, 20, l⟩) := by
   refine Lp_exit ?_
   unfold S.zuks_2_r S.zuks_2_R
   simp only [DT.run_br, DT.run_leaf, xdec, z1, decide_false, cond_false]
  unfold S.zuks S.zuks_R
  dsimp only
  unfold S.zuks_2_j S.zuks_2_v S.zuks_7_j
  rw [Lp_j_of L2, Lp_v_of L2, Lp_j_of L7]
  dsimp only
  rw [q_insAll_is l (by omega), q_insAll_o l (by omega)]
  simp only [DT.run_br, DT.run_leaf, xdec, decide_true, cond_true, Bool.and_self, beq_self_eq_true]
theorem sorts_of {n : Nat} (h : ∀ l : List (Ty .mat), l.length ≤ n → S.zuks l (l.length : Nat) = some ⟨stab l⟩) : Sorts n := fun l hl => by
 unfold S.zm5a S.zm5a_R S.zuks_is S.zuks_o
 dsimp only
 rw [h l hl]
 simp only [DT.run_br, DT.run_leaf, xdec, decide_true, cond_true, Bool.and_self, Option.isSome_some, Option.getD_some]
theorem sorts20 : Sorts 20 := sorts_of q_stable20
def kL (H : HH) (q : Query) (l : List Evt) (o : Int) (k : Nat) : List Mat := ((List.range k).filterMap (oneL H q l)).filter (keptB o)
theorem kL_none {H : HH} {q : Query} {l : List Evt} {o : Int} {k : Nat} (h : oneL H q l k = none) : kL H q l o (k + 1) = kL H q l o k := by
 unfold kL; rw [List.range_succ, List.filterMap_append]; simp [h]
theorem kL_some {H : HH} {q : Query} {l : List Evt} {o : Int} {k : Nat} {m : Mat} (h : oneL H q l k = some m) : kL H q l o (k + 1) = if keptB o m = true then kL H q l o k ++ [m] else kL H q l o k := by
 unfold kL; rw [List.range_succ, List.filterMap_append, List.filter_append]
 by_cases c : keptB o m = true
 ·simp [h, c]
 ·simp [h, c]
theorem kL_len (H : HH) (q : Query) (l : List Evt) (o : Int) (k : Nat) : (kL H q l o k).length ≤ k := by
 unfold kL
 have h1 := List.length_filter_le (keptB o) ((List.range k).filterMap (oneL H q l))
 have h2 := List.length_filterMap_le (oneL H q l) (List.range k)
 rw [List.length_range] at h2
 omega
theorem all_loop (q : Query) (l : List (Ty .evt)) (o : Int) (hl : q.steps.length ≤ 1048576) (hb : l.length ≤ 1000) : ∀ (n k : Nat) (f : Bool), k + n = l.length →
    ∃ f', Lp (S.zbgf_1_r l q.steps q.within q.agg q.aggStep q.aggF l.length o) ⟨(k : Int), f, (kL HB q l o k).length, kL HB q l o k⟩ = some (2, ⟨(l.length : Nat), f', (kL HB q l o l.length).length, kL HB q l o l.length⟩)
 | 0, k, f, hk => by
  have e : k = l.length := by omega
  subst e
  refine ⟨f, Lp_exit ?_⟩
  unfold S.zbgf_1_r S.zbgf_1_R
  dsimp only
  have z : ¬ ((l.length : Int) < (l.length : Int)) := by omega
  simp only [DT.run_br, DT.run_leaf, xdec, z, decide_false, cond_false]
 | n + 1, k, f, hk => by
  have hk' : k < l.length := by omega
  have z : ((k : Int) < (l.length : Int)) := by omega
  have g1 := q_One_is q l k hl hb hk'
  have g2 := q_One_o q l k hl hb hk'
  have hlen := kL_len HB q l o k
  have hround : ∃ f1, S.zbgf_1_r l q.steps q.within q.agg q.aggStep q.aggF l.length o ⟨(k : Int), f, (kL HB q l o k).length, kL HB q l o k⟩ = some (none, ⟨((k + 1 : Nat) : Int), f1, (kL HB q l o (k + 1)).length, kL HB q l o (k + 1)⟩) := by
   unfold S.zbgf_1_r S.zbgf_1_R
   dsimp only
   rw [g1, g2]
   simp only [xwrap, e_wrap1 (show k ≤ 1048576 by omega), List.take_length]
   cases ho : oneL HB q l k with
   | none =>
    rw [kL_none ho]
    refine ⟨f, ?_⟩
    dsimp only [outOne]
    simp only [DT.run_br, DT.run_leaf, xdec, z, decide_true, cond_true, cond_false]
   | some m =>
    rw [kL_some ho]
    dsimp only [outOne]
    have y3 : (kL HB q l o k).length + 1 ≤ 1048576 := by omega
    by_cases c : keptB o m = true
    ·rw [if_pos c]
     refine ⟨false, ?_⟩
     have ec : (kL HB q l o k ++ [m]).length = (kL HB q l o k).length + 1 := by simp
     rw [ec]
     simp only [DT.run_br, DT.run_leaf, DT.run_fail, xdec, xnot, z, y3, decide_true, cond_true, cond_false, Bool.and_self, List.replicate, List.set, List.length_cons, List.length_nil, Nat.le_refl, Bool.not_true]
     by_cases c1 : o < 0
     ·simp only [c1, decide_true, cond_true]
     ·have c2 : m.fin ≤ o := by simpa [keptB, c1] using c
      simp only [c1, c2, decide_true, decide_false, cond_true, cond_false]
    ·rw [if_neg c]
     refine ⟨f, ?_⟩
     have c0 : ¬ o < 0 ∧ ¬ m.fin ≤ o := by simpa [keptB] using c
     simp only [DT.run_br, DT.run_leaf, DT.run_fail, xdec, xnot, z, c0.1, c0.2, decide_true, decide_false, cond_true, cond_false, Bool.not_true]
  obtain ⟨f1, hr⟩ := hround
  obtain ⟨f', h⟩ := all_loop q l o hl hb n (k + 1) f1 (by omega)
  exact ⟨f', by rw [Lp_cont hr]; exact h⟩
theorem q_All {N : Nat} (hs : Sorts N) (n0 : Option Bool) (f0 : Bool) (q : Query) (n1 : Option Bool) (f1 : Bool) (l : List (Ty .evt)) (most : Int) (hl : q.steps.length ≤ 1048576) (hN : l.length ≤ N) (hb : l.length ≤ 1000) :
    ∃ f, S.zbgf n0 f0 q.steps q.within q.agg q.aggStep q.aggF n1 f1 l most = some ⟨allL HB q l most, f, (allL HB q l most).length⟩ := by
 obtain ⟨f', h⟩ := all_loop q l (overL HB q l most) hl hb l.length 0 true (by omega)
 have hk := kL_len HB q l (overL HB q l most) l.length
 have h0 : kL HB q l (overL HB q l most) 0 = [] := rfl
 rw [h0] at h
 have hS := hs (kL HB q l (overL HB q l most) l.length) (by omega)
 have hA : stab (kL HB q l (overL HB q l most) l.length) = allL HB q l most := rfl
 have hL : (allL HB q l most).length = (kL HB q l (overL HB q l most) l.length).length := by rw [← hA, stab_len]
 rw [hA] at hS
 refine ⟨f', ?_⟩
 have hm : S.zpzf_o n0 f0 q.steps q.within q.agg q.aggStep q.aggF n1 f1 l = ⟨n1, f1, l, n0, f0, q.steps, q.within, q.agg, q.aggStep, q.aggF⟩ := rfl
 have hS1 : S.zm5a_is (kL HB q l (overL HB q l most) l.length) = true := by simp [S.zm5a_is, hS]
 have hS2 : S.zm5a_o (kL HB q l (overL HB q l most) l.length) = ⟨allL HB q l most⟩ := by simp [S.zm5a_o, hS]
 unfold S.zbgf S.zbgf_R
 dsimp only
 rw [hm, q_Over_is q l most hl hb, q_Over_o q l most hl hb]
 dsimp only
 unfold S.zbgf_1_j S.zbgf_1_v
 rw [show ((0 : Nat) : Int) = (0 : Int) from rfl] at h
 rw [show ([] : List Mat).length = 0 from rfl] at h
 rw [Lp_j_of h, Lp_j_of h, Lp_j_of h, Lp_v_of h]
 dsimp only
 rw [hS1, hS2, hL]
 simp only [DT.run_br, DT.run_leaf, xdec, decide_true, cond_true, cond_false, Bool.and_self]
 rfl
theorem q_All_is {N : Nat} (hs : Sorts N) (n0 : Option Bool) (f0 : Bool) (q : Query) (n1 : Option Bool) (f1 : Bool) (l : List (Ty .evt)) (most : Int) (hl : q.steps.length ≤ 1048576) (hN : l.length ≤ N) (hb : l.length ≤ 1000) :
    S.zbgf_is n0 f0 q.steps q.within q.agg q.aggStep q.aggF n1 f1 l most = true := by
 obtain ⟨f, h⟩ := q_All hs n0 f0 q n1 f1 l most hl hN hb
 simp [S.zbgf_is, h]
theorem q_All_o {N : Nat} (hs : Sorts N) (n0 : Option Bool) (f0 : Bool) (q : Query) (n1 : Option Bool) (f1 : Bool) (l : List (Ty .evt)) (most : Int) (hl : q.steps.length ≤ 1048576) (hN : l.length ≤ N) (hb : l.length ≤ 1000) :
    ∃ f, S.zbgf_o n0 f0 q.steps q.within q.agg q.aggStep q.aggF n1 f1 l most = ⟨allL HB q l most, f, (allL HB q l most).length⟩ := by
 obtain ⟨f, h⟩ := q_All hs n0 f0 q n1 f1 l most hl hN hb
 exact ⟨f, by simp [S.zbgf_o, h]⟩
def aab : List Evt := [⟨bA, 0, []⟩, ⟨bA, 0, []⟩, ⟨bB, 0, []⟩]
theorem from_a0 : fromL HB (qTwo 5) aab 0 = ([rA 0, rA 0], ⟨0, 0, 1, 1, 1, 1, false⟩, 2) := by
 have hb := begin_two HB_Plain 5 0 0
 have hn : nextL HB (qTwo 5) (rA 0) ⟨bA, 0, []⟩ = (rA 0, 0) := next_two_a HB_Plain (by decide) (by decide)
 have hn2 : nextL HB (qTwo 5) (rA 0) ⟨bB, 0, []⟩ = (⟨0, 0, 1, 1, 1, 1, false⟩, 2) := next_two_b HB_Plain (by decide) (by show (decide ((5 : Int) < 0) || decide (u64 (u64 0 - u64 0) > u64 5)) = false; decide)
 show stepsL HB (qTwo 5) [⟨bA, 0, []⟩, ⟨bB, 0, []⟩] (beginL HB (qTwo 5) ⟨bA, 0, []⟩ 0).1 (beginL HB (qTwo 5) ⟨bA, 0, []⟩ 0).2 = _
 rw [hb]
 show stepsL HB (qTwo 5) [⟨bA, 0, []⟩, ⟨bB, 0, []⟩] (rA 0) 0 = _
 simp [stepsL, hn, hn2]
theorem from_a1 : fromL HB (qTwo 5) aab 1 = ([rA 1], ⟨1, 0, 1, 1, 1, 1, false⟩, 2) := by
 have hb := begin_two HB_Plain 5 0 1
 have hn2 : nextL HB (qTwo 5) (rA 1) ⟨bB, 0, []⟩ = (⟨1, 0, 1, 1, 1, 1, false⟩, 2) := next_two_b HB_Plain (by decide) (by show (decide ((5 : Int) < 0) || decide (u64 (u64 0 - u64 0) > u64 5)) = false; decide)
 show stepsL HB (qTwo 5) [⟨bB, 0, []⟩] (beginL HB (qTwo 5) ⟨bA, 0, []⟩ 1).1 (beginL HB (qTwo 5) ⟨bA, 0, []⟩ 1).2 = _
 rw [hb]
 show stepsL HB (qTwo 5) [⟨bB, 0, []⟩] (rA 1) 0 = _
 simp [stepsL, hn2]
theorem from_a2 : ∃ r, fromL HB (qTwo 5) aab 2 = ([], r, 1) := by
 have hb := begin_two_b HB_Plain 5 0 2
 refine ⟨(beginL HB (qTwo 5) ⟨bB, 0, []⟩ 2).1, ?_⟩
 show stepsL HB (qTwo 5) [] (beginL HB (qTwo 5) ⟨bB, 0, []⟩ 2).1 (beginL HB (qTwo 5) ⟨bB, 0, []⟩ 2).2 = _
 rw [show (beginL HB (qTwo 5) ⟨bB, 0, []⟩ 2).2 = 1 from by rw [hb]]
 simp [stepsL]
theorem nRun_a : nRun HB (qTwo 5) aab 0 = 2 ∧ nRun HB (qTwo 5) aab 1 = 1 ∧ nRun HB (qTwo 5) aab 2 = 0 := by
 obtain ⟨r, h⟩ := from_a2
 unfold nRun
 rw [from_a0, from_a1, h]; exact ⟨rfl, rfl, rfl⟩
theorem ones_a : onesL HB (qTwo 5) aab = [⟨0, 2, 1, false⟩, ⟨1, 2, 1, false⟩] := by
 obtain ⟨r, h⟩ := from_a2
 obtain ⟨n0, n1, n2⟩ := nRun_a
 have o0 : oneL HB (qTwo 5) aab 0 = some ⟨0, 2, 1, false⟩ := by unfold oneL matL; rw [n0, from_a0]; rfl
 have o1 : oneL HB (qTwo 5) aab 1 = some ⟨1, 2, 1, false⟩ := by unfold oneL matL; rw [n1, from_a1]; rfl
 have o2 : oneL HB (qTwo 5) aab 2 = none := by unfold oneL; rw [h]; rfl
 show [0, 1, 2].filterMap (oneL HB (qTwo 5) aab) = _
 simp [o0, o1, o2]
theorem nLive_a (e : Nat) : nLive HB (qTwo 5) aab e = [0, 1, 2].countP (liveB HB (qTwo 5) aab e) := rfl
theorem over_a5 : overL HB (qTwo 5) aab 5 = -1 := by
 refine overL_none (fun j hj => ?_)
 have h1 : nLive HB (qTwo 5) aab j ≤ 3 := by
  rw [nLive_a]; exact List.countP_le_length
 unfold overB
 have : ¬ ((nLive HB (qTwo 5) aab j : Int) > 5) := by omega
 simp [this]
theorem over_a1 : overL HB (qTwo 5) aab 1 = 1 := by
 obtain ⟨n0, n1, n2⟩ := nRun_a
 refine overL_of (e := 1) (by decide) ?_ (fun j hj => ?_)
 ·have : nLive HB (qTwo 5) aab 1 = 2 := by
    rw [nLive_a]; simp [liveB, n0, n1, n2]
  simp [overB, n1, this]
 ·have e : j = 0 := by omega
  subst e
  have : nLive HB (qTwo 5) aab 0 = 1 := by
   rw [nLive_a]; simp [liveB, n0, n1, n2]
  simp [overB, n0, this]
theorem all_a : allL HB (qTwo 5) aab 5 = [⟨0, 2, 1, false⟩, ⟨1, 2, 1, false⟩] := by
 unfold allL
 rw [over_a5, ones_a]; rfl
theorem live_a : liveB HB (qTwo 5) aab 1 0 = true := by
 obtain ⟨n0, n1, n2⟩ := nRun_a
 simp [liveB, n0]
theorem q_awake12 : S.zkyx = some ⟨true⟩ := by
 have hl : (qTwo 5).steps.length ≤ 1048576 := by decide
 have a1 := q_All_is sorts20 none false (qTwo 5) none true aab 5 hl (by decide) (by decide)
 obtain ⟨f, a2⟩ := q_All_o sorts20 none false (qTwo 5) none true aab 5 hl (by decide) (by decide)
 have b1 := q_Over_is (qTwo 5) aab 1 hl (by decide)
 have b2 := q_Over_o (qTwo 5) aab 1 hl (by decide)
 have c1 := q_Live_is (qTwo 5) aab 0 1 hl (by decide) (by decide) (by decide)
 have c2 := q_Live_o (qTwo 5) aab 0 1 hl (by decide) (by decide) (by decide)
 rw [all_a] at a2
 rw [over_a1] at b2
 rw [live_a] at c2
 have hs : sub ([⟨bA, 0, []⟩, ⟨bA, 0, []⟩, ⟨bB, 0, []⟩] : List Evt) 0 (0 + 3) = aab := rfl
 unfold S.zkyx S.zkyx_R
 dsimp only
 rw [q_Two_is, q_Two_o]
 have hs' : sub ([({ name := { data := { toList := [97] : Array UInt8 } : ByteArray }, at_ := 0, v := [] : Evt }), ({ name := { data := { toList := [97] : Array UInt8 } : ByteArray }, at_ := 0, v := [] : Evt }), ({ name := { data := { toList := [98] : Array UInt8 } : ByteArray }, at_ := 0, v := [] : Evt })] : List Evt) 0 (0 + 3) = aab := rfl
 simp only [hs']
 rw [a1, a2, b1, b2]
 have c1' : S.z3dg_is (qTwo 5).steps (qTwo 5).within (qTwo 5).agg (qTwo 5).aggStep (qTwo 5).aggF aab 0 1 = true := c1
 have c2' : (S.z3dg_o (qTwo 5).steps (qTwo 5).within (qTwo 5).agg (qTwo 5).aggStep (qTwo 5).aggF aab 0 1).x0 = true := c2
 rw [c1', c2']
 rfl
theorem q_awake12_is : S.zkyx_is = true := by simp [S.zkyx_is, q_awake12]
theorem q_awake12_o : S.zkyx_o.x0 = true := by simp [S.zkyx_o, q_awake12]
end Go.Eng
