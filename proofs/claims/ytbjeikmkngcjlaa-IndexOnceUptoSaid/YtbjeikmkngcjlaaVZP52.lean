/- The laws of what is asked: one query more; each query twice. -/
import Derived.Test.YtbjeikmkngcjlaaVZP51
import Derived.Test.YtbjeikmkngcjlaaVZLI5
import Derived.Test.YtbjeikmkngcjlaaVZLI7
set_option linter.unusedVariables false
set_option linter.unusedSimpArgs false
namespace Go.Eng
open Go Go.Eng
theorem q_r8same (l : List (Ty .op)) (hb : l.length ≤ maxLen) : S.r8same l l = some ⟨true⟩ := by
 have e : Lp (S.r8same_4_r l l) (⟨0⟩ : S.r8same_4_V) = some (1, ⟨l.length⟩) := by
  refine Lp_walk (fun k => (⟨(k : Int)⟩ : S.r8same_4_V)) l.length 1 (fun i hi => ?_) ?_
  ·have h1 : ((i : Int) < (l.length : Int)) := by omega
   have h2 : (0 : Int) ≤ (i : Int) := by omega
   unfold S.r8same_4_r S.r8same_4_R; dsimp only
   simp [DT.run_br, DT.run_leaf, xdec, xwrap, e_xeqI, h1, h2, hi, ix_wrap hi hb]
  ·unfold S.r8same_4_r S.r8same_4_R; simp [DT.run_br, DT.run_leaf, xdec]
 unfold S.r8same S.r8same_R; dsimp only
 simp [DT.run_br, DT.run_leaf, e_xneI, S.r8same_4_j, Lp_j_of e]
theorem q_Same10 (m : List Pred) (hm : m.length ≤ maxLen) (hs : ∀ p ∈ m, p.ifs.length ≤ maxLen) : S.zhje m m = some ⟨true⟩ := by
 have e : Lp (S.zhje_4_r m m) (⟨0⟩ : S.zhje_4_V) = some (1, ⟨m.length⟩) := by
  refine Lp_walk (fun k => (⟨(k : Int)⟩ : S.zhje_4_V)) m.length 1 (fun i hi => ?_) ?_
  ·have h1 : ((i : Int) < (m.length : Int)) := by omega
   have h2 : (0 : Int) ≤ (i : Int) := by omega
   have k := q_r8same m[i].ifs (hs _ (List.getElem_mem hi))
   unfold S.zhje_4_r S.zhje_4_R; dsimp only
   have e1 : @List.getD (Ty ET.pred) m i (dflt ET.pred) = m[i] := getD_of (α := Pred) m i _ hi
   rw [Int.toNat_natCast, e1]
   simp only [DT.run_br, DT.run_leaf, DT.run_fail, xdec, xwrap, xnot, S.r8same_is, S.r8same_o, k, Option.isSome_some, Option.getD_some, h1, h2, ix_wrap hi hm, decide_true, Bool.and_self, Bool.not_true, cond_true, cond_false]
  ·unfold S.zhje_4_r S.zhje_4_R; simp [DT.run_br, DT.run_leaf, xdec]
 unfold S.zhje S.zhje_R; dsimp only
 simp [DT.run_br, DT.run_leaf, e_xneI, S.zhje_4_j, Lp_j_of e]
theorem foldP_pre : ∀ (ps : List Pred) (m : List Pred), ∃ x, ps.foldl addP m = m ++ x ∧ x.length ≤ ps.length
 | [], m => ⟨[], by simp, Nat.le_refl _⟩
 | p :: ps, m => by
  obtain ⟨x, h1, h2⟩ := foldP_pre ps (addP m p)
  by_cases h : p ∈ m
  ·have e : addP m p = m := by unfold addP; rw [if_pos h]
   rw [e] at h1
   exact ⟨x, by rw [List.foldl_cons, e, h1], by simp only [List.length_cons]; omega⟩
  ·have e : addP m p = m ++ [p] := by unfold addP; rw [if_neg h]
   rw [e] at h1
   exact ⟨p :: x, by rw [List.foldl_cons, e, h1]; simp, by simp only [List.length_cons]; omega⟩
theorem foldP_in : ∀ (ps : List Pred) {m : List Pred}, (∀ p ∈ ps, p ∈ m) → ps.foldl addP m = m
 | [], _, _ => rfl
 | p :: ps, m, h => by
  have e : addP m p = m := by unfold addP; rw [if_pos (h p List.mem_cons_self)]
  rw [List.foldl_cons, e]; exact foldP_in ps (fun x hx => h x (List.mem_cons_of_mem _ hx))
theorem allP_more (l : List Query) (q : Query) : ∃ x, allP (l ++ [q]) = allP l ++ x ∧ x.length ≤ 2 * q.steps.length := by
 obtain ⟨x, h1, h2⟩ := foldP_pre (q.steps.flatMap asks) (allP l)
 refine ⟨x, ?_, Nat.le_trans h2 (asksL_len _)⟩
 rw [← h1]
 unfold allP
 rw [List.flatMap_append, List.foldl_append]
 simp
theorem allP_twice (l : List Query) : allP (l ++ l) = allP l := by
 have h : ∀ p ∈ l.flatMap (fun q => q.steps.flatMap asks), p ∈ allP l := fun p hp => foldP_mem _ |>.mpr (Or.inr hp)
 have := foldP_in _ h
 unfold allP at this ⊢
 rw [List.flatMap_append, List.foldl_append, this]
theorem law_IndexMore (l : List Query) (q : Query) (hl : l.length * 56 ≤ reachBytes) : S.zclm l q.steps q.within q.agg q.aggStep q.aggF = some ⟨true⟩ := by
 have hr : reachBytes = 140737488351232 := rfl
 have e0 : (⟨q.steps, q.within, q.agg, q.aggStep, q.aggF⟩ : Query) = q := rfl
 unfold S.zclm S.zclm_R; dsimp only
 have h1 : l.length * 56 ≤ 140737488355328 := by omega
 have h2 : (l.length + 1) * 56 ≤ 140737488355328 := by omega
 have h3 : sub (List.take l.length l ++ [q]) 0 (0 + (l.length + 1)) = l ++ [q] := by rw [List.take_length, Nat.zero_add, sub1]
 have h4 : l.length + 1 ≤ (List.take l.length l ++ [q]).length := by simp
 rw [e0, h3, q_awake10_is, q_awake10_o, q_few10_is]
 simp only [DT.run_br, DT.run_leaf, DT.run_fail, xdec, xnot, h1, h2, h4, Nat.le_refl, List.length_set, List.length_replicate, Nat.zero_add, decide_true, Bool.and_self, Bool.and_true, Bool.true_and, Bool.not_true, cond_true, cond_false]
 cases hf : (S.zzvx_o (l ++ [q])).x0 with
 | false => rfl
 | true =>
 have hq := q_few10_o _ hf
 have hq0 : fewQ l := ⟨by have := hq.1; simp at this; omega, fun x hx => hq.2 x (List.mem_append_left _ hx)⟩
 have hA := q_All l hq0
 have hB := q_All (l ++ [q]) hq
 obtain ⟨x, g1, g2⟩ := allP_more l q
 have hn := allP_len hq0
 have hn2 := allP_len hq
 have hst := (hq.2 q (by simp)).1
 have hsh := allP_short hq0
 simp only [S.zdrt_is, S.zdrt_o, hA, hB, Option.isSome_some, Option.getD_some, cond_true, Bool.not_true, cond_false]
 have d1 : (allP (l ++ [q])).length = (allP l).length + x.length := by rw [g1, List.length_append]
 have c1 : ¬ (((allP (l ++ [q])).length : Int) < ((allP l).length : Int)) := by omega
 have c2 : ¬ (((allP (l ++ [q])).length : Int) > ((allP l).length : Int) + 2 * (q.steps.length : Int)) := by omega
 have c3 : (0 : Int) ≤ ((allP l).length : Int) := by omega
 have c4 : ((allP l).length : Int) ≤ Int.ofNat (allP (l ++ [q])).length := by show ((allP l).length : Int) ≤ ((allP (l ++ [q])).length : Int); omega
 have w1 : IntKind.i64.wrap (2 * (q.steps.length : Int)) = 2 * (q.steps.length : Int) := e_wrap (by omega) (by omega)
 have w2 : IntKind.i64.wrap (((allP l).length : Int) + 2 * (q.steps.length : Int)) = ((allP l).length : Int) + 2 * (q.steps.length : Int) := e_wrap (by omega) (by omega)
 have t1 : (Int.ofNat (allP l).length).toNat = (allP l).length := rfl
 have s1 : sub (allP l) 0 (allP l).length = allP l := sub0 _
 have s2 : sub (allP (l ++ [q])) 0 (allP l).length = allP l := by rw [g1]; unfold sub; simp
 have c5 : (allP l).length ≤ (allP (l ++ [q])).length := by omega
 have hS := q_Same10 (allP l) (Nat.le_trans hn (by decide)) hsh
 rw [t1]
 simp only [xwrap, w1, w2, c1, c2, c3, c4, c5, s1, s2, S.zhje_is, S.zhje_o, hS, Option.isSome_some, Option.getD_some, Nat.le_refl, decide_true, decide_false, Bool.and_self, cond_true, cond_false]
theorem asksQ_sum : ∀ (l : List Query), (l.flatMap (fun q => q.steps.flatMap asks)).length ≤ 2 * (l.map (fun q => q.steps.length)).sum
 | [] => by simp
 | q :: l => by
  have h1 := asksL_len q.steps
  have h2 := asksQ_sum l
  simp only [List.flatMap_cons, List.length_append, List.map_cons, List.sum_cons]; omega
theorem sum_small : ∀ (l : List Query), (∀ q ∈ l, fewS q.steps) → (l.map (fun q => q.steps.length)).sum ≤ 8 * l.length
 | [], _ => by simp
 | q :: l, h => by
  have h1 := (h q List.mem_cons_self).1
  have h2 := sum_small l (fun x hx => h x (List.mem_cons_of_mem _ hx))
  simp only [List.map_cons, List.sum_cons, List.length_cons]; omega
theorem law_IndexOnce (l : List Query) (hl : l.length ≤ 1048576) : S.z6wn l = some ⟨true⟩ := by
 unfold S.z6wn S.z6wn_R; dsimp only
 have h1 : l.length * 56 ≤ 140737488355328 := by omega
 have h2 : (l.length + l.length) * 56 ≤ 140737488355328 := by omega
 have h3 : sub (List.take l.length l ++ l) 0 (0 + (l.length + l.length)) = l ++ l := by
  rw [List.take_length, Nat.zero_add]
  have := sub0 (l ++ l); rwa [List.length_append] at this
 have h4 : 0 + (l.length + l.length) ≤ (List.take l.length l ++ l).length := by simp
 rw [h3, q_awake10_is, q_awake10_o, q_few10_is]
 simp only [DT.run_br, DT.run_leaf, DT.run_fail, xdec, xnot, h1, h2, h4, Nat.le_refl, decide_true, Bool.and_self, Bool.and_true, Bool.true_and, Bool.not_true, cond_true, cond_false]
 cases hf : (S.zzvx_o (l ++ l)).x0 with
 | false => rfl
 | true =>
 have hq := q_few10_o _ hf
 have hl3 : l.length ≤ 6 := by have := hq.1; simp at this; omega
 have hq0 : fewQ l := ⟨hl3, fun x hx => hq.2 x (List.mem_append_left _ hx)⟩
 have hA := q_All l hq0
 have hB := q_All (l ++ l) hq
 rw [allP_twice] at hB
 have hn := allP_len hq0
 have hsh := allP_short hq0
 have hS := q_Same10 (allP l) (Nat.le_trans hn (by decide)) hsh
 have key := Lp_walk (r := S.z6wn_8_r l) (fun k => (⟨((2 * ((l.take k).map (fun q => q.steps.length)).sum : Nat) : Int), (k : Int)⟩ : S.z6wn_8_V)) l.length 0 (fun i h => by
  have g1 : ((i : Int) < (l.length : Int)) := by omega
  have g2 : (0 : Int) ≤ (i : Int) := by omega
  have f1 := (hq0.2 _ (List.getElem_mem h)).1
  have f2 := sum_small (l.take i) (fun q hq => hq0.2 q (List.mem_of_mem_take hq))
  have f3 : (l.take i).length ≤ i := by rw [List.length_take]; exact Nat.min_le_left _ _
  have e1 : @List.getD (Ty ET.query) l i (dflt ET.query) = l[i] := getD_of (α := Query) l i _ h
  unfold S.z6wn_8_r S.z6wn_8_R; dsimp only
  rw [Int.toNat_natCast, e1]
  have e2 : ((l.take (i + 1)).map (fun q => q.steps.length)).sum = ((l.take i).map (fun q => q.steps.length)).sum + l[i].steps.length := by
   rw [List.take_succ_eq_append_getElem h, List.map_append, List.sum_append]; simp
  rw [e2]
  have w1 : IntKind.i64.wrap (2 * (l[i].steps.length : Int)) = 2 * (l[i].steps.length : Int) := e_wrap (by omega) (by omega)
  have w2 : IntKind.i64.wrap (((2 * ((l.take i).map (fun q => q.steps.length)).sum : Nat) : Int) + 2 * (l[i].steps.length : Int)) = ((2 * (((l.take i).map (fun q => q.steps.length)).sum + l[i].steps.length) : Nat) : Int) := by
   rw [e_wrap (by omega) (by omega)]; omega
  simp only [DT.run_br, DT.run_leaf, DT.run_fail, xdec, xwrap, g1, g2, w1, w2, ix_wrap h (Nat.le_trans hl3 (by decide)), decide_true, Bool.and_self, cond_true]) (by
  unfold S.z6wn_8_r S.z6wn_8_R; simp [DT.run_br, DT.run_leaf, xdec])
 have e0 : (⟨((2 * ((l.take 0).map (fun q => q.steps.length)).sum : Nat) : Int), ((0 : Nat) : Int)⟩ : S.z6wn_8_V) = ⟨0, 0⟩ := rfl
 rw [e0, List.take_of_length_le (Nat.le_refl _)] at key
 simp only [S.zdrt_is, S.zdrt_o, hA, hB, Option.isSome_some, Option.getD_some, cond_true, Bool.not_true, cond_false, S.z6wn_8_j, S.z6wn_8_v, sub_all, S.zhje_is, S.zhje_o, hS, Nat.zero_add, Nat.le_refl, decide_true, Bool.and_self]
 rw [Lp_j_of key, Lp_v_of key]
 have hs : (((allP l).length : Int) ≤ ((2 * (l.map (fun q => q.steps.length)).sum : Nat) : Int)) := by
  have a1 := foldP_len (l.flatMap (fun q => q.steps.flatMap asks)) ([] : List Pred)
  have a2 := asksQ_sum l
  simp only [List.length_nil, Nat.zero_add] at a1
  have a3 : (allP l).length ≤ 2 * (l.map (fun q => q.steps.length)).sum := Nat.le_trans a1 a2
  exact Int.ofNat_le.mpr a3
 simp only [hs, decide_true]
 rw [sub0, hS]
 rfl
end Go.Eng
