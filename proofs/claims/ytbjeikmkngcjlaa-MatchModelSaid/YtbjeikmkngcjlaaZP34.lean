/- Merges: the loops. -/
import Derived.Test.YtbjeikmkngcjlaaZP33
set_option linter.unusedVariables false
set_option linter.unusedSimpArgs false
namespace Go.Eng
open Go Go.Eng
theorem srt_take {y : List Mat} (h : srt y) {n : Nat} (hn : n ≤ y.length) {q : Mat} (hq : q ∈ y.take n) (d : Mat) : 0 < n ∧ q.fin ≤ (y.getD (n - 1) d).fin := by
 obtain ⟨i, hi, rfl⟩ := List.getElem_of_mem hq
 have hi' : i < n := by rw [List.length_take] at hi; omega
 refine ⟨by omega, ?_⟩
 rw [getD_of y (n - 1) d (by omega), List.getElem_take]
 by_cases c : i = n - 1
 ·subst c; exact Int.le_refl _
 ·exact List.pairwise_iff_getElem.1 h i (n - 1) (by omega) (by omega) (by omega)
theorem srt_drop {y : List Mat} (h : srt y) {n : Nat} {q : Mat} (hq : q ∈ y.drop n) (d : Mat) : n < y.length ∧ (y.getD n d).fin ≤ q.fin := by
 obtain ⟨i, hi, rfl⟩ := List.getElem_of_mem hq
 have hi' : n + i < y.length := by rw [List.length_drop] at hi; omega
 refine ⟨by omega, ?_⟩
 rw [getD_of y n d (by omega), List.getElem_drop]
 by_cases c : i = 0
 ·subst c; exact Int.le_refl _
 ·exact List.pairwise_iff_getElem.1 h n (n + i) (by omega) (by omega) (by omega)
theorem getD_block {α : Type} (P y z : List α) (d : α) {k : Nat} (hk : k < y.length) : (P ++ y ++ z).getD (P.length + k) d = y.getD k d := by
 rw [List.append_assoc, List.getD_eq_getElem?_getD, List.getElem?_append_right (by omega), List.getD_eq_getElem?_getD]
 rw [show P.length + k - P.length = k by omega, List.getElem?_append_left hk]
section
variable (d : List Mat) (hb : d.length ≤ 1000)
include hb
theorem sm3 (a : Nat) (ha : a < d.length) (i j : Nat) (hij : i ≤ j) (hj : j ≤ d.length) : ∃ s : Nat, Lp (S.zxyf_3_r d.length (a : Nat) d) ⟨(i : Nat), (j : Nat)⟩ = some (0, ⟨(s : Nat), (s : Nat)⟩) ∧ i ≤ s ∧ s ≤ j ∧
    (i < s → (d.getD (s - 1) (dflt ET.mat)).fin < (d.getD a (dflt ET.mat)).fin) ∧ (s < j → ¬ (d.getD s (dflt ET.mat)).fin < (d.getD a (dflt ET.mat)).fin) := by
 have h1 : ∀ i j : Nat, 0 ≤ i → i < j → j ≤ d.length → S.zxyf_3_r d.length (a : Nat) d (⟨(i : Int), (j : Int)⟩ : S.zxyf_3_V) = some (none, if (decide ((d.getD ((i + j) / 2) (dflt ET.mat)).fin < (d.getD a (dflt ET.mat)).fin)) = true then (⟨(((i + j) / 2 + 1 : Nat) : Int), (j : Int)⟩ : S.zxyf_3_V) else ⟨(i : Int), (((i + j) / 2 : Nat) : Int)⟩) := by
  intro i j h0 h1 h2
  have hw := e_half i j (by omega)
  have z1 : ((i : Int) < (j : Int)) := by omega
  have z2 : (0 : Int) ≤ (((i + j) / 2 : Nat) : Int) := by omega
  have z3 : (((i + j) / 2 : Nat) : Int) < (d.length : Int) := by omega
  have z4 : (i + j) / 2 < d.length := by omega
  have z5 : (0 : Int) ≤ ((a : Nat) : Int) := by omega
  have z6 : ((a : Nat) : Int) < (d.length : Int) := by omega
  obtain ⟨c1, c2⟩ := q_endCmp (d.getD ((i + j) / 2) (dflt ET.mat)).fin (d.getD a (dflt ET.mat)).fin
  unfold S.zxyf_3_r S.zxyf_3_R
  dsimp only
  simp only [xwrap, hw, Int.toNat_natCast, Nat.zero_add, e_wrap1 (show (i + j) / 2 ≤ 1048576 by omega)]
  rw [c1]
  simp only [DT.run_br, DT.run_leaf, DT.run_fail, xdec, z1, z2, z3, z4, z5, z6, ha, c2, decide_true, cond_true, Bool.and_self]
  by_cases c : (d.getD ((i + j) / 2) (dflt ET.mat)).fin < (d.getD a (dflt ET.mat)).fin
  ·simp only [c, decide_true, cond_true, if_true]
  ·simp only [c, decide_false, cond_false, Bool.false_eq_true, if_false]
 have h2 : ∀ i : Nat, S.zxyf_3_r d.length (a : Nat) d (⟨(i : Int), (i : Int)⟩ : S.zxyf_3_V) = some (some 0, (⟨(i : Int), (i : Int)⟩ : S.zxyf_3_V)) := by
  intro i
  have z1 : ¬ ((i : Int) < (i : Int)) := by omega
  unfold S.zxyf_3_r S.zxyf_3_R
  simp only [DT.run_br, DT.run_leaf, xdec, z1, decide_false, cond_false]
 obtain ⟨s, s1, s2, s3, s4, s5⟩ := bsearch (r := S.zxyf_3_r d.length (a : Nat) d) (fun i j => (⟨(i : Int), (j : Int)⟩ : S.zxyf_3_V)) (fun k => decide ((d.getD k (dflt ET.mat)).fin < (d.getD a (dflt ET.mat)).fin)) 0 d.length (fun i j h0 => h1 i j h0) h2 (j - i) i j (Nat.le_refl _) (Nat.zero_le _) hij hj
 exact ⟨s, s1, s2, s3, fun h => by simpa using s4 h, fun h => by simpa using s5 h⟩
theorem sm15 (m : Nat) (hm : m < d.length) (i j : Nat) (hij : i ≤ j) (hj : j ≤ d.length) : ∃ s : Nat, Lp (S.zxyf_15_r d.length (m : Nat) d) ⟨(i : Nat), (j : Nat)⟩ = some (0, ⟨(s : Nat), (s : Nat)⟩) ∧ i ≤ s ∧ s ≤ j ∧
    (i < s → (d.getD (s - 1) (dflt ET.mat)).fin ≤ (d.getD m (dflt ET.mat)).fin) ∧ (s < j → (d.getD m (dflt ET.mat)).fin < (d.getD s (dflt ET.mat)).fin) := by
 have h1 : ∀ i j : Nat, 0 ≤ i → i < j → j ≤ d.length → S.zxyf_15_r d.length (m : Nat) d (⟨(i : Int), (j : Int)⟩ : S.zxyf_15_V) = some (none, if (!decide ((d.getD m (dflt ET.mat)).fin < (d.getD ((i + j) / 2) (dflt ET.mat)).fin)) = true then (⟨(((i + j) / 2 + 1 : Nat) : Int), (j : Int)⟩ : S.zxyf_15_V) else ⟨(i : Int), (((i + j) / 2 : Nat) : Int)⟩) := by
  intro i j h0 h1 h2
  have hw := e_half i j (by omega)
  have z1 : ((i : Int) < (j : Int)) := by omega
  have z2 : (0 : Int) ≤ (((i + j) / 2 : Nat) : Int) := by omega
  have z3 : (((i + j) / 2 : Nat) : Int) < (d.length : Int) := by omega
  have z4 : (i + j) / 2 < d.length := by omega
  have z5 : (0 : Int) ≤ ((m : Nat) : Int) := by omega
  have z6 : ((m : Nat) : Int) < (d.length : Int) := by omega
  obtain ⟨c1, c2⟩ := q_endCmp (d.getD m (dflt ET.mat)).fin (d.getD ((i + j) / 2) (dflt ET.mat)).fin
  unfold S.zxyf_15_r S.zxyf_15_R
  dsimp only
  simp only [xwrap, hw, Int.toNat_natCast, Nat.zero_add, e_wrap1 (show (i + j) / 2 ≤ 1048576 by omega)]
  rw [c1]
  simp only [DT.run_br, DT.run_leaf, DT.run_fail, xdec, xnot, z1, z2, z3, z4, z5, z6, hm, c2, decide_true, cond_true, Bool.and_self]
  by_cases c : (d.getD m (dflt ET.mat)).fin < (d.getD ((i + j) / 2) (dflt ET.mat)).fin
  ·simp only [c, decide_true, Bool.not_true, cond_false, Bool.false_eq_true, if_false]
  ·simp only [c, decide_false, Bool.not_false, cond_true, if_true]
 have h2 : ∀ i : Nat, S.zxyf_15_r d.length (m : Nat) d (⟨(i : Int), (i : Int)⟩ : S.zxyf_15_V) = some (some 0, (⟨(i : Int), (i : Int)⟩ : S.zxyf_15_V)) := by
  intro i
  have z1 : ¬ ((i : Int) < (i : Int)) := by omega
  unfold S.zxyf_15_r S.zxyf_15_R
  simp only [DT.run_br, DT.run_leaf, xdec, z1, decide_false, cond_false]
 obtain ⟨s, s1, s2, s3, s4, s5⟩ := bsearch (r := S.zxyf_15_r d.length (m : Nat) d) (fun i j => (⟨(i : Int), (j : Int)⟩ : S.zxyf_15_V)) (fun k => !decide ((d.getD m (dflt ET.mat)).fin < (d.getD k (dflt ET.mat)).fin)) 0 d.length (fun i j h0 => h1 i j h0) h2 (j - i) i j (Nat.le_refl _) (Nat.zero_le _) hij hj
 exact ⟨s, s1, s2, s3, fun h => by simpa using s4 h, fun h => by simpa using s5 h⟩
theorem sm33 (P lo hi : Nat) (hP : P ≤ 3000) (hlo : P < lo + d.length) (hhi : hi ≤ P + 1) (hd : hi ≤ d.length) (i j : Nat) (hi' : lo ≤ i) (hij : i ≤ j) (hj : j ≤ hi) : ∃ s : Nat, Lp (S.zxyf_33_r d.length (P : Nat) d) ⟨(i : Nat), (j : Nat)⟩ = some (0, ⟨(s : Nat), (s : Nat)⟩) ∧ i ≤ s ∧ s ≤ j ∧
    (i < s → (d.getD (s - 1) (dflt ET.mat)).fin ≤ (d.getD (P - (s - 1)) (dflt ET.mat)).fin) ∧ (s < j → (d.getD (P - s) (dflt ET.mat)).fin < (d.getD s (dflt ET.mat)).fin) := by
 have h1 : ∀ i j : Nat, lo ≤ i → i < j → j ≤ hi → S.zxyf_33_r d.length (P : Nat) d (⟨(i : Int), (j : Int)⟩ : S.zxyf_33_V) = some (none, if (!decide ((d.getD (P - ((i + j) / 2)) (dflt ET.mat)).fin < (d.getD ((i + j) / 2) (dflt ET.mat)).fin)) = true then (⟨(((i + j) / 2 + 1 : Nat) : Int), (j : Int)⟩ : S.zxyf_33_V) else ⟨(i : Int), (((i + j) / 2 : Nat) : Int)⟩) := by
  intro i j h0 h1 h2
  have hw := e_half i j (by omega)
  have hw2 : IntKind.i64.wrap ((P : Int) - (((i + j) / 2 : Nat) : Int)) = ((P - (i + j) / 2 : Nat) : Int) := by rw [e_wrap (by omega) (by omega)]; omega
  have z1 : ((i : Int) < (j : Int)) := by omega
  have z2 : (0 : Int) ≤ (((i + j) / 2 : Nat) : Int) := by omega
  have z3 : (((i + j) / 2 : Nat) : Int) < (d.length : Int) := by omega
  have z4 : (i + j) / 2 < d.length := by omega
  have z5 : (0 : Int) ≤ ((P - (i + j) / 2 : Nat) : Int) := by omega
  have z6 : ((P - (i + j) / 2 : Nat) : Int) < (d.length : Int) := by omega
  have z7 : P - (i + j) / 2 < d.length := by omega
  obtain ⟨c1, c2⟩ := q_endCmp (d.getD (P - (i + j) / 2) (dflt ET.mat)).fin (d.getD ((i + j) / 2) (dflt ET.mat)).fin
  unfold S.zxyf_33_r S.zxyf_33_R
  dsimp only
  simp only [xwrap, hw, hw2, Int.toNat_natCast, Nat.zero_add, e_wrap1 (show (i + j) / 2 ≤ 1048576 by omega)]
  rw [c1]
  simp only [DT.run_br, DT.run_leaf, DT.run_fail, xdec, xnot, z1, z2, z3, z4, z5, z6, z7, c2, decide_true, cond_true, Bool.and_self]
  by_cases c : (d.getD (P - (i + j) / 2) (dflt ET.mat)).fin < (d.getD ((i + j) / 2) (dflt ET.mat)).fin
  ·simp only [c, decide_true, Bool.not_true, cond_false, Bool.false_eq_true, if_false]
  ·simp only [c, decide_false, Bool.not_false, cond_true, if_true]
 have h2 : ∀ i : Nat, S.zxyf_33_r d.length (P : Nat) d (⟨(i : Int), (i : Int)⟩ : S.zxyf_33_V) = some (some 0, (⟨(i : Int), (i : Int)⟩ : S.zxyf_33_V)) := by
  intro i
  have z1 : ¬ ((i : Int) < (i : Int)) := by omega
  unfold S.zxyf_33_r S.zxyf_33_R
  simp only [DT.run_br, DT.run_leaf, xdec, z1, decide_false, cond_false]
 obtain ⟨s, s1, s2, s3, s4, s5⟩ := bsearch (r := S.zxyf_33_r d.length (P : Nat) d) (fun i j => (⟨(i : Int), (j : Int)⟩ : S.zxyf_33_V)) (fun k => !decide ((d.getD (P - k) (dflt ET.mat)).fin < (d.getD k (dflt ET.mat)).fin)) lo hi (fun i j h0 => h1 i j h0) h2 (j - i) i j (Nat.le_refl _) hi' hij hj
 exact ⟨s, s1, s2, s3, fun h => by simpa using s4 h, fun h => by simpa using s5 h⟩
end
theorem sm9 (p : List Mat) (x : Mat) (y z : List Mat) (N : Nat) (hN : p.length + 1 + y.length + z.length = N) (hb : N ≤ 1000) :
    Lp (S.zxyf_9_r N ((p.length + 1 + y.length : Nat) : Int)) ⟨(p.length : Nat), p ++ x :: (y ++ z)⟩ = some (0, ⟨((p.length + y.length : Nat) : Int), p ++ (y ++ x :: z)⟩) := by
 have ws : IntKind.i64.wrap (((p.length + 1 + y.length : Nat) : Int) - 1) = ((p.length + y.length : Nat) : Int) := by rw [e_wrap (by omega) (by omega)]; omega
 have hw := Lp_walk (r := S.zxyf_9_r N ((p.length + 1 + y.length : Nat) : Int)) (fun k => (⟨((p.length + k : Nat) : Int), p ++ (y.take k ++ x :: (y.drop k ++ z))⟩ : S.zxyf_9_V)) y.length 0 (fun k hk => ?_) ?_
 ·have e0 : p ++ (y.take 0 ++ x :: (y.drop 0 ++ z)) = p ++ x :: (y ++ z) := by simp
  have e1 : p ++ (y.take y.length ++ x :: (y.drop y.length ++ z)) = p ++ (y ++ x :: z) := by simp
  rw [e0, e1] at hw
  exact hw
 ·have av : y.drop k = y[k] :: y.drop (k + 1) := List.drop_eq_getElem_cons hk
  have tv : y.take (k + 1) = y.take k ++ [y[k]] := by rw [List.take_succ_eq_append_getElem hk]
  have d0 : p ++ (y.take k ++ x :: (y.drop k ++ z)) = (p ++ y.take k) ++ x :: ([] ++ y[k] :: (y.drop (k + 1) ++ z)) := by rw [av]; simp only [List.append_assoc, List.cons_append, List.nil_append]
  have d1 : p ++ (y.take (k + 1) ++ x :: (y.drop (k + 1) ++ z)) = (p ++ y.take k) ++ y[k] :: ([] ++ x :: (y.drop (k + 1) ++ z)) := by rw [tv]; simp only [List.append_assoc, List.cons_append, List.nil_append]
  have l1 : (p ++ y.take k).length = p.length + k := by simp; omega
  rw [d0, d1]
  have lZ : (y.drop (k + 1) ++ z).length = y.length - (k + 1) + z.length := by simp
  generalize p ++ y.take k = P at *
  generalize y.drop (k + 1) ++ z = Z at *
  generalize y[k] = w
  have wa : IntKind.i64.wrap (((p.length + k : Nat) : Int) + 1) = ((P.length + 1 + ([] : List Mat).length : Nat) : Int) := by rw [e_wrap (by omega) (by omega)]; simp; omega
  have ea : p.length + k = P.length := by omega
  have z1 : ((P.length : Nat) : Int) < ((p.length + y.length : Nat) : Int) := by omega
  have z2 : (0 : Int) ≤ ((P.length : Nat) : Int) := by omega
  have z3 : (0 : Int) ≤ ((P.length + 1 + ([] : List Mat).length : Nat) : Int) := by omega
  have z4 : ((P.length : Nat) : Int) < (N : Int) := by omega
  have z5 : ((P.length + 1 + ([] : List Mat).length : Nat) : Int) < (N : Int) := by simp; omega
  have hL : (P ++ x :: ([] ++ w :: Z)).length = P.length + 1 + 1 + Z.length := by simp; omega
  have z6 : P.length < (P ++ x :: ([] ++ w :: Z)).length := by omega
  have z7 : P.length + 1 + ([] : List Mat).length < (P ++ x :: ([] ++ w :: Z)).length := by rw [hL]; simp; omega
  have z8 : P.length + 1 + ([] : List Mat).length < ((P ++ x :: ([] ++ w :: Z)).set P.length ({ start := w.start, fin := w.fin, agg := w.agg, bad := w.bad } : Mat)).length := by rw [List.length_set]; exact z7
  have g1 := swp_get1 P [] Z x w (dflt ET.mat)
  have g2 := swp_get2 P [] Z x w (dflt ET.mat)
  have s1 : ((P ++ x :: ([] ++ w :: Z)).set P.length ({ start := w.start, fin := w.fin, agg := w.agg, bad := w.bad } : Mat)).set (P.length + 1 + ([] : List Mat).length) ({ start := x.start, fin := x.fin, agg := x.agg, bad := x.bad } : Mat) = P ++ w :: ([] ++ x :: Z) := swp_set1 P [] Z x w
  unfold S.zxyf_9_r S.zxyf_9_R
  dsimp only
  simp only [xwrap, ws, wa]
  simp only [ea, Int.toNat_natCast, Nat.zero_add]
  rw [g1, g2]
  simp only [DT.run_br, DT.run_leaf, DT.run_fail, xdec, z1, z2, z3, z4, z5, z6, z7, z8, decide_true, cond_true, Bool.and_self]
  rw [s1]
  have : p.length + (k + 1) = P.length + 1 + ([] : List Mat).length := by simp; omega
  rw [this]
 ·have z1 : ¬ (((p.length + y.length : Nat) : Int) < ((p.length + y.length : Nat) : Int)) := by omega
  unfold S.zxyf_9_r S.zxyf_9_R
  dsimp only
  simp only [xwrap, ws]
  simp only [DT.run_br, DT.run_leaf, xdec, z1, decide_false, cond_false]
theorem sm21 (p : List Mat) (x : Mat) (y z : List Mat) (N : Nat) (hN : p.length + 1 + y.length + z.length = N) (hb : N ≤ 1000) :
    Lp (S.zxyf_21_r N (p.length : Nat)) ⟨((p.length + y.length : Nat) : Int), p ++ (y ++ x :: z)⟩ = some (0, ⟨(p.length : Nat), p ++ x :: (y ++ z)⟩) := by
 have hw := Lp_walk (r := S.zxyf_21_r N (p.length : Nat)) (fun k => (⟨((p.length + (y.length - k) : Nat) : Int), p ++ (y.take (y.length - k) ++ x :: (y.drop (y.length - k) ++ z))⟩ : S.zxyf_21_V)) y.length 0 (fun k hk => ?_) ?_
 ·have e0 : p ++ (y.take (y.length - 0) ++ x :: (y.drop (y.length - 0) ++ z)) = p ++ (y ++ x :: z) := by simp
  have e1 : p ++ (y.take (y.length - y.length) ++ x :: (y.drop (y.length - y.length) ++ z)) = p ++ x :: (y ++ z) := by simp
  have e2 : p.length + (y.length - y.length) = p.length := by omega
  rw [e0, e1, e2] at hw
  exact hw
 ·obtain ⟨t, ht⟩ : ∃ t, y.length - k = t + 1 := ⟨y.length - k - 1, by omega⟩
  have ht2 : y.length - (k + 1) = t := by omega
  have htl : t < y.length := by omega
  rw [ht, ht2]
  have av : y.drop t = y[t] :: y.drop (t + 1) := List.drop_eq_getElem_cons htl
  have tv : y.take (t + 1) = y.take t ++ [y[t]] := by rw [List.take_succ_eq_append_getElem htl]
  have d0 : p ++ (y.take (t + 1) ++ x :: (y.drop (t + 1) ++ z)) = (p ++ y.take t) ++ y[t] :: ([] ++ x :: (y.drop (t + 1) ++ z)) := by rw [tv]; simp only [List.append_assoc, List.cons_append, List.nil_append]
  have d1 : p ++ (y.take t ++ x :: (y.drop t ++ z)) = (p ++ y.take t) ++ x :: ([] ++ y[t] :: (y.drop (t + 1) ++ z)) := by rw [av]; simp only [List.append_assoc, List.cons_append, List.nil_append]
  have l1 : (p ++ y.take t).length = p.length + t := by simp; omega
  rw [d0, d1]
  have lZ : (y.drop (t + 1) ++ z).length = y.length - (t + 1) + z.length := by simp
  generalize p ++ y.take t = P at *
  generalize y.drop (t + 1) ++ z = Z at *
  generalize y[t] = w
  have ea : p.length + (t + 1) = P.length + 1 + ([] : List Mat).length := by simp; omega
  have eb : p.length + t = P.length := by omega
  rw [ea, eb]
  have wa : IntKind.i64.wrap (((P.length + 1 + ([] : List Mat).length : Nat) : Int) - 1) = ((P.length : Nat) : Int) := by rw [e_wrap (by simp <;> omega) (by simp <;> omega)]; simp <;> omega
  have z1 : ((P.length + 1 + ([] : List Mat).length : Nat) : Int) > ((p.length : Nat) : Int) := by simp; omega
  have z2 : (0 : Int) ≤ ((P.length : Nat) : Int) := by omega
  have z3 : (0 : Int) ≤ ((P.length + 1 + ([] : List Mat).length : Nat) : Int) := by omega
  have z4 : ((P.length : Nat) : Int) < (N : Int) := by omega
  have z5 : ((P.length + 1 + ([] : List Mat).length : Nat) : Int) < (N : Int) := by simp; omega
  have hL : (P ++ w :: ([] ++ x :: Z)).length = P.length + 1 + 1 + Z.length := by simp; omega
  have z6 : P.length < (P ++ w :: ([] ++ x :: Z)).length := by omega
  have z7 : P.length + 1 + ([] : List Mat).length < (P ++ w :: ([] ++ x :: Z)).length := by rw [hL]; simp; omega
  have z8 : P.length < ((P ++ w :: ([] ++ x :: Z)).set (P.length + 1 + ([] : List Mat).length) ({ start := w.start, fin := w.fin, agg := w.agg, bad := w.bad } : Mat)).length := by rw [List.length_set]; exact z6
  have g1 := swp_get1 P [] Z w x (dflt ET.mat)
  have g2 := swp_get2 P [] Z w x (dflt ET.mat)
  have s1 : ((P ++ w :: ([] ++ x :: Z)).set (P.length + 1 + ([] : List Mat).length) ({ start := w.start, fin := w.fin, agg := w.agg, bad := w.bad } : Mat)).set P.length ({ start := x.start, fin := x.fin, agg := x.agg, bad := x.bad } : Mat) = P ++ x :: ([] ++ w :: Z) := swp_set2 P [] Z w x
  unfold S.zxyf_21_r S.zxyf_21_R
  dsimp only
  simp only [xwrap, wa]
  simp only [Int.toNat_natCast, Nat.zero_add]
  rw [g1, g2]
  simp only [DT.run_br, DT.run_leaf, DT.run_fail, xdec, z1, z2, z3, z4, z5, z6, z7, z8, decide_true, cond_true, Bool.and_self]
  rw [s1]
 ·have e2 : p.length + (y.length - y.length) = p.length := by omega
  have z1 : ¬ (((p.length : Nat) : Int) > ((p.length : Nat) : Int)) := by omega
  rw [e2]
  unfold S.zxyf_21_r S.zxyf_21_R
  simp only [DT.run_br, DT.run_leaf, xdec, z1, decide_false, cond_false]
end Go.Eng
