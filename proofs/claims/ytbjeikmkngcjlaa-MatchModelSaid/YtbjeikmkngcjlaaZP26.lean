/- Matches in order of where they end: the sort's plain words. -/
import Derived.Test.YtbjeikmkngcjlaaZP25
set_option linter.unusedVariables false
set_option linter.unusedSimpArgs false
namespace Go.Eng
open Go Go.Eng
def srt (l : List Mat) : Prop := l.Pairwise fun a b => a.fin ≤ b.fin
theorem insL_srt (x : Mat) : ∀ {l : List Mat}, srt l → srt (insL x l) ∧ ∀ y, y ∈ insL x l ↔ y = x ∨ y ∈ l
 | [], h => by simp [insL, srt]
 | y :: l, h => by
  have h1 := List.pairwise_cons.1 h
  unfold insL
  split
  ·rename_i c
   obtain ⟨i1, i2⟩ := insL_srt x h1.2
   refine ⟨List.pairwise_cons.2 ⟨fun z hz => ?_, i1⟩, fun z => ?_⟩
   ·rcases (i2 z).1 hz with rfl | hz
    ·exact c
    ·exact h1.1 z hz
   ·simp only [List.mem_cons, i2]
    constructor
    ·rintro (h | h | h)
     ·exact .inr (.inl h)
     ·exact .inl h
     ·exact .inr (.inr h)
    ·rintro (h | h | h)
     ·exact .inr (.inl h)
     ·exact .inl h
     ·exact .inr (.inr h)
  ·rename_i c
   refine ⟨List.pairwise_cons.2 ⟨fun z hz => ?_, h⟩, fun z => by simp only [List.mem_cons]⟩
   rcases List.mem_cons.1 hz with rfl | hz
   ·omega
   ·have := h1.1 z hz; omega
theorem insL_len (x : Mat) : ∀ l : List Mat, (insL x l).length = l.length + 1
 | [] => rfl
 | y :: l => by
  unfold insL
  split
  ·simp [insL_len x l]
  ·simp
theorem stab_len (l : List Mat) : (stab l).length = l.length := by
 refine snoc_ind (P := fun l => (stab l).length = l.length) rfl (fun l x ih => ?_) l
 rw [stab_snoc, insL_len, ih]; simp
theorem stab_srt (l : List Mat) : srt (stab l) := by
 refine snoc_ind (P := fun l => srt (stab l)) List.Pairwise.nil (fun l x ih => ?_) l
 rw [stab_snoc]; exact (insL_srt x ih).1
theorem stab_mem (l : List Mat) (y : Mat) : y ∈ stab l ↔ y ∈ l := by
 refine snoc_ind (P := fun l => y ∈ stab l ↔ y ∈ l) (by simp [stab]) (fun l x ih => ?_) l
 rw [stab_snoc, (insL_srt x (stab_srt l)).2, ih]; simp [or_comm]
theorem stab_one (x : Mat) : stab [x] = [x] := rfl
theorem q_endCmp (a b : Int) : S.endCmp_is a b = true ∧ (decide ((S.endCmp_o a b).x0 < 0) = decide (a < b)) := by
 have h : ∃ n, S.zlpd a b = some ⟨n⟩ ∧ (decide (n < 0) = decide (a < b)) := by
  unfold S.zlpd S.zlpd_R
  by_cases h1 : a < b
  ·refine ⟨-1, ?_, by simp [h1]⟩
   simp [DT.run_br, DT.run_leaf, DT.run_fail, xdec, h1, S.zc3b_is, S.zc3b_o, S.zc3b, S.zc3b_R, e_xneI]
  ·by_cases h2 : a > b
   ·refine ⟨1, ?_, by simp [h1]⟩
    simp [DT.run_br, DT.run_leaf, DT.run_fail, xdec, h1, h2, S.zc3b_is, S.zc3b_o, S.zc3b, S.zc3b_R, e_xneI]
   ·refine ⟨0, ?_, by simp [h1]⟩
    simp [DT.run_br, DT.run_leaf, DT.run_fail, xdec, h1, h2, S.zc3b_is, S.zc3b_o, S.zc3b, S.zc3b_R, e_xneI]
 obtain ⟨n, e, hn⟩ := h
 have e2 : S.endCmp a b = some ⟨n⟩ := by
  unfold S.endCmp S.endCmp_R
  simp [DT.run_br, DT.run_leaf, S.zlpd_is, S.zlpd_o, e]
 exact ⟨by simp [S.endCmp_is, e2], by simp [S.endCmp_o, e2, hn]⟩
theorem getD_mid {α : Type} (p : List α) (x : α) (r : List α) (d : α) : (p ++ x :: r).getD p.length d = x := by simp [List.getD_eq_getElem?_getD]
theorem getD_mid1 {α : Type} (p : List α) (x y : α) (r : List α) (d : α) : (p ++ x :: y :: r).getD (p.length + 1) d = y := by
 have : p ++ x :: y :: r = (p ++ [x]) ++ y :: r := by simp
 rw [this]
 have e : p.length + 1 = (p ++ [x]).length := by simp
 rw [e, getD_mid]
theorem set_mid {α : Type} (p : List α) (x z : α) (r : List α) : (p ++ x :: r).set p.length z = p ++ z :: r := by simp
theorem set_mid1 {α : Type} (p : List α) (x y z : α) (r : List α) : (p ++ x :: y :: r).set (p.length + 1) z = p ++ x :: z :: r := by
 have : p ++ x :: y :: r = (p ++ [x]) ++ y :: r := by simp
 rw [this]
 have e : p.length + 1 = (p ++ [x]).length := by simp
 rw [e, set_mid]; simp
theorem ins_inner (N : Nat) (hN : N ≤ 1000) (a : List Mat) (x : Mat) (r : List Mat) : ∀ (s1 s2 : List Mat), srt (s1 ++ s2) → (∀ y ∈ s2, x.fin < y.fin) → a.length + s1.length + s2.length + 1 + r.length = N →
    ∃ j, Lp (S.zztx_4_r N a.length) ⟨((a.length + s1.length : Nat) : Int), a ++ s1 ++ x :: (s2 ++ r)⟩ = some (0, ⟨j, a ++ insL x (s1 ++ s2) ++ r⟩) := by
 intro s1
 refine snoc_ind (P := fun s1 => ∀ (s2 : List Mat), srt (s1 ++ s2) → (∀ y ∈ s2, x.fin < y.fin) → a.length + s1.length + s2.length + 1 + r.length = N →
  ∃ j, Lp (S.zztx_4_r N a.length) ⟨((a.length + s1.length : Nat) : Int), a ++ s1 ++ x :: (s2 ++ r)⟩ = some (0, ⟨j, a ++ insL x (s1 ++ s2) ++ r⟩)) ?_ (fun s1 y ih => ?_) s1
 ·intro s2 hs h2 hn
  refine ⟨((a.length + ([] : List Mat).length : Nat) : Int), Lp_exit ?_⟩
  ·have z : ¬ (((a.length + ([] : List Mat).length : Nat) : Int) > (a.length : Int)) := by simp
   unfold S.zztx_4_r S.zztx_4_R
   dsimp only
   simp only [DT.run_br, DT.run_leaf, xdec, z, decide_false, cond_false]
   have := insL_mid x [] s2 (by simp) h2
   simp only [List.nil_append] at this
   simp [this]
 ·intro s2 hs h2 hn
  have hl : (s1 ++ [y]).length = s1.length + 1 := by simp
  rw [hl] at hn ⊢
  have z1 : ((a.length + (s1.length + 1) : Nat) : Int) > (a.length : Int) := by omega
  have z2 : (0 : Int) ≤ ((a.length + (s1.length + 1) : Nat) : Int) := by omega
  have z3 : ((a.length + (s1.length + 1) : Nat) : Int) < (N : Int) := by omega
  have w : IntKind.i64.wrap (((a.length + (s1.length + 1) : Nat) : Int) - 1) = ((a.length + s1.length : Nat) : Int) := by rw [e_wrap (by omega) (by omega)]; omega
  have z4 : (0 : Int) ≤ ((a.length + s1.length : Nat) : Int) := by omega
  have z5 : ((a.length + s1.length : Nat) : Int) < (N : Int) := by omega
  have e0 : a ++ (s1 ++ [y]) ++ x :: (s2 ++ r) = (a ++ s1) ++ y :: x :: (s2 ++ r) := by simp
  have hlen : ((a ++ s1) ++ y :: x :: (s2 ++ r)).length = N := by simp; omega
  have p1 : a.length + s1.length = (a ++ s1).length := by simp
  have p2 : a.length + (s1.length + 1) = (a ++ s1).length + 1 := by simp; omega
  obtain ⟨c1, c2⟩ := q_endCmp x.fin y.fin
  have hround : S.zztx_4_r N a.length ⟨((a.length + (s1.length + 1) : Nat) : Int), (a ++ s1) ++ y :: x :: (s2 ++ r)⟩ =
      if x.fin < y.fin then some (none, ⟨((a.length + s1.length : Nat) : Int), (a ++ s1) ++ x :: y :: (s2 ++ r)⟩) else some (some 0, ⟨((a.length + (s1.length + 1) : Nat) : Int), (a ++ s1) ++ y :: x :: (s2 ++ r)⟩) := by
   unfold S.zztx_4_r S.zztx_4_R
   dsimp only
   simp only [xwrap, w, Int.toNat_natCast, Nat.zero_add]
   have z6 : a.length + (s1.length + 1) < ((a ++ s1) ++ y :: x :: (s2 ++ r)).length := by rw [hlen]; omega
   have z7 : a.length + s1.length < ((a ++ s1) ++ y :: x :: (s2 ++ r)).length := by rw [hlen]; omega
   have z8 : a.length + s1.length < (((a ++ s1) ++ y :: x :: (s2 ++ r)).set (a.length + (s1.length + 1)) y).length := by rw [List.length_set, hlen]; omega
   have g1 : ((a ++ s1) ++ y :: x :: (s2 ++ r)).getD (a.length + (s1.length + 1)) (dflt ET.mat) = x := by rw [p2]; exact getD_mid1 _ _ _ _ _
   have g2 : ((a ++ s1) ++ y :: x :: (s2 ++ r)).getD (a.length + s1.length) (dflt ET.mat) = y := by rw [p1]; exact getD_mid _ _ _ _
   rw [g1, g2]
   have t1 : (((a ++ s1) ++ y :: x :: (s2 ++ r)).set (a.length + (s1.length + 1)) y) = (a ++ s1) ++ y :: y :: (s2 ++ r) := by rw [p2]; exact set_mid1 _ _ _ _ _
   have t2 : ((a ++ s1) ++ y :: y :: (s2 ++ r)).set (a.length + s1.length) x = (a ++ s1) ++ x :: y :: (s2 ++ r) := by rw [p1]; exact set_mid _ _ _ _
   have t1' : (((a ++ s1) ++ y :: x :: (s2 ++ r)).set (a.length + (s1.length + 1)) ({ start := y.start, fin := y.fin, agg := y.agg, bad := y.bad } : Mat)) = (a ++ s1) ++ y :: y :: (s2 ++ r) := t1
   have t2' : ((a ++ s1) ++ y :: y :: (s2 ++ r)).set (a.length + s1.length) ({ start := x.start, fin := x.fin, agg := x.agg, bad := x.bad } : Mat) = (a ++ s1) ++ x :: y :: (s2 ++ r) := t2
   have z9 : a.length + s1.length < ((a ++ s1) ++ y :: y :: (s2 ++ r)).length := by rw [← t1]; exact z8
   rw [t1', t2']
   simp only [DT.run_br, DT.run_leaf, DT.run_fail, xdec, z1, z2, z3, z4, z5, z6, z7, z9, c1, c2, decide_true, cond_true, Bool.and_self]
   by_cases c : x.fin < y.fin
   ·rw [if_pos c, decide_eq_true c]; rfl
   ·rw [if_neg c, decide_eq_false c]; rfl
  rw [e0]
  have hs' : srt (s1 ++ (y :: s2)) := by simpa [srt] using hs
  by_cases c : x.fin < y.fin
  ·rw [if_pos c] at hround
   obtain ⟨j, hj⟩ := ih (y :: s2) hs' (fun z hz => by
    rcases List.mem_cons.1 hz with rfl | hz
    ·exact c
    ·exact h2 z hz) (by simp; omega)
   refine ⟨j, ?_⟩
   rw [Lp_cont hround]
   have e1 : s1 ++ [y] ++ s2 = s1 ++ y :: s2 := by simp
   rw [e1]
   have e2 : a ++ s1 ++ x :: (y :: s2 ++ r) = (a ++ s1) ++ x :: y :: (s2 ++ r) := rfl
   rw [← e2]; exact hj
  ·rw [if_neg c] at hround
   refine ⟨((a.length + (s1.length + 1) : Nat) : Int), Lp_exit ?_⟩
   ·rw [hround]
    have hle : ∀ z ∈ s1 ++ [y], z.fin ≤ x.fin := fun z hz => by
     have hp := List.pairwise_append.1 (show (s1 ++ ([y] ++ s2)).Pairwise (fun a b : Mat => a.fin ≤ b.fin) from by simpa [srt] using hs)
     rcases List.mem_append.1 hz with hz | hz
     ·have := hp.2.2 z hz y (by simp); omega
     ·obtain rfl := List.mem_singleton.1 hz; omega
    rw [insL_mid x (s1 ++ [y]) s2 hle h2]
    simp
theorem ins_outer (N : Nat) (hN : N ≤ 1000) (a s z : List Mat) (hn : a.length + s.length + z.length = N) (hs : 0 < s.length) : ∃ j, Lp (S.zztx_1_r N a.length ((a.length + s.length : Nat) : Int)) ⟨((a.length + 1 : Nat) : Int), a ++ s ++ z⟩ = some (0, ⟨j, a ++ stab s ++ z⟩) := by
 have key : ∀ (n i : Nat), i + n = s.length → 0 < i → ∃ j, Lp (S.zztx_1_r N a.length ((a.length + s.length : Nat) : Int)) ⟨((a.length + i : Nat) : Int), a ++ (stab (s.take i) ++ s.drop i) ++ z⟩ = some (0, ⟨j, a ++ stab s ++ z⟩) := by
  intro n
  induction n with
  | zero =>
   intro i hi h0
   have e1 : s.take i = s := List.take_of_length_le (by omega)
   have e2 : s.drop i = [] := List.drop_eq_nil_of_le (by omega)
   rw [e1, e2, List.append_nil]
   refine ⟨((a.length + i : Nat) : Int), Lp_exit ?_⟩
   ·have z1 : ¬ (((a.length + i : Nat) : Int) < ((a.length + s.length : Nat) : Int)) := by omega
    unfold S.zztx_1_r S.zztx_1_R
    dsimp only
    simp only [DT.run_br, DT.run_leaf, xdec, z1, decide_false, cond_false]
  | succ n ih =>
   intro i hi h0
   have hi' : i < s.length := by omega
   obtain ⟨j, hj⟩ := ih (i + 1) (by omega) (by omega)
   have e1 : s.take (i + 1) = s.take i ++ [s[i]] := by rw [List.take_succ_eq_append_getElem hi']
   have e2 : s.drop i = s[i] :: s.drop (i + 1) := List.drop_eq_getElem_cons hi'
   have hsl : (stab (s.take i)).length = i := by rw [stab_len]; simp; omega
   obtain ⟨j2, h2⟩ := ins_inner N hN a s[i] (s.drop (i + 1) ++ z) (stab (s.take i)) [] (by simpa using stab_srt _) (by simp) (by simp [hsl]; omega)
   rw [hsl, List.append_nil, ← stab_snoc, ← e1] at h2
   have e3 : a ++ stab (s.take i) ++ s[i] :: ([] ++ (s.drop (i + 1) ++ z)) = a ++ (stab (s.take i) ++ s.drop i) ++ z := by rw [e2]; simp only [List.nil_append, List.append_assoc, List.cons_append]
   have e4 : a ++ stab (s.take (i + 1)) ++ (s.drop (i + 1) ++ z) = a ++ (stab (s.take (i + 1)) ++ s.drop (i + 1)) ++ z := by simp
   rw [e3, e4] at h2
   refine ⟨j, ?_⟩
   have z1 : ((a.length + i : Nat) : Int) < ((a.length + s.length : Nat) : Int) := by omega
   have hround : S.zztx_1_r N a.length ((a.length + s.length : Nat) : Int) ⟨((a.length + i : Nat) : Int), a ++ (stab (s.take i) ++ s.drop i) ++ z⟩ = some (none, ⟨((a.length + (i + 1) : Nat) : Int), a ++ (stab (s.take (i + 1)) ++ s.drop (i + 1)) ++ z⟩) := by
    unfold S.zztx_1_r S.zztx_1_R S.zztx_4_j S.zztx_4_v
    dsimp only
    rw [Lp_j_of h2, Lp_v_of h2]
    simp only [DT.run_br, DT.run_leaf, DT.run_fail, xdec, xwrap, z1, decide_true, cond_true, e_wrap1 (show a.length + i ≤ 1048576 by omega)]
    rfl
   rw [Lp_cont hround]; exact hj
 obtain ⟨j, hj⟩ := key (s.length - 1) 1 (by omega) (by omega)
 refine ⟨j, ?_⟩
 have e : stab (s.take 1) ++ s.drop 1 = s := by
  cases s with
  | nil => cases hs
  | cons x s => simp [stab_one]
 rw [e] at hj; exact hj
theorem q_insSort (a s z : List Mat) (hn : a.length + s.length + z.length ≤ 1000) : S.zztx (a ++ s ++ z) a.length ((a.length + s.length : Nat) : Int) = some ⟨a ++ stab s ++ z⟩ := by
 unfold S.zztx S.zztx_R
 dsimp only
 have hl : (a ++ s ++ z).length = a.length + s.length + z.length := by simp; omega
 have hle : a.length + s.length + z.length = a.length + s.length + z.length := rfl
 rw [hl]
 simp only [xwrap, e_wrap1 (show a.length ≤ 1048576 by omega)]
 by_cases h : 0 < s.length
 ·obtain ⟨j, hj⟩ := ins_outer (a.length + s.length + z.length) hn a s z rfl h
  unfold S.zztx_1_j S.zztx_1_v
  rw [Lp_j_of hj, Lp_v_of hj]
  rfl
 ·have e : s = [] := List.eq_nil_of_length_eq_zero (by omega)
  subst e
  have z1 : ¬ (((a.length + 1 : Nat) : Int) < ((a.length + ([] : List Mat).length : Nat) : Int)) := by simp; omega
  have hj : Lp (S.zztx_1_r (a.length + ([] : List Mat).length + z.length) a.length ((a.length + ([] : List Mat).length : Nat) : Int)) ⟨((a.length + 1 : Nat) : Int), a ++ [] ++ z⟩ = some (0, ⟨((a.length + 1 : Nat) : Int), a ++ [] ++ z⟩) := by
   refine Lp_exit ?_
   unfold S.zztx_1_r S.zztx_1_R
   dsimp only
   simp only [DT.run_br, DT.run_leaf, xdec, z1, decide_false, cond_false]
  unfold S.zztx_1_j S.zztx_1_v
  rw [Lp_j_of hj, Lp_v_of hj]
  rfl
end Go.Eng
