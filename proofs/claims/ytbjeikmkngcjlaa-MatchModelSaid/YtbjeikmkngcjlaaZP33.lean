/- Rows that are turned about. -/
import Derived.Test.YtbjeikmkngcjlaaZP32
import Derived.Test.YtbjeikmkngcjlaaZG13
set_option linter.unusedVariables false
set_option linter.unusedSimpArgs false
namespace Go.Eng
open Go Go.Eng
theorem swp_get1 {α : Type} (P M Z : List α) (x y d : α) : (P ++ x :: (M ++ y :: Z)).getD P.length d = x := getD_mid _ _ _ _
theorem swp_get2 {α : Type} (P M Z : List α) (x y d : α) : (P ++ x :: (M ++ y :: Z)).getD (P.length + 1 + M.length) d = y := by
 have e : P ++ x :: (M ++ y :: Z) = (P ++ x :: M) ++ y :: Z := by simp
 have l : P.length + 1 + M.length = (P ++ x :: M).length := by simp; omega
 rw [e, l, getD_mid]
theorem swp_set1 {α : Type} (P M Z : List α) (x y : α) : ((P ++ x :: (M ++ y :: Z)).set P.length y).set (P.length + 1 + M.length) x = P ++ y :: (M ++ x :: Z) := by
 rw [set_mid]
 have e : P ++ y :: (M ++ y :: Z) = (P ++ y :: M) ++ y :: Z := by simp
 have l : P.length + 1 + M.length = (P ++ y :: M).length := by simp; omega
 rw [e, l, set_mid]; simp
theorem swp_set2 {α : Type} (P M Z : List α) (x y : α) : ((P ++ x :: (M ++ y :: Z)).set (P.length + 1 + M.length) x).set P.length y = P ++ y :: (M ++ x :: Z) := by
 have e : P ++ x :: (M ++ y :: Z) = (P ++ x :: M) ++ y :: Z := by simp
 have l : P.length + 1 + M.length = (P ++ x :: M).length := by simp; omega
 rw [e, l, set_mid]
 have e2 : (P ++ x :: M) ++ x :: Z = P ++ x :: (M ++ x :: Z) := by simp
 rw [e2, set_mid]
theorem q_swapRange (p u w v z : List Mat) (huv : u.length = v.length) (hb : p.length + u.length + w.length + v.length + z.length ≤ 1000) :
    S.zh7k (p ++ u ++ w ++ v ++ z) (p.length : Nat) ((p.length + u.length + w.length : Nat) : Int) (u.length : Nat) = some ⟨p ++ v ++ w ++ u ++ z⟩ := by
 have hN : (p ++ u ++ w ++ v ++ z).length = p.length + u.length + w.length + v.length + z.length := by simp; omega
 have hw := Lp_walk (r := S.zh7k_1_r (p ++ u ++ w ++ v ++ z).length (p.length : Nat) ((p.length + u.length + w.length : Nat) : Int) (u.length : Nat)) (fun k => (⟨(k : Int), p ++ (v.take k ++ u.drop k) ++ w ++ (u.take k ++ v.drop k) ++ z⟩ : S.zh7k_1_V)) u.length 0 (fun k hk => ?_) ?_
 ·unfold S.zh7k S.zh7k_R
  dsimp only
  have e0 : p ++ (v.take 0 ++ u.drop 0) ++ w ++ (u.take 0 ++ v.drop 0) ++ z = p ++ u ++ w ++ v ++ z := by simp
  have e1 : p ++ (v.take u.length ++ u.drop u.length) ++ w ++ (u.take u.length ++ v.drop u.length) ++ z = p ++ v ++ w ++ u ++ z := by
   have a1 : v.take u.length = v := List.take_of_length_le (by omega)
   have a2 : v.drop u.length = [] := List.drop_eq_nil_of_le (by omega)
   rw [a1, a2]; simp
  rw [e0, e1] at hw
  unfold S.zh7k_1_j S.zh7k_1_v
  rw [show ((0 : Nat) : Int) = (0 : Int) from rfl] at hw
  rw [Lp_j_of hw, Lp_v_of hw]
  rfl
 ·have hk' : k < v.length := by omega
  have au : u.drop k = u[k] :: u.drop (k + 1) := List.drop_eq_getElem_cons hk
  have av : v.drop k = v[k] :: v.drop (k + 1) := List.drop_eq_getElem_cons hk'
  have tu : u.take (k + 1) = u.take k ++ [u[k]] := by rw [List.take_succ_eq_append_getElem hk]
  have tv : v.take (k + 1) = v.take k ++ [v[k]] := by rw [List.take_succ_eq_append_getElem hk']
  have d0 : p ++ (v.take k ++ u.drop k) ++ w ++ (u.take k ++ v.drop k) ++ z = (p ++ v.take k) ++ u[k] :: ((u.drop (k + 1) ++ w ++ u.take k) ++ v[k] :: (v.drop (k + 1) ++ z)) := by rw [au, av]; simp only [List.append_assoc, List.cons_append]
  have d1 : p ++ (v.take (k + 1) ++ u.drop (k + 1)) ++ w ++ (u.take (k + 1) ++ v.drop (k + 1)) ++ z = (p ++ v.take k) ++ v[k] :: ((u.drop (k + 1) ++ w ++ u.take k) ++ u[k] :: (v.drop (k + 1) ++ z)) := by rw [tu, tv]; simp only [List.append_assoc, List.cons_append, List.nil_append]
  have l1 : (p ++ v.take k).length = p.length + k := by simp; omega
  have l2 : (u.drop (k + 1) ++ w ++ u.take k).length = u.length - 1 + w.length := by simp; omega
  rw [d0, d1]
  generalize hP : p ++ v.take k = P at *
  generalize hM : u.drop (k + 1) ++ w ++ u.take k = M at *
  generalize hZ : v.drop (k + 1) ++ z = Z at *
  have lZ : Z.length = v.length - (k + 1) + z.length := by rw [← hZ]; simp
  generalize u[k] = x
  generalize v[k] = y
  have i1 : p.length + k = P.length := by omega
  have i2 : p.length + u.length + w.length + k = P.length + 1 + M.length := by omega
  have wa : IntKind.i64.wrap ((p.length : Int) + (k : Int)) = ((P.length : Nat) : Int) := by rw [e_wrap (by omega) (by omega)]; omega
  have wb : IntKind.i64.wrap (((p.length + u.length + w.length : Nat) : Int) + (k : Int)) = ((P.length + 1 + M.length : Nat) : Int) := by rw [e_wrap (by omega) (by omega)]; omega
  have z1 : ((k : Int) < (u.length : Int)) := by omega
  have z2 : (0 : Int) ≤ ((P.length : Nat) : Int) := by omega
  have z3 : (0 : Int) ≤ ((P.length + 1 + M.length : Nat) : Int) := by omega
  have z4 : ((P.length : Nat) : Int) < (((p ++ u ++ w ++ v ++ z).length : Nat) : Int) := by omega
  have z5 : ((P.length + 1 + M.length : Nat) : Int) < (((p ++ u ++ w ++ v ++ z).length : Nat) : Int) := by omega
  have hL : (P ++ x :: (M ++ y :: Z)).length = P.length + 1 + M.length + 1 + Z.length := by simp; omega
  have z6 : P.length < (P ++ x :: (M ++ y :: Z)).length := by omega
  have z7 : P.length + 1 + M.length < (P ++ x :: (M ++ y :: Z)).length := by omega
  have z8 : P.length + 1 + M.length < ((P ++ x :: (M ++ y :: Z)).set P.length y).length := by rw [List.length_set]; omega
  have g1 := swp_get1 P M Z x y (dflt ET.mat)
  have g2 := swp_get2 P M Z x y (dflt ET.mat)
  have s1 := swp_set1 P M Z x y
  unfold S.zh7k_1_r S.zh7k_1_R
  dsimp only
  simp only [xwrap, wa, wb, Int.toNat_natCast, Nat.zero_add]
  rw [g1, g2]
  have s1' : ((P ++ x :: (M ++ y :: Z)).set P.length ({ start := y.start, fin := y.fin, agg := y.agg, bad := y.bad } : Mat)).set (P.length + 1 + M.length) ({ start := x.start, fin := x.fin, agg := x.agg, bad := x.bad } : Mat) = P ++ y :: (M ++ x :: Z) := s1
  have z8' : P.length + 1 + M.length < ((P ++ x :: (M ++ y :: Z)).set P.length ({ start := y.start, fin := y.fin, agg := y.agg, bad := y.bad } : Mat)).length := z8
  simp only [DT.run_br, DT.run_leaf, DT.run_fail, xdec, z1, z2, z3, z4, z5, z6, z7, z8', decide_true, cond_true, Bool.and_self]
  rw [s1', e_wrap1 (show k ≤ 1048576 by omega)]
 ·have z1 : ¬ ((u.length : Int) < (u.length : Int)) := by omega
  unfold S.zh7k_1_r S.zh7k_1_R
  simp only [DT.run_br, DT.run_leaf, xdec, z1, decide_false, cond_false]
theorem q_swapRange_is (p u w v z : List Mat) (huv : u.length = v.length) (hb : p.length + u.length + w.length + v.length + z.length ≤ 1000) :
    S.zh7k_is (p ++ u ++ w ++ v ++ z) (p.length : Nat) ((p.length + u.length + w.length : Nat) : Int) (u.length : Nat) = true := by unfold S.zh7k_is; rw [q_swapRange p u w v z huv hb]; rfl
theorem q_swapRange_o (p u w v z : List Mat) (huv : u.length = v.length) (hb : p.length + u.length + w.length + v.length + z.length ≤ 1000) :
    S.zh7k_o (p ++ u ++ w ++ v ++ z) (p.length : Nat) ((p.length + u.length + w.length : Nat) : Int) (u.length : Nat) = ⟨p ++ v ++ w ++ u ++ z⟩ := by unfold S.zh7k_o; rw [q_swapRange p u w v z huv hb]; rfl
theorem rot_loop (N m : Nat) (hN : N ≤ 1000) : ∀ (n : Nat) (p u v z : List Mat), u.length + v.length ≤ n → 0 < u.length → 0 < v.length → p.length + u.length = m → p.length + u.length + v.length + z.length = N →
    ∃ p2 u2 v2 z2 : List Mat, Lp (S.z2ob_2_r N (m : Nat)) ⟨(u.length : Nat), (v.length : Nat), p ++ u ++ v ++ z⟩ = some (0, ⟨(u2.length : Nat), (u2.length : Nat), p2 ++ u2 ++ v2 ++ z2⟩) ∧ u2.length = v2.length ∧ p2.length + u2.length = m ∧ p2.length + u2.length + v2.length + z2.length = N ∧ p2 ++ v2 ++ u2 ++ z2 = p ++ v ++ u ++ z
 | 0, p, u, v, z, hn, hu, hv, hm, ht => by omega
 | n + 1, p, u, v, z, hn, hu, hv, hm, ht => by
  have hlen : N = (p ++ u ++ v ++ z).length := by simp; omega
  by_cases c : u.length = v.length
  ·refine ⟨p, u, v, z, Lp_exit ?_, c, hm, ht, rfl⟩
   unfold S.z2ob_2_r S.z2ob_2_R
   dsimp only
   rw [← c]
   simp [DT.run_br, DT.run_leaf, xneI]
  have cI : ((u.length : Nat) : Int) ≠ ((v.length : Nat) : Int) := by omega
  have w1 : IntKind.i64.wrap ((m : Int) - (u.length : Nat)) = ((p.length : Nat) : Int) := by rw [e_wrap (by omega) (by omega)]; omega
  by_cases c2 : u.length > v.length
  ·have c2I : ((u.length : Nat) : Int) > ((v.length : Nat) : Int) := by omega
   have l1 : (u.take v.length).length = v.length := by simp; omega
   have l2 : (u.drop v.length).length = u.length - v.length := by simp
   have eu : u = u.take v.length ++ u.drop v.length := (List.take_append_drop _ _).symm
   have i1 := q_swapRange_is p (u.take v.length) (u.drop v.length) v z l1 (by omega)
   have i2 := q_swapRange_o p (u.take v.length) (u.drop v.length) v z l1 (by omega)
   have em : p.length + (u.take v.length).length + (u.drop v.length).length = m := by omega
   have ed : p ++ u.take v.length ++ u.drop v.length ++ v ++ z = p ++ u ++ v ++ z := by rw [List.append_assoc p, ← eu]
   rw [em, l1, ed] at i1 i2
   obtain ⟨p2, u2, v2, z2, r1, r2, r3, r4, r5⟩ := rot_loop N m hN n (p ++ v) (u.drop v.length) (u.take v.length) z (by omega) (by omega) (by omega) (by simp; omega) (by simp; omega)
   refine ⟨p2, u2, v2, z2, ?_, r2, r3, r4, ?_⟩
   ·rw [Lp_cont (v' := ⟨((u.drop v.length).length : Nat), ((u.take v.length).length : Nat), (p ++ v) ++ u.drop v.length ++ u.take v.length ++ z⟩)]
    ·exact r1
    ·unfold S.z2ob_2_r S.z2ob_2_R
     dsimp only
     simp only [xwrap, w1]
     rw [i1, i2]
     have w2 : IntKind.i64.wrap (((u.length : Nat) : Int) - ((v.length : Nat) : Int)) = ((u.length - v.length : Nat) : Int) := by rw [e_wrap (by omega) (by omega)]; omega
     simp only [DT.run_br, DT.run_leaf, DT.run_fail, xdec, e_xneI, cI, c2I, hlen, w2, l1, l2, ne_eq, not_false_eq_true, decide_true, cond_true, Bool.and_self]
   ·rw [r5]
    have : p ++ v ++ u.take v.length ++ u.drop v.length ++ z = p ++ v ++ u ++ z := by rw [List.append_assoc (p ++ v), ← eu]
    exact this
  ·have c2I : ¬ ((u.length : Nat) : Int) > ((v.length : Nat) : Int) := by omega
   have l1 : (v.take (v.length - u.length)).length = v.length - u.length := by simp
   have l2 : (v.drop (v.length - u.length)).length = u.length := by simp; omega
   have ev : v = v.take (v.length - u.length) ++ v.drop (v.length - u.length) := (List.take_append_drop _ _).symm
   have i1 := q_swapRange_is p u (v.take (v.length - u.length)) (v.drop (v.length - u.length)) z l2.symm (by omega)
   have i2 := q_swapRange_o p u (v.take (v.length - u.length)) (v.drop (v.length - u.length)) z l2.symm (by omega)
   have em : p.length + u.length + (v.take (v.length - u.length)).length = m + v.length - u.length := by omega
   have ed : p ++ u ++ v.take (v.length - u.length) ++ v.drop (v.length - u.length) ++ z = p ++ u ++ v ++ z := by rw [List.append_assoc (p ++ u), ← ev]
   rw [em, ed] at i1 i2
   have w3 : IntKind.i64.wrap (IntKind.i64.wrap ((m : Int) + (v.length : Nat)) - (u.length : Nat)) = ((m + v.length - u.length : Nat) : Int) := by rw [e_wrap (n := (m : Int) + (v.length : Nat)) (by omega) (by omega), e_wrap (by omega) (by omega)]; omega
   obtain ⟨p2, u2, v2, z2, r1, r2, r3, r4, r5⟩ := rot_loop N m hN n p (v.drop (v.length - u.length)) (v.take (v.length - u.length)) (u ++ z) (by omega) (by omega) (by omega) (by omega) (by simp; omega)
   refine ⟨p2, u2, v2, z2, ?_, r2, r3, r4, ?_⟩
   ·rw [Lp_cont (v' := ⟨((v.drop (v.length - u.length)).length : Nat), ((v.take (v.length - u.length)).length : Nat), p ++ v.drop (v.length - u.length) ++ v.take (v.length - u.length) ++ (u ++ z)⟩)]
    ·exact r1
    ·unfold S.z2ob_2_r S.z2ob_2_R
     dsimp only
     simp only [xwrap, w1, w3]
     rw [i1, i2]
     have w2 : IntKind.i64.wrap (((v.length : Nat) : Int) - ((u.length : Nat) : Int)) = ((v.length - u.length : Nat) : Int) := by rw [e_wrap (by omega) (by omega)]; omega
     simp only [DT.run_br, DT.run_leaf, DT.run_fail, xdec, e_xneI, cI, c2I, hlen, w2, l1, l2, ne_eq, not_false_eq_true, decide_true, decide_false, cond_true, cond_false, Bool.and_self, List.append_assoc]
   ·rw [r5]
    have : p ++ v.take (v.length - u.length) ++ v.drop (v.length - u.length) ++ (u ++ z) = p ++ v ++ u ++ z := by rw [List.append_assoc p, ← ev, List.append_assoc (p ++ v)]
    exact this
theorem q_rotate (p u v z : List Mat) (hu : 0 < u.length) (hv : 0 < v.length) (hb : p.length + u.length + v.length + z.length ≤ 1000) :
    S.z2ob (p ++ u ++ v ++ z) (p.length : Nat) ((p.length + u.length : Nat) : Int) ((p.length + u.length + v.length : Nat) : Int) = some ⟨p ++ v ++ u ++ z⟩ := by
 obtain ⟨p2, u2, v2, z2, r1, r2, r3, r4, r5⟩ := rot_loop (p ++ u ++ v ++ z).length (p.length + u.length) (by simp; omega) (u.length + v.length) p u v z (Nat.le_refl _) hu hv rfl (by simp; omega)
 have w1 : IntKind.i64.wrap (((p.length + u.length : Nat) : Int) - (p.length : Nat)) = ((u.length : Nat) : Int) := by rw [e_wrap (by omega) (by omega)]; omega
 have w2 : IntKind.i64.wrap (((p.length + u.length + v.length : Nat) : Int) - ((p.length + u.length : Nat) : Int)) = ((v.length : Nat) : Int) := by rw [e_wrap (by omega) (by omega)]; omega
 have w3 : IntKind.i64.wrap (((p.length + u.length : Nat) : Int) - (u2.length : Nat)) = ((p2.length : Nat) : Int) := by rw [e_wrap (by omega) (by omega)]; omega
 have hl : (p ++ u ++ v ++ z).length = p.length + u.length + v.length + z.length := by simp; omega
 have hl2 : (p ++ u ++ v ++ z).length = (p2 ++ u2 ++ v2 ++ z2).length := by simp only [List.length_append] at r4 ⊢; omega
 have i1 := q_swapRange_is p2 u2 [] v2 z2 r2 (by simp; omega)
 have i2 := q_swapRange_o p2 u2 [] v2 z2 r2 (by simp; omega)
 have em : p2.length + u2.length + ([] : List Mat).length = p.length + u.length := by simp; omega
 rw [em, List.append_nil] at i1 i2
 rw [List.append_nil, r5] at i2
 unfold S.z2ob S.z2ob_R
 dsimp only
 simp only [xwrap, w1, w2]
 unfold S.z2ob_2_j S.z2ob_2_v
 rw [Lp_j_of r1, Lp_v_of r1]
 dsimp only
 rw [w3, i1, i2]
 simp only [DT.run_br, DT.run_leaf, DT.run_fail, xdec, hl2, decide_true, cond_true, Bool.and_self, beq_self_eq_true]
end Go.Eng
