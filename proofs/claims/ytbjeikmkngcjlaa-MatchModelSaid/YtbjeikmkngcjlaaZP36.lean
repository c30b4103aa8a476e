/- Merges: halves. -/
import Derived.Test.YtbjeikmkngcjlaaZP35
set_option maxHeartbeats 4000000
set_option linter.unusedVariables false
set_option linter.unusedSimpArgs false
namespace Go.Eng
open Go Go.Eng
theorem q_rotate_is (p u v z : List Mat) (hu : 0 < u.length) (hv : 0 < v.length) (hb : p.length + u.length + v.length + z.length ≤ 1000) :
    S.z2ob_is (p ++ u ++ v ++ z) (p.length : Nat) ((p.length + u.length : Nat) : Int) ((p.length + u.length + v.length : Nat) : Int) = true := by unfold S.z2ob_is; rw [q_rotate p u v z hu hv hb]; rfl
theorem q_rotate_o (p u v z : List Mat) (hu : 0 < u.length) (hv : 0 < v.length) (hb : p.length + u.length + v.length + z.length ≤ 1000) :
    S.z2ob_o (p ++ u ++ v ++ z) (p.length : Nat) ((p.length + u.length : Nat) : Int) ((p.length + u.length + v.length : Nat) : Int) = ⟨p ++ v ++ u ++ z⟩ := by unfold S.z2ob_o; rw [q_rotate p u v z hu hv hb]; rfl
theorem nil_of {α : Type} {l : List α} (h : ¬ 0 < l.length) : l = [] := List.eq_nil_of_length_eq_zero (by omega)
theorem merge_mid [SymRec] {k : Nat} (hr : RecOk k) (p x y z : List Mat) (sx : srt x) (sy : srt y) (hx : 0 < x.length) (hy : 0 < y.length) (hk : x.length + y.length ≤ 2 ^ (k + 1)) (hb : p.length + x.length + y.length + z.length ≤ 1000)
    (mid a m b s0 r0 : Nat) (ha : a = p.length) (hm : m = p.length + x.length) (hbb : b = p.length + x.length + y.length) (hmid : mid = (a + b) / 2) (hc : (m > mid ∧ s0 = mid + m - b ∧ r0 = mid) ∨ (m ≤ mid ∧ s0 = a ∧ r0 = m)) :
    S.zxyf_c32 (p ++ x ++ y ++ z).length (a : Nat) (m : Nat) (b : Nat) (mid : Nat) ((mid + m : Nat) : Int) (s0 : Nat) (r0 : Nat) (p ++ x ++ y ++ z) = some ⟨p ++ stab (x ++ y) ++ z⟩ := by
 have hL : (p ++ x ++ y ++ z).length = p.length + x.length + y.length + z.length := by simp; omega
 have hpow : 2 ^ (k + 1) = 2 * 2 ^ k := by rw [Nat.pow_succ]; omega
 have gx : ∀ i, i < x.length → (p ++ x ++ y ++ z).getD (a + i) (dflt ET.mat) = x.getD i (dflt ET.mat) := fun i hi => by
  rw [ha, List.append_assoc (p ++ x), getD_block _ _ _ _ hi]
 have gy : ∀ i, i < y.length → (p ++ x ++ y ++ z).getD (m + i) (dflt ET.mat) = y.getD i (dflt ET.mat) := fun i hi => by
  have l : m + i = (p ++ x).length + i := by simp; omega
  rw [l, getD_block _ _ _ _ hi]
 obtain ⟨s, l1, l2, l3, l4, l5⟩ := sm33 (p ++ x ++ y ++ z) (by omega) (mid + m - 1) s0 r0 (by omega) (by omega) (by omega) (by omega) s0 r0 (Nat.le_refl _) (by omega) (Nat.le_refl _)
 have f1 : a ≤ s := by omega
 have f2 : s ≤ m := by omega
 have f3 : s ≤ mid := by omega
 obtain ⟨e, he⟩ : ∃ e, e = mid + m - s := ⟨_, rfl⟩
 have f4 : m ≤ e := by omega
 have f5 : e ≤ b := by omega
 have w0 : IntKind.i64.wrap (((mid + m : Nat) : Int) - 1) = ((mid + m - 1 : Nat) : Int) := by rw [e_wrap (by omega) (by omega)]; omega
 have w1 : IntKind.i64.wrap (((mid + m : Nat) : Int) - (s : Nat)) = ((e : Nat) : Int) := by rw [e_wrap (by omega) (by omega)]; omega
 -- the four parts
 obtain ⟨x1, x2, ex, k1⟩ : ∃ x1 x2, x = x1 ++ x2 ∧ x1 = x.take (s - a) ∧ x2 = x.drop (s - a) ∧ x1.length = s - a ∧ x2.length = m - s := ⟨x.take (s - a), x.drop (s - a), (List.take_append_drop _ _).symm, rfl, rfl, by simp; omega, by simp; omega⟩
 obtain ⟨y1, y2, ey, k2⟩ : ∃ y1 y2, y = y1 ++ y2 ∧ y1 = y.take (e - m) ∧ y2 = y.drop (e - m) ∧ y1.length = e - m ∧ y2.length = b - e := ⟨y.take (e - m), y.drop (e - m), (List.take_append_drop _ _).symm, rfl, rfl, by simp; omega, by simp; omega⟩
 obtain ⟨k11, k12, lx1, lx2⟩ := k1
 obtain ⟨k21, k22, ly1, ly2⟩ := k2
 have h1 : ∀ u ∈ x1, ∀ v ∈ y2, u.fin ≤ v.fin := fun u hu v hv => by
  rw [k11] at hu; rw [k22] at hv
  obtain ⟨c1, c2⟩ := srt_take sx (by omega) hu (dflt ET.mat)
  obtain ⟨c3, c4⟩ := srt_drop sy hv (dflt ET.mat)
  have := l4 (by omega)
  rw [show s - 1 = a + (s - a - 1) by omega, gx _ (by omega), show mid + m - 1 - (a + (s - a - 1)) = m + (e - m) by omega, gy _ c3] at this
  omega
 have h2 : ∀ u ∈ y1, ∀ v ∈ x2, u.fin < v.fin := fun u hu v hv => by
  rw [k21] at hu; rw [k12] at hv
  obtain ⟨c1, c2⟩ := srt_take sy (by omega) hu (dflt ET.mat)
  obtain ⟨c3, c4⟩ := srt_drop sx hv (dflt ET.mat)
  have := l5 (by omega)
  rw [show mid + m - 1 - s = m + (e - m - 1) by omega, gy _ (by omega)] at this
  have e2 : (p ++ x ++ y ++ z).getD s (dflt ET.mat) = x.getD (s - a) (dflt ET.mat) := by rw [← gx _ c3]; congr 1; omega
  rw [e2] at this
  omega
 have hmg := merge_two x1 x2 y1 y2 (by rw [← ex]; exact sx) (by rw [← ey]; exact sy) h1 h2
 have sx1 : srt x1 := srt_left (by rw [← ex]; exact sx)
 have sx2 : srt x2 := srt_right (by rw [← ex]; exact sx)
 have sy1 : srt y1 := srt_left (by rw [← ey]; exact sy)
 have sy2 : srt y2 := srt_right (by rw [← ey]; exact sy)
 -- turned about
 obtain ⟨d1, hd1⟩ : ∃ d1, d1 = p ++ x1 ++ y1 ++ (x2 ++ y2 ++ z) := ⟨_, rfl⟩
 have ld1 : (p ++ x ++ y ++ z).length = d1.length := by rw [hL, hd1]; simp; omega
 have hd : p ++ x ++ y ++ z = (p ++ x1) ++ x2 ++ y1 ++ (y2 ++ z) := by rw [ex, ey]; simp
 have hrot : s < m → m < e → S.z2ob_is (p ++ x ++ y ++ z) (s : Nat) (m : Nat) (e : Nat) = true ∧ S.z2ob_o (p ++ x ++ y ++ z) (s : Nat) (m : Nat) (e : Nat) = ⟨d1⟩ := fun c1 c2 => by
  have i1 := q_rotate_is (p ++ x1) x2 y1 (y2 ++ z) (by omega) (by omega) (by simp; omega)
  have i2 := q_rotate_o (p ++ x1) x2 y1 (y2 ++ z) (by omega) (by omega) (by simp; omega)
  have q1 : (p ++ x1).length = s := by simp; omega
  have q2 : (p ++ x1).length + x2.length = m := by simp; omega
  have q3 : (p ++ x1).length + x2.length + y1.length = e := by simp; omega
  rw [q3, q2, q1] at i1 i2
  rw [hd, hd1]
  refine ⟨i1, ?_⟩
  rw [i2]; simp
 have hno : ¬ (s < m ∧ m < e) → p ++ x ++ y ++ z = d1 := fun c => by
  rw [hd, hd1]
  by_cases c1 : s < m
  ·have : y1 = [] := nil_of (by omega)
   subst this; simp
  ·have : x2 = [] := nil_of (by omega)
   subst this; simp
 -- the part ahead
 obtain ⟨d2, hd2⟩ : ∃ d2, d2 = p ++ stab (x1 ++ y1) ++ (x2 ++ y2 ++ z) := ⟨_, rfl⟩
 have lst : (stab (x1 ++ y1)).length = x1.length + y1.length := by rw [stab_len]; simp
 have ld2 : d1.length = d2.length := by rw [hd1, hd2]; simp only [List.length_append, lst]; omega
 have hr1 : a < s → s < mid → S.symRec_is d1 (a : Nat) (s : Nat) (mid : Nat) = true ∧ S.symRec_o d1 (a : Nat) (s : Nat) (mid : Nat) = d2 := fun c1 c2 => by
  have := hr p x1 y1 (x2 ++ y2 ++ z) (by omega) (by omega) sx1 sy1 (by omega) (by simp; omega)
  rw [show p.length + x1.length + y1.length = mid by omega, show p.length + x1.length = s by omega, ← ha] at this
  rw [hd1, hd2]; exact this
 have hn1 : ¬ (a < s ∧ s < mid) → d1 = d2 := fun c => by
  rw [hd1, hd2]
  by_cases c1 : a < s
  ·have : y1 = [] := nil_of (by omega)
   subst this
   rw [List.append_nil, List.append_nil, stab_fix sx1]
  ·have : x1 = [] := nil_of (by omega)
   subst this
   rw [List.append_nil, List.nil_append, stab_fix sy1]
 -- the part behind
 obtain ⟨d3, hd3⟩ : ∃ d3, d3 = (p ++ stab (x1 ++ y1)) ++ stab (x2 ++ y2) ++ z := ⟨_, rfl⟩
 have hr2 : mid < e → e < b → S.symRec_is d2 (mid : Nat) (e : Nat) (b : Nat) = true ∧ S.symRec_o d2 (mid : Nat) (e : Nat) (b : Nat) = d3 := fun c1 c2 => by
  have lp : (p ++ stab (x1 ++ y1)).length = mid := by simp only [List.length_append, lst]; omega
  have := hr (p ++ stab (x1 ++ y1)) x2 y2 z (by omega) (by omega) sx2 sy2 (by omega) (by rw [lp]; omega)
  rw [lp, show mid + x2.length + y2.length = b by omega, show mid + x2.length = e by omega] at this
  rw [hd2, hd3]
  have ee : p ++ stab (x1 ++ y1) ++ (x2 ++ y2 ++ z) = (p ++ stab (x1 ++ y1)) ++ x2 ++ y2 ++ z := by simp
  rw [ee]; exact this
 have hn2 : ¬ (mid < e ∧ e < b) → d2 = d3 := fun c => by
  rw [hd2, hd3]
  by_cases c1 : mid < e
  ·have : y2 = [] := nil_of (by omega)
   subst this
   rw [List.append_nil, stab_fix sx2]; simp
  ·have : x2 = [] := nil_of (by omega)
   subst this
   rw [List.nil_append, stab_fix sy2]; simp
 have hfin : p ++ stab (x ++ y) ++ z = d3 := by rw [hd3, ex, ey, ← hmg]; simp
 rw [hfin]
 have I1 : (((s : Nat) : Int) < (m : Nat)) = (s < m) := by simp
 have I2 : (((m : Nat) : Int) < (e : Nat)) = (m < e) := by simp
 have I3 : (((a : Nat) : Int) < (s : Nat)) = (a < s) := by simp
 have I4 : (((s : Nat) : Int) < (mid : Nat)) = (s < mid) := by simp
 have I5 : (((mid : Nat) : Int) < (e : Nat)) = (mid < e) := by simp
 have I6 : (((e : Nat) : Int) < (b : Nat)) = (e < b) := by simp
 unfold S.zxyf_c32 S.zxyf_c32_R
 dsimp only
 simp only [xwrap, w0]
 unfold S.zxyf_33_j S.zxyf_33_v
 rw [Lp_j_of l1, Lp_v_of l1]
 dsimp only
 simp only [w1]
 -- what stands behind the turn, for whatever row
 have key : ∀ (d : List Mat), d = d1 → ∀ (N : Nat), N = d1.length →
     (DT.br (xdec (((a : Nat) : Int) < (s : Nat))) (DT.br (xdec (((s : Nat) : Int) < (mid : Nat))) (DT.br (xdec (N = d.length) && S.symRec_is d (a : Nat) (s : Nat) (mid : Nat))
      (DT.br (xdec (((mid : Nat) : Int) < (e : Nat))) (DT.br (xdec (((e : Nat) : Int) < (b : Nat))) (DT.br (xdec (N = (S.symRec_o d (a : Nat) (s : Nat) (mid : Nat)).length) && S.symRec_is (S.symRec_o d (a : Nat) (s : Nat) (mid : Nat)) (mid : Nat) (e : Nat) (b : Nat)) (DT.leaf (⟨S.symRec_o (S.symRec_o d (a : Nat) (s : Nat) (mid : Nat)) (mid : Nat) (e : Nat) (b : Nat)⟩ : S.zxyf_c32_T)) DT.fail) (DT.leaf ⟨S.symRec_o d (a : Nat) (s : Nat) (mid : Nat)⟩)) (DT.leaf ⟨S.symRec_o d (a : Nat) (s : Nat) (mid : Nat)⟩)) DT.fail)
      (DT.br (xdec (((mid : Nat) : Int) < (e : Nat))) (DT.br (xdec (((e : Nat) : Int) < (b : Nat))) (DT.br (xdec (N = d.length) && S.symRec_is d (mid : Nat) (e : Nat) (b : Nat)) (DT.leaf ⟨S.symRec_o d (mid : Nat) (e : Nat) (b : Nat)⟩) DT.fail) (DT.leaf ⟨d⟩)) (DT.leaf ⟨d⟩)))
      (DT.br (xdec (((mid : Nat) : Int) < (e : Nat))) (DT.br (xdec (((e : Nat) : Int) < (b : Nat))) (DT.br (xdec (N = d.length) && S.symRec_is d (mid : Nat) (e : Nat) (b : Nat)) (DT.leaf ⟨S.symRec_o d (mid : Nat) (e : Nat) (b : Nat)⟩) DT.fail) (DT.leaf ⟨d⟩)) (DT.leaf ⟨d⟩))).run = some ⟨d3⟩ := by
  intro d hdd N hN
  subst hdd
  simp only [DT.run_br, DT.run_leaf, DT.run_fail, xdec, I3, I4, I5, I6, hN, decide_true, Bool.true_and]
  have part2 : (bif decide (mid < e) then bif decide (e < b) then bif S.symRec_is d2 (mid : Nat) (e : Nat) (b : Nat) then some (⟨S.symRec_o d2 (mid : Nat) (e : Nat) (b : Nat)⟩ : S.zxyf_c32_T) else none else some ⟨d2⟩ else some ⟨d2⟩) = some ⟨d3⟩ := by
   by_cases c1 : mid < e
   ·by_cases c2 : e < b
    ·obtain ⟨g1, g2⟩ := hr2 c1 c2
     rw [g1, g2]; simp only [c1, c2, decide_true, cond_true]
    ·have := hn2 (fun h => c2 h.2)
     simp only [c1, c2, decide_true, decide_false, cond_true, cond_false, this]
   ·have := hn2 (fun h => c1 h.1)
    simp only [c1, decide_false, cond_false, this]
  by_cases c1 : a < s
  ·by_cases c2 : s < mid
   ·obtain ⟨g1, g2⟩ := hr1 c1 c2
    rw [g1, g2]
    simp only [c1, c2, ld2, decide_true, cond_true, Bool.true_and]
    exact part2
   ·have e0 := hn1 (fun h => c2 h.2)
    simp only [c1, c2, decide_true, decide_false, cond_true, cond_false]
    rw [e0]; exact part2
  ·have e0 := hn1 (fun h => c1 h.1)
   simp only [c1, decide_false, cond_false]
   rw [e0]; exact part2
 rw [DT.run_br, beq_self_eq_true, cond_true, DT.run_br, DT.run_br]
 by_cases c1 : s < m
 ·by_cases c2 : m < e
  ·obtain ⟨g1, g2⟩ := hrot c1 c2
   rw [g1, g2, DT.run_br]
   simp only [xdec, I1, I2, c1, c2, decide_true, cond_true, Bool.and_self]
   exact key d1 rfl _ ld1
  ·simp only [xdec, I1, I2, c1, c2, decide_true, decide_false, cond_true, cond_false]
   have kk := key _ (hno fun h => c2 h.2) _ ld1
   simp only [xdec, decide_true, Bool.true_and] at kk ⊢
   exact kk
 ·simp only [xdec, I1, c1, decide_false, cond_false]
  have kk := key _ (hno fun h => c1 h.1) _ ld1
  simp only [xdec, decide_true, Bool.true_and] at kk ⊢
  exact kk
end Go.Eng
