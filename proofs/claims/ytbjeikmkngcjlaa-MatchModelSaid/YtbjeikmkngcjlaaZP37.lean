/- The stable sort of two blocks; all matches. -/
import Derived.Test.YtbjeikmkngcjlaaZP36
set_option maxHeartbeats 2000000
set_option linter.unusedVariables false
set_option linter.unusedSimpArgs false
namespace Go.Eng
open Go Go.Eng
theorem q_symMerge [SymRec] {k : Nat} (hr : RecOk k) (p x y z : List Mat) (sx : srt x) (sy : srt y) (hx : 0 < x.length) (hy : 0 < y.length) (hk : x.length + y.length ≤ 2 ^ (k + 1)) (hb : p.length + x.length + y.length + z.length ≤ 1000) :
    S.zxyf (p ++ x ++ y ++ z) (p.length : Nat) ((p.length + x.length : Nat) : Int) ((p.length + x.length + y.length : Nat) : Int) = some ⟨p ++ stab (x ++ y) ++ z⟩ := by
 have w1 : IntKind.i64.wrap (((p.length + x.length : Nat) : Int) - (p.length : Nat)) = ((x.length : Nat) : Int) := by rw [e_wrap (by omega) (by omega)]; omega
 have w2 : IntKind.i64.wrap (((p.length + x.length + y.length : Nat) : Int) - ((p.length + x.length : Nat) : Int)) = ((y.length : Nat) : Int) := by rw [e_wrap (by omega) (by omega)]; omega
 by_cases c1 : x.length = 1
 ·obtain ⟨a, rfl⟩ : ∃ a, x = [a] := by
    match x, c1 with
    | [a], _ => exact ⟨a, rfl⟩
  obtain ⟨s, r1, v, r2⟩ := merge_first p y z a sy (by simpa using hb)
  have ed : p ++ [a] ++ y ++ z = p ++ a :: (y ++ z) := by simp
  rw [ed]
  unfold S.zxyf S.zxyf_R
  dsimp only
  unfold S.zxyf_3_j S.zxyf_3_v S.zxyf_9_j S.zxyf_9_v
  have el : p.length + [a].length = p.length + 1 := rfl
  rw [el] at w1 ⊢
  rw [Lp_j_of r1, Lp_v_of r1]
  dsimp only
  rw [Lp_j_of r2, Lp_v_of r2]
  simp only [xwrap, w1, DT.run_br, DT.run_leaf, e_xeqI, beq_self_eq_true, cond_true]
  rfl
 by_cases c2 : y.length = 1
 ·obtain ⟨a, rfl⟩ : ∃ a, y = [a] := by
    match y, c2 with
    | [a], _ => exact ⟨a, rfl⟩
  obtain ⟨s, r1, v, r2⟩ := merge_behind p x z a sx (by simp at hb; omega)
  have ed : p ++ x ++ [a] ++ z = p ++ (x ++ a :: z) := by simp
  rw [ed]
  have z1 : ¬ (((x.length : Nat) : Int) = 1) := by omega
  unfold S.zxyf S.zxyf_R
  dsimp only
  unfold S.zxyf_15_j S.zxyf_15_v S.zxyf_21_j S.zxyf_21_v
  rw [Lp_j_of r1, Lp_v_of r1]
  dsimp only
  rw [Lp_j_of r2, Lp_v_of r2]
  simp only [xwrap, w1, w2, DT.run_br, DT.run_leaf, e_xeqI, z1, decide_false, cond_false, beq_self_eq_true, cond_true]
  rfl
 have z1 : ¬ (((x.length : Nat) : Int) = 1) := by omega
 have z2 : ¬ (((y.length : Nat) : Int) = 1) := by omega
 have hmid := e_half p.length (p.length + x.length + y.length) (by omega)
 obtain ⟨mid, hm⟩ : ∃ mid, mid = (p.length + (p.length + x.length + y.length)) / 2 := ⟨_, rfl⟩
 rw [← hm] at hmid
 have w3 : IntKind.i64.wrap (((mid : Nat) : Int) + ((p.length + x.length : Nat) : Int)) = ((mid + (p.length + x.length) : Nat) : Int) := by rw [e_wrap (by omega) (by omega)]; omega
 unfold S.zxyf S.zxyf_R
 dsimp only
 simp only [xwrap, w1, w2, hmid, w3, e_xeqI, z1, z2, xdec, decide_false, decide_true, DT.run_br, DT.run_leaf, DT.run_fail, cond_true, cond_false]
 by_cases c3 : p.length + x.length > mid
 ·have c3I : ((p.length + x.length : Nat) : Int) > ((mid : Nat) : Int) := by omega
  have w4 : IntKind.i64.wrap (((mid + (p.length + x.length) : Nat) : Int) - ((p.length + x.length + y.length : Nat) : Int)) = ((mid + (p.length + x.length) - (p.length + x.length + y.length) : Nat) : Int) := by rw [e_wrap (by omega) (by omega)]; omega
  have mm := merge_mid hr p x y z sx sy hx hy hk hb mid p.length (p.length + x.length) (p.length + x.length + y.length) (mid + (p.length + x.length) - (p.length + x.length + y.length)) mid rfl rfl rfl hm (.inl ⟨c3, rfl, rfl⟩)
  rw [w4]
  unfold S.zxyf_c32_is S.zxyf_c32_o
  rw [mm]
  simp only [c3I, decide_true, cond_true, Option.isSome_some, Option.getD_some]
 ·have c3I : ¬ ((p.length + x.length : Nat) : Int) > ((mid : Nat) : Int) := by omega
  have mm := merge_mid hr p x y z sx sy hx hy hk hb mid p.length (p.length + x.length) (p.length + x.length + y.length) p.length (p.length + x.length) rfl rfl rfl hm (.inr ⟨by omega, rfl, rfl⟩)
  unfold S.zxyf_c32_is S.zxyf_c32_o
  rw [mm]
  simp only [c3I, decide_false, cond_false, cond_true, Option.isSome_some, Option.getD_some]
theorem recOk : ∀ k, @RecOk (symS k) k
 | 0 => by
  intro p x y z hx hy _ _ hk _
  have : (2 : Nat) ^ 0 = 1 := rfl
  omega
 | k + 1 => by
  intro p x y z hx hy sx sy hk hb
  have h := @q_symMerge (symS k) k (recOk k) p x y z sx sy hx hy hk hb
  refine ⟨?_, ?_⟩
  ·show (@S.zxyf_is (symS k) _ _ _ _) = true
   unfold S.zxyf_is; rw [h]; rfl
  ·show (@S.zxyf_o (symS k) _ _ _ _).x0 = _
   unfold S.zxyf_o; rw [h]; rfl
theorem q_symFin (p x y z : List Mat) (sx : srt x) (sy : srt y) (hx : 0 < x.length) (hy : 0 < y.length) (hk : x.length + y.length ≤ 64) (hb : p.length + x.length + y.length + z.length ≤ 1000) :
    S.symFin_is (p ++ x ++ y ++ z) (p.length : Nat) ((p.length + x.length : Nat) : Int) ((p.length + x.length + y.length : Nat) : Int) = true ∧
    S.symFin_o (p ++ x ++ y ++ z) (p.length : Nat) ((p.length + x.length : Nat) : Int) ((p.length + x.length + y.length : Nat) : Int) = p ++ stab (x ++ y) ++ z :=
 recOk 6 p x y z hx hy sx sy hk hb
end Go.Eng
