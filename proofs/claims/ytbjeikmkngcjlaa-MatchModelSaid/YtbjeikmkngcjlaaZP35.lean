/- Merges put together. -/
import Derived.Test.YtbjeikmkngcjlaaZP34
set_option linter.unusedVariables false
set_option linter.unusedSimpArgs false
namespace Go.Eng
open Go Go.Eng
def RecOk [SymRec] (k : Nat) : Prop := ∀ p x y z : List Mat, 0 < x.length → 0 < y.length → srt x → srt y → x.length + y.length ≤ 2 ^ k → p.length + x.length + y.length + z.length ≤ 1000 →
 S.symRec_is (p ++ x ++ y ++ z) (p.length : Nat) ((p.length + x.length : Nat) : Int) ((p.length + x.length + y.length : Nat) : Int) = true ∧
 S.symRec_o (p ++ x ++ y ++ z) (p.length : Nat) ((p.length + x.length : Nat) : Int) ((p.length + x.length + y.length : Nat) : Int) = p ++ stab (x ++ y) ++ z
section
variable (p y z : List Mat) (a : Mat) (sy : srt y) (hb : p.length + 1 + y.length + z.length ≤ 1000)
include sy hb
theorem merge_first : ∃ s : Nat, Lp (S.zxyf_3_r (p ++ a :: (y ++ z)).length (p.length : Nat) (p ++ a :: (y ++ z))) ⟨((p.length + 1 : Nat) : Int), ((p.length + 1 + y.length : Nat) : Int)⟩ = some (0, ⟨(s : Nat), (s : Nat)⟩) ∧
    ∃ v, Lp (S.zxyf_9_r (p ++ a :: (y ++ z)).length (s : Nat)) ⟨(p.length : Nat), p ++ a :: (y ++ z)⟩ = some (0, ⟨v, p ++ stab (a :: y) ++ z⟩) := by
 have hL : (p ++ a :: (y ++ z)).length = p.length + 1 + y.length + z.length := by simp; omega
 obtain ⟨s, s1, s2, s3, s4, s5⟩ := sm3 (p ++ a :: (y ++ z)) (by omega) p.length (by omega) (p.length + 1) (p.length + 1 + y.length) (by omega) (by omega)
 have ga : (p ++ a :: (y ++ z)).getD p.length (dflt ET.mat) = a := getD_mid _ _ _ _
 have gy : ∀ k, k < y.length → (p ++ a :: (y ++ z)).getD (p.length + 1 + k) (dflt ET.mat) = y.getD k (dflt ET.mat) := fun k hk => by
  have e : p ++ a :: (y ++ z) = (p ++ [a]) ++ y ++ z := by simp
  have l : p.length + 1 + k = (p ++ [a]).length + k := by simp
  rw [e, l, getD_block _ _ _ _ hk]
 rw [ga] at s4 s5
 obtain ⟨n, rfl⟩ : ∃ n, s = p.length + 1 + n := ⟨s - (p.length + 1), by omega⟩
 have hn : n ≤ y.length := by omega
 refine ⟨_, s1, ((p.length + (y.take n).length : Nat) : Int), ?_⟩
 have lt : (y.take n).length = n := by simp; omega
 have m9 := sm9 p a (y.take n) (y.drop n ++ z) (p.length + 1 + y.length + z.length) (by simp; omega) hb
 rw [lt] at m9
 have e0 : p ++ a :: (y.take n ++ (y.drop n ++ z)) = p ++ a :: (y ++ z) := by rw [← List.append_assoc (y.take n), List.take_append_drop]
 rw [e0] at m9
 rw [hL, lt, m9]
 have hm := merge_one a (y.take n) (y.drop n) (by rw [List.take_append_drop]; exact sy) (fun q hq => ?_) (fun q hq => ?_)
 ·rw [List.take_append_drop] at hm
  rw [← hm]
  simp only [List.append_assoc, List.cons_append]
 ·obtain ⟨c1, c2⟩ := srt_take sy hn hq (dflt ET.mat)
  have := s4 (by omega)
  rw [show p.length + 1 + n - 1 = p.length + 1 + (n - 1) by omega, gy (n - 1) (by omega)] at this
  omega
 ·obtain ⟨c1, c2⟩ := srt_drop sy hq (dflt ET.mat)
  have := s5 (by omega)
  rw [gy n c1] at this
  omega
theorem merge_behind : ∃ s : Nat, Lp (S.zxyf_15_r (p ++ (y ++ a :: z)).length ((p.length + y.length : Nat) : Int) (p ++ (y ++ a :: z))) ⟨(p.length : Nat), ((p.length + y.length : Nat) : Int)⟩ = some (0, ⟨(s : Nat), (s : Nat)⟩) ∧
    ∃ v, Lp (S.zxyf_21_r (p ++ (y ++ a :: z)).length (s : Nat)) ⟨((p.length + y.length : Nat) : Int), p ++ (y ++ a :: z)⟩ = some (0, ⟨v, p ++ stab (y ++ [a]) ++ z⟩) := by
 have hL : (p ++ (y ++ a :: z)).length = p.length + 1 + y.length + z.length := by simp; omega
 obtain ⟨s, s1, s2, s3, s4, s5⟩ := sm15 (p ++ (y ++ a :: z)) (by omega) (p.length + y.length) (by omega) p.length (p.length + y.length) (by omega) (by omega)
 have ga : (p ++ (y ++ a :: z)).getD (p.length + y.length) (dflt ET.mat) = a := by
  have e : p ++ (y ++ a :: z) = (p ++ y) ++ a :: z := by simp
  have l : p.length + y.length = (p ++ y).length := by simp
  rw [e, l, getD_mid]
 have gy : ∀ k, k < y.length → (p ++ (y ++ a :: z)).getD (p.length + k) (dflt ET.mat) = y.getD k (dflt ET.mat) := fun k hk => by
  rw [← List.append_assoc, getD_block _ _ _ _ hk]
 rw [ga] at s4 s5
 obtain ⟨n, rfl⟩ : ∃ n, s = p.length + n := ⟨s - p.length, by omega⟩
 have hn : n ≤ y.length := by omega
 refine ⟨_, s1, ((p ++ y.take n).length : Nat), ?_⟩
 have lt : (p ++ y.take n).length = p.length + n := by simp; omega
 have ld : (y.drop n).length = y.length - n := by simp
 have m21 := sm21 (p ++ y.take n) a (y.drop n) z (p.length + 1 + y.length + z.length) (by omega) hb
 have e0 : (p ++ y.take n) ++ (y.drop n ++ a :: z) = p ++ (y ++ a :: z) := by rw [List.append_assoc, ← List.append_assoc (y.take n), List.take_append_drop]
 have e1 : (p ++ y.take n).length + (y.drop n).length = p.length + y.length := by omega
 rw [e0, e1, lt] at m21
 rw [hL, lt, m21]
 have hm := merge_last a (y.take n) (y.drop n) (by rw [List.take_append_drop]; exact sy) (fun q hq => ?_) (fun q hq => ?_)
 ·rw [List.take_append_drop] at hm
  rw [← hm]
  simp only [List.append_assoc, List.cons_append]
 ·obtain ⟨c1, c2⟩ := srt_take sy hn hq (dflt ET.mat)
  have := s4 (by omega)
  rw [show p.length + n - 1 = p.length + (n - 1) by omega, gy (n - 1) (by omega)] at this
  omega
 ·obtain ⟨c1, c2⟩ := srt_drop sy hq (dflt ET.mat)
  have := s5 (by omega)
  rw [gy n c1] at this
  omega
end
end Go.Eng
