/- What the ring functions come to, in plain words (turned from the other seat). -/
import Derived.Test.YtbjeikmkngcjlaaZG1
set_option linter.unusedVariables false
set_option linter.unusedSimpArgs false
namespace Go.Eng
open Go Go.Eng
abbrev MM := List (Ty .mat)
def rMay (a s : Int) (m : MM) : Bool := decide (0 ≤ a ∧ (m.length : Int) ≤ 6 ∧ a + m.length ≤ 1099511627776 ∧ a ≤ s ∧ s ≤ a + m.length)
theorem rMay_iff {a s : Int} {m : MM} : rMay a s m = true ↔ 0 ≤ a ∧ (m.length : Int) ≤ 6 ∧ a + m.length ≤ 1099511627776 ∧ a ≤ s ∧ s ≤ a + m.length := by simp [rMay]
theorem wrap_id {n : Int} (h1 : -9223372036854775808 ≤ n) (h2 : n ≤ 9223372036854775807) : IntKind.i64.wrap n = n := by rw [IntKind.wrap_i64]; omega
theorem p_last (a : Int) (m : MM) : S.ring_last a m = some ⟨IntKind.i64.wrap (a + m.length)⟩ := rfl
theorem p_last_o (a : Int) (m : MM) : (S.ring_last_o a m).x0 = IntKind.i64.wrap (a + m.length) := by unfold S.ring_last_o; rw [p_last]; simp
theorem p_May (a s : Int) (m : MM) : S.ring_May a s m = some ⟨rMay a s m⟩ := by
  unfold S.ring_May S.ring_May_R
  simp only [DT.run_br, DT.run_leaf, p_last_o, xdec, Bool.cond_eq_ite, decide_eq_true_eq]
  unfold rMay
  by_cases h1 : a ≥ 0
  · by_cases h2 : a ≤ 1099511627776
    · by_cases h3 : (m.length : Int) ≤ 6
      · have e := wrap_id (n := a + m.length) (by omega) (by omega)
        simp only [e, h1, h2, h3, if_true]
        by_cases h4 : a + (m.length : Int) ≤ 1099511627776
        · by_cases h5 : s ≥ a
          · simp [h4, h5, h1, h3]
          · have h5' : ¬ a ≤ s := h5
            simp [h4, h5']
        · simp [h4]
      · simp [h1, h2, h3]
    · have h4 : ¬ a + (m.length : Int) ≤ 1099511627776 := by omega
      simp [h1, h2, h4]
  · have h1' : ¬ 0 ≤ a := h1
    simp [h1']
theorem p_May_is (a s : Int) (m : MM) : S.ring_May_is a s m = true := by simp [S.ring_May_is, p_May]
theorem p_May_o (a s : Int) (m : MM) : (S.ring_May_o a s m).x0 = rMay a s m := by simp [S.ring_May_o, p_May]
def rWhy (a s : Int) (m : MM) (x : Int) : Int := if rMay a s m = true then (if x < a ∨ s < x then 9 else 0) else 1
theorem p_why (a s : Int) (m : MM) (x : Int) : S.ring_why a s m x = some ⟨rWhy a s m x⟩ := by
  unfold S.ring_why S.ring_why_R rWhy
  simp only [DT.run_br, DT.run_leaf, DT.run_fail, p_May_is, p_May_o, xdec, xnot, Bool.cond_eq_ite, decide_eq_true_eq, if_true, Bool.not_eq_true']
  cases rMay a s m with
  | false => simp
  | true =>
    by_cases h1 : x < a
    · simp [h1]
    · by_cases h2 : s < x
      · simp [h1, h2]
      · simp [h1, h2]
theorem p_why_is (a s : Int) (m : MM) (x : Int) : S.ring_why_is a s m x = true := by simp [S.ring_why_is, p_why]
theorem p_why_o (a s : Int) (m : MM) (x : Int) : (S.ring_why_o a s m x).x0 = rWhy a s m x := by simp [S.ring_why_o, p_why]
theorem sub_self {α : Type} (m : List α) : sub m 0 m.length = m := by simp [sub]
theorem sub_all {α : Type} (m : List α) (n : Nat) (h : m.length ≤ n) : sub m 0 n = m := by simp [sub, List.take_of_length_le h]
theorem p_own {a s : Int} {m : MM} {x : Int} (h0 : 0 ≤ x) (h1 : x ≤ m.length) (h2 : m.length ≤ 1048576) : S.ring_own a s m x = some ⟨m.drop x.toNat, a, s, (m.drop x.toNat).length⟩ := by
  unfold S.ring_own S.ring_own_R
  have e1 : sub m x.toNat (Int.ofNat m.length).toNat = m.drop x.toNat := by
    simp only [sub]
    exact List.take_of_length_le (by simp)
  have e3 : ((List.drop x.toNat m).length : Int) ≤ 1048576 := by simp; omega
  simp only [DT.run_br, DT.run_leaf, DT.run_fail, e1, xdec, xeqI]
  simp [h0, h1, e3, -List.length_drop]
theorem p_own_is {a s : Int} {m : MM} {x : Int} (h0 : 0 ≤ x) (h1 : x ≤ m.length) (h2 : m.length ≤ 1048576) : S.ring_own_is a s m x = true := by simp [S.ring_own_is, p_own h0 h1 h2]
theorem p_own_o {a s : Int} {m : MM} {x : Int} (h0 : 0 ≤ x) (h1 : x ≤ m.length) (h2 : m.length ≤ 1048576) : S.ring_own_o a s m x = ⟨m.drop x.toNat, a, s, (m.drop x.toNat).length⟩ := by simp [S.ring_own_o, p_own h0 h1 h2]
theorem rWhy_zero {a s : Int} {m : MM} {x : Int} : rWhy a s m x = 0 ↔ rMay a s m = true ∧ a ≤ x ∧ x ≤ s := by
  unfold rWhy
  by_cases h : rMay a s m = true
  · by_cases h1 : x < a ∨ s < x
    · rw [if_pos h, if_pos h1]
      constructor
      · intro h; cases h
      · intro h; omega
    · rw [if_pos h, if_neg h1]
      exact ⟨fun _ => ⟨h, by omega⟩, fun _ => rfl⟩
  · rw [if_neg h]
    exact ⟨(by intro h; cases h), fun h2 => absurd h2.1 h⟩
theorem p_Back (a s : Int) (m : MM) (x : Int) : S.ring_Back a s m x = some (if rWhy a s m x = 0 then ⟨a, x, m, 0⟩ else ⟨0, 0, [], rWhy a s m x⟩) := by
  unfold S.ring_Back S.ring_Back_R
  simp only [DT.run_br, DT.run_leaf, DT.run_fail, p_why_is, p_why_o, xneI, cond_true]
  by_cases h : rWhy a s m x = 0
  · have := rMay_iff.1 (rWhy_zero.1 h).1
    have h2 : m.length ≤ 1048576 := by omega
    simp [h, p_own_is (a := a) (s := s) (Int.le_refl 0) (Int.natCast_nonneg m.length) h2, p_own_o (a := a) (s := s) (Int.le_refl 0) (Int.natCast_nonneg m.length) h2, xdec, sub_self, -List.length_drop]
  · have hn : (rWhy a s m x != 0) = true := by simpa using h
    simp [h, hn]
theorem p_Ack (a s : Int) (m : MM) (x : Int) : S.ring_Ack a s m x = some (if rWhy a s m x = 0 then ⟨x, s, m.drop (x - a).toNat, 0⟩ else ⟨0, 0, [], rWhy a s m x⟩) := by
  unfold S.ring_Ack S.ring_Ack_R
  simp only [DT.run_br, DT.run_leaf, DT.run_fail, p_why_is, p_why_o, xneI, xwrap, cond_true]
  by_cases h : rWhy a s m x = 0
  · obtain ⟨h1, h2, h3⟩ := rWhy_zero.1 h
    have := rMay_iff.1 h1
    have e : IntKind.i64.wrap (x - a) = x - a := wrap_id (by omega) (by omega)
    have q0 : 0 ≤ x - a := by omega
    have q1 : x - a ≤ (m.length : Int) := by omega
    have q2 : m.length ≤ 1048576 := by omega
    have e2 : sub (List.drop (x - a).toNat m) 0 (0 + (List.drop (x - a).toNat m).length) = List.drop (x - a).toNat m := sub_all _ _ (by omega)
    simp [h, e, p_own_is (a := a) (s := s) q0 q1 q2, p_own_o (a := a) (s := s) q0 q1 q2, xdec, sub_self, -List.length_drop]
  · have hn : (rWhy a s m x != 0) = true := by simpa using h
    simp [h, hn]
theorem p_Next {a s : Int} {m : MM} (hl : m.length ≤ 1048576) : S.ring_Next a s m = some (if rMay a s m = true ∧ s ≠ a + m.length then ⟨a, s + 1, m, s + 1, (m.getD (s - a).toNat (dflt .mat)).start, (m.getD (s - a).toNat (dflt .mat)).fin, (m.getD (s - a).toNat (dflt .mat)).agg, (m.getD (s - a).toNat (dflt .mat)).bad, true⟩ else ⟨a, s, m, 0, 0, 0, 0, false, false⟩) := by
  unfold S.ring_Next S.ring_Next_R
  have e0 : sub m 0 (0 + m.length) = m := sub_all _ _ (by omega)
  simp only [DT.run_br, DT.run_leaf, DT.run_fail, p_own_is (a := a) (s := s) (Int.le_refl 0) (Int.natCast_nonneg m.length) hl, p_own_o (a := a) (s := s) (Int.le_refl 0) (Int.natCast_nonneg m.length) hl, cond_true, Int.toNat_zero, List.drop_zero, Nat.zero_add, e0, p_May_is, p_May_o, p_last_o, xnot, xdec, xeqI, xwrap, Nat.le_refl, decide_true]
  rw [sub_self]
  cases hm : rMay a s m with
  | false => simp
  | true =>
    have := rMay_iff.1 hm
    have e1 : IntKind.i64.wrap (a + m.length) = a + m.length := wrap_id (by omega) (by omega)
    have e2 : IntKind.i64.wrap (s + 1) = s + 1 := wrap_id (by omega) (by omega)
    have e3 : IntKind.i64.wrap (s + 1 - a) = s + 1 - a := wrap_id (by omega) (by omega)
    have e4 : IntKind.i64.wrap (s + 1 - a - 1) = s - a := by rw [wrap_id (by omega) (by omega)]; omega
    rw [e1, e2, e3, e4]
    by_cases hs : s = a + m.length
    · simp [← hs]
    · have q1 : 0 ≤ s - a := by omega
      have q2 : s - a < (m.length : Int) := by omega
      have q3 : a ≤ s := by omega
      have hb : (s == a + (m.length : Int)) = false := by simpa using hs
      simp [hs, hb, q2, q3]
theorem p_Add {a s : Int} {m : MM} {e1 e2 e3 : Int} {e4 : Bool} (hl : m.length ≤ 1048576) : S.ring_Add a s m e1 e2 e3 e4 = some (if rMay a s m = true ∧ (m.length : Int) ≠ 6 ∧ a + m.length ≠ 1099511627776 then ⟨a, s, m ++ [(⟨e1, e2, e3, e4⟩ : Mat)], true⟩ else ⟨a, s, m, false⟩) := by
  unfold S.ring_Add S.ring_Add_R
  have e0 : sub m 0 m.length = m := sub_all _ _ (by omega)
  simp only [DT.run_br, DT.run_leaf, DT.run_fail, p_own_is (a := a) (s := s) (Int.le_refl 0) (Int.natCast_nonneg m.length) hl, p_own_o (a := a) (s := s) (Int.le_refl 0) (Int.natCast_nonneg m.length) hl, cond_true, Int.toNat_zero, List.drop_zero, Nat.zero_add, e0, p_May_is, p_May_o, p_last_o, xnot, xdec, xeqI, xwrap, Nat.le_refl, decide_true]
  cases hm : rMay a s m with
  | false => simp
  | true =>
    have := rMay_iff.1 hm
    have q1 : IntKind.i64.wrap (a + m.length) = a + m.length := wrap_id (by omega) (by omega)
    rw [q1]
    by_cases h6 : (m.length : Int) = 6
    · simp [h6]
    · by_cases h7 : a + (m.length : Int) = 1099511627776
      · simp [h7]
      · have q2 : m.length + 1 ≤ 1048576 := by omega
        have q4 : m.length ≤ 1048575 := by omega
        have q3 : sub (m ++ [(⟨e1, e2, e3, e4⟩ : Mat)]) 0 (m.length + 1) = m ++ [(⟨e1, e2, e3, e4⟩ : Mat)] := sub_all _ _ (by simp)
        have b6 : ((m.length : Int) == 6) = false := by simpa using h6
        have b7 : (a + (m.length : Int) == 1099511627776) = false := by simpa using h7
        simp [h6, h7, b6, b7, q4, q3]
end Go.Eng
