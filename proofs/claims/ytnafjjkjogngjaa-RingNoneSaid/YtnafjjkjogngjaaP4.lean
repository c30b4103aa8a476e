/- Ring's laws, in plain words: each comes to true. -/
import Derived.Test.YtnafjjkjogngjaaP3
import Derived.Test.YtnafjjkjogngjaaG3
set_option linter.unusedVariables false
set_option linter.unusedSimpArgs false
namespace Go.Eng
open Go Go.Eng
theorem p_Back_is (a s : Int) (m : MM) (x : Int) : S.ring_Back_is a s m x = true := by simp [S.ring_Back_is, p_Back]
theorem p_Back_o (a s : Int) (m : MM) (x : Int) : S.ring_Back_o a s m x = if rWhy a s m x = 0 then ⟨a, x, m, 0⟩ else ⟨0, 0, [], rWhy a s m x⟩ := by simp [S.ring_Back_o, p_Back]
theorem p_Ack_is (a s : Int) (m : MM) (x : Int) : S.ring_Ack_is a s m x = true := by simp [S.ring_Ack_is, p_Ack]
theorem p_Ack_o (a s : Int) (m : MM) (x : Int) : S.ring_Ack_o a s m x = if rWhy a s m x = 0 then ⟨x, s, m.drop (x - a).toNat, 0⟩ else ⟨0, 0, [], rWhy a s m x⟩ := by simp [S.ring_Ack_o, p_Ack]
theorem p_Next_is {a s : Int} {m : MM} (hl : m.length ≤ 1048576) : S.ring_Next_is a s m = true := by simp [S.ring_Next_is, p_Next hl]
theorem p_Next_o {a s : Int} {m : MM} (hl : m.length ≤ 1048576) : S.ring_Next_o a s m = if rMay a s m = true ∧ s ≠ a + m.length then ⟨a, s + 1, m, s + 1, (m.getD (s - a).toNat (dflt .mat)).start, (m.getD (s - a).toNat (dflt .mat)).fin, (m.getD (s - a).toNat (dflt .mat)).agg, (m.getD (s - a).toNat (dflt .mat)).bad, true⟩ else ⟨a, s, m, 0, 0, 0, 0, false, false⟩ := by simp [S.ring_Next_o, p_Next hl]
theorem p_Add_is {a s : Int} {m : MM} {e1 e2 e3 : Int} {e4 : Bool} (hl : m.length ≤ 1048576) : S.ring_Add_is a s m e1 e2 e3 e4 = true := by simp [S.ring_Add_is, p_Add hl]
theorem p_Add_o {a s : Int} {m : MM} {e1 e2 e3 : Int} {e4 : Bool} (hl : m.length ≤ 1048576) : S.ring_Add_o a s m e1 e2 e3 e4 = if rMay a s m = true ∧ (m.length : Int) ≠ 6 ∧ a + m.length ≠ 1099511627776 then ⟨a, s, m ++ [(⟨e1, e2, e3, e4⟩ : Mat)], true⟩ else ⟨a, s, m, false⟩ := by simp [S.ring_Add_o, p_Add hl]

theorem p_awake14 : S.law14_awake = some ⟨true⟩ := by
  unfold S.law14_awake S.law14_awake_R
  have a1 : S.ring_Add_is 0 0 [] 0 5 0 false = true := p_Add_is (by decide)
  have o1 : S.ring_Add_o 0 0 [] 0 5 0 false = ⟨0, 0, [(⟨0, 5, 0, false⟩ : Mat)], true⟩ := by rw [p_Add_o (by decide)]; rfl
  have a2 : S.ring_Add_is 0 0 [(⟨0, 5, 0, false⟩ : Mat)] 0 6 0 false = true := p_Add_is (by decide)
  have o2 : S.ring_Add_o 0 0 [(⟨0, 5, 0, false⟩ : Mat)] 0 6 0 false = ⟨0, 0, [(⟨0, 5, 0, false⟩ : Mat), (⟨0, 6, 0, false⟩ : Mat)], true⟩ := by rw [p_Add_o (by decide)]; rfl
  have a3 : S.ring_Next_is 0 0 [(⟨0, 5, 0, false⟩ : Mat), (⟨0, 6, 0, false⟩ : Mat)] = true := p_Next_is (by decide)
  have o3 : S.ring_Next_o 0 0 [(⟨0, 5, 0, false⟩ : Mat), (⟨0, 6, 0, false⟩ : Mat)] = ⟨0, 1, [(⟨0, 5, 0, false⟩ : Mat), (⟨0, 6, 0, false⟩ : Mat)], 1, 0, 5, 0, false, true⟩ := by rw [p_Next_o (by decide)]; rfl
  have o4 : S.ring_Ack_o 0 1 [(⟨0, 5, 0, false⟩ : Mat), (⟨0, 6, 0, false⟩ : Mat)] 1 = ⟨1, 1, [(⟨0, 6, 0, false⟩ : Mat)], 0⟩ := by rw [p_Ack_o]; rfl
  have a5 : S.ring_Next_is 1 1 [(⟨0, 6, 0, false⟩ : Mat)] = true := p_Next_is (by decide)
  have o5 : S.ring_Next_o 1 1 [(⟨0, 6, 0, false⟩ : Mat)] = ⟨1, 2, [(⟨0, 6, 0, false⟩ : Mat)], 2, 0, 6, 0, false, true⟩ := by rw [p_Next_o (by decide)]; rfl
  have o6 : S.ring_Back_o 1 2 [(⟨0, 6, 0, false⟩ : Mat)] 0 = ⟨0, 0, [], 9⟩ := by rw [p_Back_o]; rfl
  have o7 : rMay 1 2 [(⟨0, 6, 0, false⟩ : Mat)] = true := by decide
  simp only [a1, o1, a2, o2, a3, o3, p_Ack_is, o4, a5, o5, p_Back_is, o6, p_May_is, p_May_o, o7, DT.run_br, DT.run_leaf, cond_true, xeqI_dec]
  rfl
theorem p_awake14_is : S.law14_awake_is = true := by simp [S.law14_awake_is, p_awake14]
theorem p_awake14_o : S.law14_awake_o = ⟨true⟩ := by simp [S.law14_awake_o, p_awake14]

theorem drop_len (m : MM) (k : Nat) : ((m.drop k).length : Int) = ((m.length - k : Nat) : Int) := by simp

theorem law_RingRoom (a s : Int) (m : MM) (e1 e2 e3 : Int) (e4 : Bool) : S.law14_RingRoom a s m e1 e2 e3 e4 = some ⟨true⟩ := by
  unfold S.law14_RingRoom S.law14_RingRoom_R
  simp only [DT.run_br, DT.run_leaf, DT.run_fail, p_awake14_is, p_awake14_o, p_May_is, p_May_o, xnot, cond_true, cond_false, Bool.not_true]
  cases hm : rMay a s m with
  | false => rfl
  | true =>
    have h := rMay_iff.1 hm
    have hl : m.length ≤ 1048576 := by omega
    have w : IntKind.i64.wrap (a + m.length) = a + m.length := wrap_id (by omega) (by omega)
    have w2 : IntKind.i64.wrap ((m.length : Int) + 1) = m.length + 1 := wrap_id (by omega) (by omega)
    simp only [p_Add_is hl, p_Add_o hl, hm, Bool.not_true, cond_true, cond_false]
    by_cases hc : (m.length : Int) ≠ 6 ∧ a + (m.length : Int) ≠ 1099511627776
    · have hm2 : rMay a s (m ++ [(⟨e1, e2, e3, e4⟩ : Mat)]) = true := by
        rw [rMay_iff]; simp; omega
      have h7 : m.length ≤ 5 := by omega
      rw [if_pos ⟨trivial, hc⟩]
      have e6 : (m ++ [(⟨e1, e2, e3, e4⟩ : Mat)]).length = m.length + 1 := by simp
      have e7 : (m ++ [(⟨e1, e2, e3, e4⟩ : Mat)]).getD m.length (dflt .mat) = (⟨e1, e2, e3, e4⟩ : Mat) := by simp
      simp only [Bool.not_true, cond_false, p_May_is, p_May_o, hm2, cond_true, xeqI_dec, xeqB_dec, xwrap, w2, e6, e7, Int.toNat_natCast, Bool.cond_decide, decide_true, Bool.and_self, if_true]
      have c1 : (0 : Int) ≤ (m.length : Int) := by omega
      have c2 : (m.length : Int) < ((m.length + 1 : Nat) : Int) := by omega
      have c3 : ((m.length + 1 : Nat) : Int) ≤ 6 := by omega
      have c4 : ((m.length + 1 : Nat) : Int) = (m.length : Int) + 1 := by omega
      rw [if_pos c4]
      simp only [xdec, c1, c2, c3, decide_true, Bool.and_self, cond_true]
    · rw [if_neg (by simpa using hc)]
      have h8 : (m.length : Int) = 6 ∨ a + (m.length : Int) = 1099511627776 := by omega
      simp only [Bool.not_false, cond_true, p_Same_is hl, p_Same_o hl, xeqI_dec, xwrap, w, Bool.cond_decide]
      rcases h8 with h8 | h8
      · simp [h8]
      · by_cases h9 : (m.length : Int) = 6
        · simp [h9]
        · simp [h8, h9]
theorem law_RingNone (a s : Int) (m : MM) (e1 e2 e3 : Int) (e4 : Bool) (q : Int) : S.law14_RingNone a s m e1 e2 e3 e4 q = some ⟨true⟩ := by
  unfold S.law14_RingNone S.law14_RingNone_R
  simp only [DT.run_br, DT.run_leaf, DT.run_fail, p_awake14_is, p_awake14_o, p_May_is, p_May_o, xnot, xdec, cond_true, cond_false, Bool.not_true, Bool.cond_decide]
  by_cases h20 : (m.length : Int) > 20
  · simp [h20]
  · simp only [h20, if_false]
    have hl : m.length ≤ 1048576 := by omega
    cases hm : rMay a s m with
    | true => rfl
    | false =>
      have hw : rWhy a s m q = 1 := by simp [rWhy, hm]
      simp [p_Add_is hl, p_Add_o hl, p_Next_is hl, p_Next_o hl, p_Ack_is, p_Ack_o, p_Back_is, p_Back_o, hm, hw, p_Same_is hl, p_Same_o hl, xeqI_dec]
theorem law_RingBack (a s : Int) (m : MM) (q : Int) : S.law14_RingBack a s m q = some ⟨true⟩ := by
  unfold S.law14_RingBack S.law14_RingBack_R
  simp only [DT.run_br, DT.run_leaf, DT.run_fail, p_awake14_is, p_awake14_o, p_May_is, p_May_o, xnot, xdec, cond_true, cond_false, Bool.not_true, Bool.cond_decide]
  cases hm : rMay a s m with
  | false => rfl
  | true =>
    have h := rMay_iff.1 hm
    by_cases c1 : q < a
    · simp [c1]
    · by_cases c2 : q > s
      · simp [c1, c2]
      · have hw : rWhy a s m q = 0 := rWhy_zero.2 ⟨hm, by omega, by omega⟩
        have hm2 : rMay a q m = true := rMay_iff.2 (by omega)
        have hw2 : rWhy a q m q = 0 := rWhy_zero.2 ⟨hm2, by omega, by omega⟩
        have hm3 : rMay q s (m.drop (q - a).toNat) = true := rMay_iff.2 (by rw [drop_len]; omega)
        have hw3 : rWhy q s (m.drop (q - a).toNat) q = 0 := rWhy_zero.2 ⟨hm3, by omega, by omega⟩
        have hl : (m.drop (q - a).toNat).length ≤ 1048576 := by simp; omega
        have w1 : IntKind.i64.wrap (a + m.length) = a + m.length := wrap_id (by omega) (by omega)
        have w2 : IntKind.i64.wrap (a + m.length - q) = a + m.length - q := wrap_id (by omega) (by omega)
        simp only [c1, c2, if_false, p_Back_is, p_Back_o, p_Ack_is, p_Ack_o, hw, hw2, hw3, if_true, p_Same_is hl, p_Same_o hl, xeqI_dec, xwrap, w1, w2, cond_true, cond_false, Bool.not_true, decide_true, and_self, Bool.cond_decide]
        rw [drop_len]
        congr 2
        simp only [decide_eq_true_eq]
        omega
theorem law_RingTells (a s : Int) (m : MM) (a' s' : Int) (m' : MM) (e1 e2 e3 : Int) (e4 : Bool) (q : Int) : S.law14_RingTells a s m a' s' m' e1 e2 e3 e4 q = some ⟨true⟩ := by
  unfold S.law14_RingTells S.law14_RingTells_R
  simp only [DT.run_br, DT.run_leaf, DT.run_fail, p_awake14_is, p_awake14_o, xnot, xdec, cond_true, cond_false, Bool.not_true, Bool.cond_decide]
  by_cases h20 : (m.length : Int) > 20
  · simp [h20]
  · by_cases h21 : (m'.length : Int) > 20
    · simp [h21]
    · simp only [h20, h21, if_false]
      have hl : m.length ≤ 1048576 := by omega
      have hd : ∀ k, (m.drop k).length ≤ 1048576 := fun k => by simp; omega
      have hd : (m.drop (q - a).toNat).length ≤ 1048576 := by simp; omega
      have hp : (m ++ [(⟨e1, e2, e3, e4⟩ : Mat)]).length ≤ 1048576 := by simp; omega
      have hn : ([] : MM).length ≤ 1048576 := by simp
      have i1 : S.ref14_Add_is a s m e1 e2 e3 e4 = true := by simp [S.ref14_Add_is, q_Add hl]
      have i2 : S.ref14_Next_is a s m = true := by simp [S.ref14_Next_is, q_Next]
      have i3 : S.ref14_Ack_is a s m q = true := by simp [S.ref14_Ack_is, q_Ack]
      have i4 : S.ref14_Back_is a s m q = true := by simp [S.ref14_Back_is, q_Back]
      have k1 : S.ref14_Add_o a s m e1 e2 e3 e4 = ⟨(S.ring_Add_o a s m e1 e2 e3 e4).x0, (S.ring_Add_o a s m e1 e2 e3 e4).x1, (S.ring_Add_o a s m e1 e2 e3 e4).x2, (S.ring_Add_o a s m e1 e2 e3 e4).x3⟩ := by
        unfold S.ref14_Add_o
        rw [q_Add hl, p_Add_o hl]
        split <;> rfl
      have k2 : S.ref14_Next_o a s m = ⟨(S.ring_Next_o a s m).x0, (S.ring_Next_o a s m).x1, (S.ring_Next_o a s m).x2, (S.ring_Next_o a s m).x3, (S.ring_Next_o a s m).x4, (S.ring_Next_o a s m).x5, (S.ring_Next_o a s m).x6, (S.ring_Next_o a s m).x7, (S.ring_Next_o a s m).x8⟩ := by
        unfold S.ref14_Next_o
        rw [q_Next, p_Next_o hl]
        split <;> rfl
      have k3 : S.ref14_Ack_o a s m q = ⟨(S.ring_Ack_o a s m q).x0, (S.ring_Ack_o a s m q).x1, (S.ring_Ack_o a s m q).x2, (S.ring_Ack_o a s m q).x3⟩ := by
        unfold S.ref14_Ack_o
        rw [q_Ack, p_Ack_o]
        split <;> rfl
      have k4 : S.ref14_Back_o a s m q = ⟨(S.ring_Back_o a s m q).x0, (S.ring_Back_o a s m q).x1, (S.ring_Back_o a s m q).x2, (S.ring_Back_o a s m q).x3⟩ := by
        unfold S.ref14_Back_o
        rw [q_Back, p_Back_o]
        split <;> rfl
      have b1 : (S.ring_Add_o a s m e1 e2 e3 e4).x2.length ≤ 1048576 := by rw [p_Add_o hl]; split <;> assumption
      have b2 : (S.ring_Next_o a s m).x2.length ≤ 1048576 := by rw [p_Next_o hl]; split <;> assumption
      have b3 : (S.ring_Ack_o a s m q).x2.length ≤ 1048576 := by rw [p_Ack_o]; split <;> assumption
      have b4 : (S.ring_Back_o a s m q).x2.length ≤ 1048576 := by rw [p_Back_o]; split <;> assumption
      simp only [p_Add_is hl, p_Next_is hl, p_Ack_is, p_Back_is, i1, i2, i3, i4, k1, k2, k3, k4, q_Same_is b1, q_Same_is b2, q_Same_is b3, q_Same_is b4, q_Same_o b1, q_Same_o b2, q_Same_o b3, q_Same_o b4, q_Same_is hl, q_Same_o hl, q_May_is, q_May_o, p_May_is, p_May_o, p_Same_is hl, p_Same_o hl, and_self, decide_true, cond_true, xeqI_dec, xeqB_dec, beq_self_eq_true, Bool.and_self]
/-- an element more -/
theorem law_RingSends (a s : Int) (m : MM) : S.law14_RingSends a s m = some ⟨true⟩ := by
  unfold S.law14_RingSends S.law14_RingSends_R
  simp only [DT.run_br, DT.run_leaf, DT.run_fail, p_awake14_is, p_awake14_o, p_May_is, p_May_o, xnot, xdec, cond_true, cond_false, Bool.not_true, Bool.cond_decide]
  cases hm : rMay a s m with
  | false => rfl
  | true =>
    have h := rMay_iff.1 hm
    have hl : m.length ≤ 1048576 := by omega
    have hw : rWhy a s m a = 0 := rWhy_zero.2 ⟨hm, by omega, by omega⟩
    have key : ∀ (k i : Nat), i + k = m.length → ∃ v : S.law14_RingSends_8_V, v.h_18_0 = a ∧ v.h_18_1 = a + m.length ∧ v.h_18_2 = m ∧ Lp (S.law14_RingSends_8_r a m) ⟨i, a, a + i, m⟩ = some (1, v) := by
      intro k
      induction k with
      | zero =>
        intro i hi
        have c : ¬ ((i : Int) < (m.length : Int)) := by omega
        refine ⟨⟨i, a, a + i, m⟩, rfl, by dsimp only; omega, rfl, Lp_exit ?_⟩
        simp only [S.law14_RingSends_8_r, S.law14_RingSends_8_R, DT.run_br, DT.run_leaf, xdec, c, decide_false, cond_false]
      | succ k ih =>
        intro i hi
        obtain ⟨v, v1, v2, v3, hv⟩ := ih (i + 1) (by omega)
        refine ⟨v, v1, v2, v3, ?_⟩
        rw [← hv]
        refine Lp_cont ?_
        have c1 : (i : Int) < (m.length : Int) := by omega
        have c0 : (0 : Int) ≤ (i : Int) := by omega
        have hm2 : rMay a (a + i) m = true := rMay_iff.2 (by omega)
        have hm3 : rMay a (a + i + 1) m = true := rMay_iff.2 (by omega)
        have hs : a + (i : Int) ≠ a + m.length := by omega
        have w1 : IntKind.i64.wrap ((i : Int) + 1) = i + 1 := wrap_id (by omega) (by omega)
        have w2 : IntKind.i64.wrap (a + (i : Int)) = a + i := wrap_id (by omega) (by omega)
        have w3 : IntKind.i64.wrap (a + (i : Int) + 1) = a + i + 1 := wrap_id (by omega) (by omega)
        have t1 : (a + (i : Int) - a).toNat = i := by omega
        have o : S.ring_Next_o a (a + i) m = ⟨a, a + i + 1, m, a + i + 1, (m.getD i (dflt .mat)).start, (m.getD i (dflt .mat)).fin, (m.getD i (dflt .mat)).agg, (m.getD i (dflt .mat)).bad, true⟩ := by
          rw [p_Next_o hl, if_pos ⟨hm2, hs⟩, t1]
        simp only [S.law14_RingSends_8_r, S.law14_RingSends_8_R, DT.run_br, DT.run_leaf, DT.run_fail, xdec, xnot, xneI_dec, xeqI_dec, xeqB_dec, xwrap, c1, c0, p_Next_is hl, o, w1, w2, w3, Int.toNat_natCast, p_May_is, p_May_o, hm3, decide_true, cond_true, cond_false, Bool.not_true, Bool.and_self, ne_eq, not_true_eq_false, decide_false]
        have e5 : ((i + 1 : Nat) : Int) = (i : Int) + 1 := by omega
        have e6 : a + ((i : Int) + 1) = a + i + 1 := by omega
        rw [e5, e6]
    obtain ⟨v, v1, v2, v3, hv⟩ := key m.length 0 (by omega)
    have hv' : Lp (S.law14_RingSends_8_r a m) ⟨0, a, a, m⟩ = some (1, v) := by simpa using hv
    have j0 : ∀ j, S.law14_RingSends_8_j a m ⟨0, a, a, m⟩ j = (1 == j) := fun j => Lp_j_of hv' j
    have jv : S.law14_RingSends_8_v a m ⟨0, a, a, m⟩ = v := Lp_v_of hv'
    have w : IntKind.i64.wrap (a + m.length) = a + m.length := wrap_id (by omega) (by omega)
    have o : S.ring_Next_o a (a + m.length) m = ⟨a, a + m.length, m, 0, 0, 0, 0, false, false⟩ := by
      rw [p_Next_o hl, if_neg (by simp)]
    simp only [p_Back_is, p_Back_o, hw, if_true, j0, jv, v1, v2, v3, p_Next_is hl, o, xwrap, w, xeqI_dec, xneI_dec, Bool.not_true, Bool.not_false, cond_true, cond_false, decide_true, ne_eq, not_true_eq_false, decide_false]
    rfl
theorem law_RingAcks (a s : Int) (m : MM) (q : Int) (wq : wfI q) : S.law14_RingAcks a s m q = some ⟨true⟩ := by
  unfold S.law14_RingAcks S.law14_RingAcks_R
  simp only [DT.run_br, DT.run_leaf, DT.run_fail, p_awake14_is, p_awake14_o, p_May_is, p_May_o, xnot, xdec, cond_true, cond_false, Bool.not_true, Bool.cond_decide, p_Ack_is]
  cases hm : rMay a s m with
  | false => rfl
  | true =>
    have h := rMay_iff.1 hm
    by_cases hc : a ≤ q ∧ q ≤ s
    · have hw : rWhy a s m q = 0 := rWhy_zero.2 ⟨hm, hc.1, hc.2⟩
      have hd := drop_len m (q - a).toNat
      have hm3 : rMay q s (m.drop (q - a).toNat) = true := rMay_iff.2 (by rw [hd]; omega)
      have hw3 : rWhy q s (m.drop (q - a).toNat) q = 0 := rWhy_zero.2 ⟨hm3, by omega, by omega⟩
      have w8 : IntKind.i64.wrap (q - 1) = q - 1 := wrap_id (by omega) (by omega)
      have w9 : IntKind.i64.wrap (s + 1) = s + 1 := wrap_id (by omega) (by omega)
      have hw4 : rWhy q s (m.drop (q - a).toNat) (q - 1) = 9 := by unfold rWhy; rw [if_pos hm3, if_pos (by omega)]
      have hw5 : rWhy q s (m.drop (q - a).toNat) (s + 1) = 9 := by unfold rWhy; rw [if_pos hm3, if_pos (by omega)]
      have w1 : IntKind.i64.wrap (a + m.length) = a + m.length := wrap_id (by omega) (by omega)
      have w2 : IntKind.i64.wrap (q + ((m.drop (q - a).toNat).length : Int)) = a + m.length := by rw [wrap_id (by omega) (by omega), hd]; omega
      have hl : (m.drop (q - a).toNat).length ≤ 1048576 := by simp; omega
      generalize hD : m.drop (q - a).toNat = d at *
      have hk : d.length = m.length - (q - a).toNat := by rw [← hD]; simp
      have key : ∀ (k i : Nat), i + k = d.length → ∃ v : S.law14_RingAcks_10_V, Lp (S.law14_RingAcks_10_r m d) ⟨i⟩ = some (1, v) := by
        intro k
        induction k with
        | zero =>
          intro i hi
          have c : ¬ ((i : Int) < (d.length : Int)) := by omega
          refine ⟨⟨i⟩, Lp_exit ?_⟩
          simp only [S.law14_RingAcks_10_r, S.law14_RingAcks_10_R, DT.run_br, DT.run_leaf, xdec, c, decide_false, cond_false]
        | succ k ih =>
          intro i hi
          obtain ⟨v, hv⟩ := ih (i + 1) (by omega)
          refine ⟨v, ?_⟩
          rw [← hv]
          refine Lp_cont ?_
          have c1 : (i : Int) < (d.length : Int) := by omega
          have c0 : (0 : Int) ≤ (i : Int) := by omega
          have x1 : IntKind.i64.wrap ((i : Int) + 1) = ((i + 1 : Nat) : Int) := by rw [wrap_id (by omega) (by omega)]; omega
          have x2 : IntKind.i64.wrap ((m.length : Int) - d.length) = m.length - d.length := wrap_id (by omega) (by omega)
          have x3 : IntKind.i64.wrap ((m.length : Int) - d.length + i) = m.length - d.length + i := wrap_id (by omega) (by omega)
          have x4 : ((m.length : Int) - d.length + i).toNat = (q - a).toNat + i := by omega
          have c2 : (0 : Int) ≤ (m.length : Int) - d.length + i := by omega
          have c3 : (m.length : Int) - d.length + i < m.length := by omega
          have e1 : d.getD i (dflt .mat) = m.getD ((q - a).toNat + i) (dflt .mat) := by
            rw [← hD, List.getD_eq_getElem?_getD, List.getElem?_drop, List.getD_eq_getElem?_getD]
          simp only [S.law14_RingAcks_10_r, S.law14_RingAcks_10_R, DT.run_br, DT.run_leaf, DT.run_fail, xdec, xwrap, x1, x2, x3, x4, c1, c0, c2, c3, Int.toNat_natCast, e1, matNe, decide_true, Bool.not_true, cond_true, cond_false, Bool.and_self]
      obtain ⟨v, hv⟩ := key d.length 0 (by omega)
      have hv' : Lp (S.law14_RingAcks_10_r m d) ⟨0⟩ = some (1, v) := by simpa using hv
      have j0 : ∀ j, S.law14_RingAcks_10_j m d ⟨0⟩ j = (1 == j) := fun j => Lp_j_of hv' j
      have d0 : d.drop (q - q).toNat = d := by simp
      simp only [p_Ack_o, hw, hm, hD, hm3, hw3, hw4, hw5, w8, w9, w1, w2, j0, d0, if_true, xwrap, xeqI_dec, xneI_dec, p_Same_is hl, p_Same_o hl, Bool.not_true, cond_true, cond_false, decide_true, ne_eq, not_true_eq_false, decide_false, and_self, Bool.cond_decide]
      rfl
    · have hw : rWhy a s m q = 9 := by unfold rWhy; rw [if_pos hm, if_pos (by omega)]
      simp only [p_Ack_o, hw, xeqI_dec, xneI_dec, Bool.not_true, cond_false]
      by_cases c1 : q < a
      · simp [c1]
      · have c2 : q > s := by omega
        simp [c1, c2]
theorem law_RingFills (a : MM) : S.law14_RingFills a = some ⟨true⟩ := by
  unfold S.law14_RingFills S.law14_RingFills_R
  simp only [DT.run_br, DT.run_leaf, DT.run_fail, p_awake14_is, p_awake14_o, xnot, xdec, cond_true, cond_false, Bool.not_true, Bool.cond_decide]
  by_cases h40 : (a.length : Int) > 40
  · simp [h40]
  · simp only [h40, if_false]
    have key : ∀ (k i : Nat) (n1 : Option Bool) (f1 : Bool) (g : MM) (n2 : Option Bool) (f2 : Bool), i + k = a.length → g.length = min i 6 →
        ∃ v : S.law14_RingFills_7_V, v.h_11_1 = 0 ∧ v.h_11_2.length ≤ 6 ∧ v.h_14_0 = a.length ∧ Lp (S.law14_RingFills_7_r a) ⟨i, 0, 0, n1, f1, g, i, i, n2, f2, []⟩ = some (2, v) := by
      intro k
      induction k with
      | zero =>
        intro i n1 f1 g n2 f2 hi hg
        have c : ¬ ((i : Int) < (a.length : Int)) := by omega
        refine ⟨⟨i, 0, 0, n1, f1, g, i, i, n2, f2, []⟩, rfl, by show g.length ≤ 6; omega, by show (i : Int) = a.length; omega, Lp_exit ?_⟩
        simp only [S.law14_RingFills_7_r, S.law14_RingFills_7_R, DT.run_br, DT.run_leaf, xdec, c, decide_false, cond_false]
      | succ k ih =>
        intro i n1 f1 g n2 f2 hi hg
        have c1 : (i : Int) < (a.length : Int) := by omega
        have c0 : (0 : Int) ≤ (i : Int) := by omega
        have w1 : IntKind.i64.wrap ((i : Int) + 1) = ((i + 1 : Nat) : Int) := by rw [wrap_id (by omega) (by omega)]; omega
        obtain ⟨e, he⟩ : ∃ e : Mat, a.getD i (dflt .mat) = e := ⟨_, rfl⟩
        have hlg : g.length ≤ 1048576 := by omega
        have hr1 : rMay 0 0 g = true := rMay_iff.2 (by omega)
        have hr2 : rMay i i [] = true := rMay_iff.2 (by simp; omega)
        have hr3 : rMay i i [e] = true := rMay_iff.2 (by simp; omega)
        have hr4 : rMay i (i + 1) [e] = true := rMay_iff.2 (by simp; omega)
        have hw : rWhy i (i + 1) [e] (i + 1) = 0 := rWhy_zero.2 ⟨hr4, by omega, by omega⟩
        have ee : (⟨e.start, e.fin, e.agg, e.bad⟩ : Mat) = e := rfl
        have oA2 : S.ring_Add_o i i [] e.start e.fin e.agg e.bad = ⟨i, i, [e], true⟩ := by
          rw [p_Add_o (by simp), if_pos ⟨hr2, by simp, by simp; omega⟩]; rfl
        have oN : S.ring_Next_o i i [e] = ⟨i, i + 1, [e], i + 1, e.start, e.fin, e.agg, e.bad, true⟩ := by
          rw [p_Next_o (by simp), if_pos ⟨hr3, by simp; omega⟩]
          have : ((i : Int) - i).toNat = 0 := by omega
          rw [this]; rfl
        have oK : S.ring_Ack_o i (i + 1) [e] (i + 1) = ⟨i + 1, i + 1, [], 0⟩ := by
          rw [p_Ack_o, if_pos hw]
          have : ((i : Int) + 1 - i).toNat = 1 := by omega
          rw [this]; rfl
        have iA2 : S.ring_Add_is i i [] e.start e.fin e.agg e.bad = true := p_Add_is (by simp)
        have iN : S.ring_Next_is i i [e] = true := p_Next_is (by simp)
        have e5 : ((i + 1 : Nat) : Int) = (i : Int) + 1 := by omega
        by_cases h6 : (i : Int) < 6
        · have oA1 : S.ring_Add_o 0 0 g e.start e.fin e.agg e.bad = ⟨0, 0, g ++ [e], true⟩ := by
            rw [p_Add_o hlg, if_pos ⟨hr1, by omega, by omega⟩]
          obtain ⟨v, v1, v2, v3, hv⟩ := ih (i + 1) none false (g ++ [e]) none false (by omega) (by simp; omega)
          refine ⟨v, v1, v2, v3, ?_⟩
          rw [← hv]
          refine Lp_cont ?_
          simp only [S.law14_RingFills_7_r, S.law14_RingFills_7_R, DT.run_br, DT.run_leaf, DT.run_fail, xdec, xnot, xneI_dec, xwrap, c1, c0, h6, w1, Int.toNat_natCast, he, p_Add_is hlg, oA1, iA2, oA2, iN, oN, p_Ack_is, oK, e5, matNe, xeqI_dec, xeqB_dec, decide_true, cond_true, cond_false, Bool.not_true, Bool.and_self, ne_eq, not_true_eq_false, decide_false, beq_self_eq_true, List.length_nil, Int.ofNat_zero, Int.natCast_zero]
        · have oA1 : S.ring_Add_o 0 0 g e.start e.fin e.agg e.bad = ⟨0, 0, g, false⟩ := by
            rw [p_Add_o hlg, if_neg (by omega)]
          obtain ⟨v, v1, v2, v3, hv⟩ := ih (i + 1) none false g none false (by omega) (by omega)
          refine ⟨v, v1, v2, v3, ?_⟩
          rw [← hv]
          refine Lp_cont ?_
          simp only [S.law14_RingFills_7_r, S.law14_RingFills_7_R, DT.run_br, DT.run_leaf, DT.run_fail, xdec, xnot, xneI_dec, xwrap, c1, c0, h6, w1, Int.toNat_natCast, he, p_Add_is hlg, oA1, iA2, oA2, iN, oN, p_Ack_is, oK, e5, matNe, xeqI_dec, xeqB_dec, decide_true, cond_true, cond_false, Bool.not_true, Bool.and_self, ne_eq, not_true_eq_false, decide_false, beq_self_eq_true, List.length_nil, Int.ofNat_zero, Int.natCast_zero]
    obtain ⟨v, v1, v2, v3, hv⟩ := key a.length 0 (some true) true [] (some true) true (by omega) (by simp)
    have hv' : Lp (S.law14_RingFills_7_r a) ⟨0, 0, 0, some true, true, [], 0, 0, some true, true, []⟩ = some (2, v) := by simpa using hv
    have j0 : ∀ j, S.law14_RingFills_7_j a ⟨0, 0, 0, some true, true, [], 0, 0, some true, true, []⟩ j = (2 == j) := fun j => Lp_j_of hv' j
    have jv : S.law14_RingFills_7_v a ⟨0, 0, 0, some true, true, [], 0, 0, some true, true, []⟩ = v := Lp_v_of hv'
    have v2' : (v.h_11_2.length : Int) ≤ 6 := by omega
    simp only [j0, jv, v1, v3, v2', xeqI_dec, decide_true, cond_true, if_true]
    rfl
end Go.Eng
