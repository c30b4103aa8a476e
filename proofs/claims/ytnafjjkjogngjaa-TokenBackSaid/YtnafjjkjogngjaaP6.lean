/- What token's functions come to: who may be. -/
import Derived.Test.YtnafjjkjogngjaaP5
set_option linter.unusedVariables false
set_option linter.unusedSimpArgs false
namespace Go.Eng
open Go Go.Eng
theorem fI_neg {l : PP} {f : Pass → Bool} : fI l f = -1 ↔ ∀ q ∈ l, f q = false := by
  unfold fI
  cases h : l.findIdx? f with
  | none => simpa using h
  | some j =>
    obtain ⟨h1, h2, _⟩ := List.findIdx?_eq_some_iff_getElem.1 h
    constructor
    · intro h3; simp only at h3; omega
    · intro h3
      have := h3 _ (List.getElem_mem h1)
      rw [h2] at this; cases this
theorem fI_cases (l : PP) (f : Pass → Bool) : fI l f = -1 ∨ ∃ j : Nat, ∃ h : j < l.length, fI l f = j ∧ f l[j] = true ∧ ∀ i (hi : i < j), f (l[i]'(by omega)) = false := by
  unfold fI
  cases h : l.findIdx? f with
  | none => exact .inl rfl
  | some j =>
    obtain ⟨h1, h2, h3⟩ := List.findIdx?_eq_some_iff_getElem.1 h
    exact .inr ⟨j, h1, rfl, h2, fun i hi => by simpa using h3 i hi⟩
def ok1 (p : Pass) : Prop := 0 ≤ p.sess ∧ -1 ≤ p.conn ∧ 0 ≤ p.off ∧ p.off ≤ 1125899906842624 ∧ (p.conn ≠ -1 → p.off = 0)
def nw (q p : Pass) : Prop := q.token ≠ p.token ∧ q.sess ≠ p.sess ∧ (p.conn ≠ -1 → q.conn ≠ p.conn)
def mayP (l : PP) (p : Pass) : Prop := ok1 p ∧ ∀ q ∈ l, nw q p
def MayL (l : PP) : Prop := (∀ p ∈ l, ok1 p) ∧ l.Pairwise nw ∧ l.length ≤ 4
instance (p : Pass) : Decidable (ok1 p) := by unfold ok1; infer_instance
instance (q p : Pass) : Decidable (nw q p) := by unfold nw; infer_instance
instance (l : PP) (p : Pass) : Decidable (mayP l p) := by unfold mayP; infer_instance
instance (l : PP) : Decidable (MayL l) := by unfold MayL; infer_instance
theorem mayP_iff (l : PP) (p : Pass) : mayP l p ↔ p.sess ≥ 0 ∧ p.conn ≥ -1 ∧ p.off ≥ 0 ∧ p.off ≤ 1125899906842624 ∧ (p.conn ≠ -1 → p.off = 0) ∧ fI l (pTok p.token) = -1 ∧ fI l (pSess p.sess) = -1 ∧ (p.conn ≠ -1 → fI l (pConn p.conn) = -1) := by
  simp only [fI_neg, mayP, ok1, nw, pTok, pSess, pConn, Bool.and_eq_false_iff, decide_eq_false_iff_not]
  constructor
  · rintro ⟨⟨h1, h2, h3, h4, h5⟩, h6⟩
    exact ⟨h1, h2, h3, h4, h5, fun q hq => (h6 q hq).1, fun q hq => (h6 q hq).2.1, fun hc q hq => .inr ((h6 q hq).2.2 hc)⟩
  · rintro ⟨h1, h2, h3, h4, h5, h6, h7, h8⟩
    refine ⟨⟨h1, h2, h3, h4, h5⟩, fun q hq => ⟨h6 q hq, h7 q hq, fun hc => ?_⟩⟩
    rcases h8 hc q hq with h9 | h9
    · omega
    · exact h9
theorem t_may (l : PP) (p : Pass) (hb : l.length ≤ 1048576) : S.token_may l p.token p.sess p.conn p.off = some ⟨decide (mayP l p)⟩ := by
  unfold S.token_may S.token_may_R
  simp only [DT.run_br, DT.run_leaf, DT.run_fail, t_at_token_is l _ hb, t_at_sess_is l _ hb, t_at_conn_is l _ hb, t_at_token_o l _ hb, t_at_sess_o l _ hb, t_at_conn_o l _ hb, t_byToken_o, t_bySess_o, t_byConn_o, t_xeqI, t_xneI, xdec, cond_true]
  have e := mayP_iff l p
  have key : ∀ (a b c : Int) (M : Bool), (M = true ↔ p.sess ≥ 0 ∧ p.conn ≥ -1 ∧ p.off ≥ 0 ∧ p.off ≤ 1125899906842624 ∧ (p.conn ≠ -1 → p.off = 0) ∧ a = -1 ∧ b = -1 ∧ (p.conn ≠ -1 → c = -1)) →
      (bif decide (p.sess ≥ 0) then
          bif decide (p.conn ≥ -1) then
            bif decide (p.off ≥ 0) then
              bif decide (p.conn ≠ -1) then
                bif decide (p.off ≤ 1125899906842624) then
                  bif decide True && (decide True && (decide True && decide (p.off = 0))) then
                    bif decide (c = -1) then
                      bif decide (a = -1) then some (⟨decide (b = -1)⟩ : S.token_may_T) else some { x0 := false }
                    else some { x0 := false }
                  else some { x0 := false }
                else some { x0 := false }
              else
                bif decide (p.off ≤ 1125899906842624) then
                  bif decide (a = -1) then some { x0 := decide (b = -1) } else some { x0 := false }
                else some { x0 := false }
            else bif decide (p.conn ≠ -1) then some { x0 := false } else some { x0 := false }
          else bif decide (p.conn ≠ -1) then some { x0 := false } else some { x0 := false }
        else bif decide (p.conn ≠ -1) then some { x0 := false } else some { x0 := false }) =
        some { x0 := M } := by
    intro a b c M e
    have e' : M = decide (p.sess ≥ 0 ∧ p.conn ≥ -1 ∧ p.off ≥ 0 ∧ p.off ≤ 1125899906842624 ∧ (p.conn ≠ -1 → p.off = 0) ∧ a = -1 ∧ b = -1 ∧ (p.conn ≠ -1 → c = -1)) := by
      rw [Bool.eq_iff_iff, decide_eq_true_eq]; exact e
    rw [e']
    by_cases h1 : p.sess ≥ 0
    · by_cases h2 : p.conn ≥ -1
      · by_cases h3 : p.off ≥ 0
        · by_cases h4 : p.off ≤ 1125899906842624
          · by_cases h5 : p.conn = -1
            · by_cases h6 : a = -1 <;> simp [h1, h2, h3, h4, h5, h6]
            · by_cases h7 : p.off = 0 <;> by_cases h6 : a = -1 <;> by_cases h8 : c = -1 <;> simp [h1, h2, h3, h4, h5, h6, h7, h8]
          · by_cases h5 : p.conn = -1 <;> simp [h1, h2, h3, h4, h5]
        · by_cases h5 : p.conn = -1 <;> simp [h1, h2, h3, h5]
      · by_cases h5 : p.conn = -1
        · omega
        · simp [h1, h2, h5]
    · by_cases h5 : p.conn = -1 <;> simp [h1, h5]
  exact key _ _ _ _ (by rw [decide_eq_true_eq]; exact e)
theorem t_may_is (l : PP) (p : Pass) (hb : l.length ≤ 1048576) : S.token_may_is l p.token p.sess p.conn p.off = true := by simp [S.token_may_is, t_may l p hb]
theorem t_may_o (l : PP) (p : Pass) (hb : l.length ≤ 1048576) : (S.token_may_o l p.token p.sess p.conn p.off).x0 = decide (mayP l p) := by simp [S.token_may_o, t_may l p hb]
theorem sub0 {α : Type} (l : List α) (n : Nat) : sub l 0 n = l.take n := by simp [sub]
def badAt (l : PP) (i : Nat) : Bool := !decide (mayP (l.take i) (l.getD i (dflt .pass)))
theorem t_May_lp (l : PP) (hb : l.length ≤ 1048576) : Lp (S.token_May_2_r l l l.length) (⟨0⟩ : S.token_May_2_V) = match (List.range l.length).findIdx? (badAt l) with
    | some j => some (0, ⟨j⟩)
    | none => some (1, ⟨(List.range l.length).length⟩) := by
  refine Lp_idx (fun i => (⟨i⟩ : S.token_May_2_V)) (List.range l.length) (badAt l) (fun i h => ?_) ?_
  · have hi : i < l.length := by simpa using h
    have h1 : ((i : Int) < (l.length : Int)) := by omega
    have h2 : (0 : Int) ≤ (i : Int) := by omega
    have h3 : ((i : Int) ≤ Int.ofNat l.length) := by have := Int.ofNat_eq_natCast l.length; omega
    have hk : (l.take i).length ≤ 1048576 := by simp; omega
    unfold S.token_May_2_r S.token_May_2_R
    simp only [DT.run_br, DT.run_leaf, DT.run_fail, xdec, xwrap, xnot, h1, h2, h3, decide_true, Bool.and_self, cond_true, Int.toNat_natCast, sub0, t_may_is _ _ hk, t_may_o _ _ hk, t_wrap1 (show i ≤ 1048576 by omega), List.getElem_range]
    show (bif badAt l i then _ else _) = if badAt l i = true then _ else _
    cases badAt l i <;> rfl
  · unfold S.token_May_2_r S.token_May_2_R
    simp [DT.run_br, DT.run_leaf, xdec]
theorem MayL_iff (l : PP) : (∀ i ∈ List.range l.length, badAt l i = false) ∧ l.length ≤ 4 ↔ MayL l := by
  unfold MayL
  rw [← and_assoc]
  refine and_congr_left fun _ => ?_
  rw [List.pairwise_iff_getElem]
  have hm : ∀ i (h : i < l.length), badAt l i = false ↔ ok1 l[i] ∧ ∀ j (hj : j < i), nw (l[j]'(by omega)) l[i] := by
    intro i h
    have hb1 : badAt l i = false ↔ mayP (l.take i) l[i] := by
      unfold badAt
      rw [getD_of l i _ h]
      simp
    rw [hb1]
    unfold mayP
    refine and_congr_right fun _ => ?_
    constructor
    · intro h2 j hj
      refine h2 _ ?_
      rw [List.mem_take_iff_getElem]; exact ⟨j, by omega, rfl⟩
    · intro h2 q hq
      rw [List.mem_take_iff_getElem] at hq
      obtain ⟨j, hj, rfl⟩ := hq
      exact h2 j (by omega)
  constructor
  · intro h
    refine ⟨fun p hp => ?_, fun i j hi hj hij => ?_⟩
    · obtain ⟨i, hi, rfl⟩ := List.getElem_of_mem hp
      exact ((hm i hi).1 (h i (List.mem_range.2 hi))).1
    · exact ((hm j hj).1 (h j (List.mem_range.2 hj))).2 i hij
  · rintro ⟨h1, h2⟩ i hi
    have hi := List.mem_range.1 hi
    exact (hm i hi).2 ⟨h1 _ (List.getElem_mem hi), fun j hj => h2 j i (by omega) hi hj⟩
theorem t_May (l : PP) (hb : l.length ≤ 1048576) : S.token_May l = some ⟨decide (MayL l)⟩ := by
  have e := t_May_lp l hb
  have e2 := MayL_iff l
  cases hf : (List.range l.length).findIdx? (badAt l) with
  | none =>
    rw [hf] at e
    simp only [S.token_May, S.token_May_R, DT.run_br, DT.run_leaf, DT.run_fail, S.token_May_2_j, Lp_j_of e]
    have h1 : ∀ i ∈ List.range l.length, badAt l i = false := by simpa using hf
    have h2 : MayL l ↔ l.length ≤ 4 := by rw [← e2]; exact ⟨fun h => h.2, fun h => ⟨h1, h⟩⟩
    have h3 : xdec ((l.length : Int) ≤ 4) = decide (MayL l) := by
      rw [Bool.eq_iff_iff]; simp only [xdec, decide_eq_true_eq, h2]; omega
    rw [h3]
    rfl
  | some j =>
    rw [hf] at e
    simp only [S.token_May, S.token_May_R, DT.run_br, DT.run_leaf, DT.run_fail, S.token_May_2_j, Lp_j_of e]
    obtain ⟨h1, h2, _⟩ := List.findIdx?_eq_some_iff_getElem.1 hf
    have h3 : ¬ MayL l := by
      rw [← e2]
      rintro ⟨h4, _⟩
      have := h4 _ (List.getElem_mem h1)
      rw [h2] at this; cases this
    simp [h3]
theorem t_May_is (l : PP) (hb : l.length ≤ 1048576) : S.token_May_is l = true := by simp [S.token_May_is, t_May l hb]
theorem t_May_o (l : PP) (hb : l.length ≤ 1048576) : (S.token_May_o l).x0 = decide (MayL l) := by simp [S.token_May_o, t_May l hb]
end Go.Eng
