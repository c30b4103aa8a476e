/- What a store's functions come to, in plain words: may one be. -/
import Derived.Test.YtbjeikmkngcjlaaZG6
import Derived.Test.YtbjeikmkngcjlaaZP6
import Derived.Test.YtbjeikmkngcjlaaZM2
set_option linter.unusedVariables false
set_option linter.unusedSimpArgs false
namespace Go.Eng
open Go Go.Eng
def badR (q : Query) (r : Run) : Bool := !decide (mayR q r)
theorem q_mMay1 (q : Query) (r : Run) (hl : q.steps.length ≤ 1048576) : S.zpxz r.step r.n r.many q.steps = some ⟨badR q r⟩ := by
 unfold S.zpxz S.zpxz_R badR
 simp only [DT.run_br, DT.run_leaf, DT.run_fail, q_May_is q r hl, q_May_o q r hl, cond_true, xnot]
theorem q_mIdx_lp (q : Query) (l : List (Ty .run)) (hl : q.steps.length ≤ 1048576) (hb : l.length ≤ 1048576) : Lp (S.zzuc_2_r l q.steps l.length) (⟨0⟩ : S.zzuc_2_V) = match l.findIdx? (badR q) with
    | some j => some (0, ⟨j⟩)
    | none => some (1, ⟨l.length⟩) := by
 refine Lp_idx (fun i => (⟨i⟩ : S.zzuc_2_V)) l (badR q) (fun i h => ?_) ?_
 ·have h1 : ((i : Int) < (l.length : Int)) := by omega
  have h2 : (0 : Int) ≤ (i : Int) := by omega
  have k1 : S.zpxz_is l[i].step l[i].n l[i].many q.steps = true := by simp [S.zpxz_is, q_mMay1 q _ hl]
  have k2 : (S.zpxz_o l[i].step l[i].n l[i].many q.steps).x0 = badR q l[i] := by simp [S.zpxz_o, q_mMay1 q _ hl]
  unfold S.zzuc_2_r S.zzuc_2_R
  simp only [DT.run_br, DT.run_leaf, DT.run_fail, xdec, xwrap, h1, h2, decide_true, Bool.and_self, cond_true, Int.toNat_natCast, getD_of l i _ h, k1, k2, e_wrap1 (show i ≤ 1048576 by omega)]
  cases badR q l[i] <;> rfl
 ·unfold S.zzuc_2_r S.zzuc_2_R
  simp [DT.run_br, DT.run_leaf, xdec]
theorem q_mIdx (q : Query) (l : List (Ty .run)) (hl : q.steps.length ≤ 1048576) (hb : l.length ≤ 1048576) : ∃ n, S.zzuc l q.steps = some ⟨n⟩ ∧ (decide (n ≥ 0) = true ↔ ¬ ∀ r ∈ l, mayR q r) := by
 have e := q_mIdx_lp q l hl hb
 cases hf : l.findIdx? (badR q) with
 | none =>
  rw [hf] at e
  refine ⟨-1, ?_, ?_⟩
  ·simp only [S.zzuc, S.zzuc_R, DT.run_br, DT.run_leaf, DT.run_fail, S.zzuc_2_j, S.zzuc_2_v, Lp_j_of e, Lp_v_of e]
   rfl
  ·have := List.findIdx?_eq_none_iff.1 hf
   refine ⟨fun h => by simp at h, fun h => absurd (fun r hr => ?_) h⟩
   have := this r hr
   simpa [badR] using this
 | some j =>
  rw [hf] at e
  refine ⟨j, ?_, ?_⟩
  ·simp only [S.zzuc, S.zzuc_R, DT.run_br, DT.run_leaf, DT.run_fail, S.zzuc_2_j, S.zzuc_2_v, Lp_j_of e, Lp_v_of e]
   rfl
  ·obtain ⟨h1, h2, _⟩ := List.findIdx?_eq_some_iff_getElem.1 hf
   refine ⟨fun _ h => ?_, fun _ => by simp⟩
   have := h _ (List.getElem_mem h1)
   simp [badR, this] at h2
theorem q_mCon (q : Query) (l : List (Ty .run)) (hl : q.steps.length ≤ 1048576) (hb : l.length ≤ 1048576) : S.z3nm l q.steps = some ⟨!decide (∀ r ∈ l, mayR q r)⟩ := by
 obtain ⟨n, h1, h2⟩ := q_mIdx q l hl hb
 unfold S.z3nm S.z3nm_R
 simp only [DT.run_br, DT.run_leaf, DT.run_fail, S.zzuc_is, S.zzuc_o, h1, Option.isSome_some, Option.getD_some, cond_true, xdec]
 congr 2
 rw [Bool.eq_iff_iff, h2]
 simp
theorem q_mMay (s : StoreL) (hl : s.q.steps.length ≤ 1048576) : S.z3ps s.q.steps s.r s.over = some ⟨decide (mayS s)⟩ := by
 unfold S.z3ps S.z3ps_R
 dsimp only
 by_cases c1 : (s.r.length : Int) > 5
 ·have : ¬ mayS s := fun h => by have := h.1; omega
  simp [DT.run_br, DT.run_leaf, xdec, c1, this]
 have hc := q_mCon s.q s.r hl (by omega)
 have k1 : S.z3nm_is s.r s.q.steps = true := by simp [S.z3nm_is, hc]
 have k2 : (S.z3nm_o s.r s.q.steps).x0 = !decide (∀ r ∈ s.r, mayR s.q r) := by simp [S.z3nm_o, hc]
 have c1' : s.r.length ≤ 5 := by omega
 by_cases c2 : ∀ r ∈ s.r, mayR s.q r
 case neg =>
  have : ¬ mayS s := fun h => c2 h.2.1
  simp only [DT.run_br, DT.run_leaf, xdec, c1, k1, k2, c2, this, decide_false, Bool.not_false, cond_true, cond_false]
 simp only [DT.run_br, DT.run_leaf, xdec, c1, k1, k2, decide_eq_true c2, Bool.not_true, e_xeqI, decide_false, cond_true, cond_false]
 by_cases c3 : s.over = -1
 ·have : mayS s := ⟨c1', c2, .inl c3⟩
  simp [c3, this]
 by_cases c4 : s.over ≥ 0
 ·have : mayS s ↔ s.r.length = 0 := ⟨fun h => by rcases h.2.2 with h | h; exact absurd h c3; exact h.2, fun h => ⟨c1', c2, .inr ⟨c4, h⟩⟩⟩
  simp [c3, c4, this]
 ·have : ¬ mayS s := fun h => by rcases h.2.2 with h | h; exact c3 h; exact c4 h.1
  simp [c3, c4, this]
theorem q_mMay_is (s : StoreL) (hl : s.q.steps.length ≤ 1048576) : S.z3ps_is s.q.steps s.r s.over = true := by simp [S.z3ps_is, q_mMay s hl]
theorem q_mMay_o (s : StoreL) (hl : s.q.steps.length ≤ 1048576) : (S.z3ps_o s.q.steps s.r s.over).x0 = decide (mayS s) := by simp [S.z3ps_o, q_mMay s hl]
theorem q_cloneR {a : List (Ty .run)} (hb : a.length ≤ 1048576) : S.zjge a = some ⟨a, a.length⟩ := by
 unfold S.zjge S.zjge_R
 have h2 : (a.length : Int) ≤ 1048576 := by omega
 simp [DT.run_br, DT.run_leaf, xdec, hb]
theorem q_cloneR_is {a : List (Ty .run)} (hb : a.length ≤ 1048576) : S.zjge_is a = true := by unfold S.zjge_is; rw [q_cloneR hb]; rfl
theorem q_cloneR_o {a : List (Ty .run)} (hb : a.length ≤ 1048576) : S.zjge_o a = ⟨a, a.length⟩ := by unfold S.zjge_o; rw [q_cloneR hb]; rfl
end Go.Eng
