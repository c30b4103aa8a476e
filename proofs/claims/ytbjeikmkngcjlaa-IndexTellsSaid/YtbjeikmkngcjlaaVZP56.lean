/- Which expressions and events may be: the code's word is the document's. -/
import Derived.Test.YtbjeikmkngcjlaaVZP55
set_option linter.unusedVariables false
set_option linter.unusedSimpArgs false
namespace Go.Eng
open Go Go.Eng
theorem q_conOp2 (l : List (Ty .op)) (hb : l.length ≤ 1048576) : S.zfbb l = some ⟨(show List Opn from l).any badOp⟩ := by
 have e := q_idxOp_lp l hb
 have k : ∃ n, S.z6r7 l = some ⟨n⟩ ∧ decide (n ≥ 0) = (show List Opn from l).any badOp := by
  rw [← List.findIdx?_isSome]
  cases hf : (show List Opn from l).findIdx? badOp with
  | none =>
   rw [show List.findIdx? badOp l = none from hf] at e
   refine ⟨-1, ?_, by decide⟩
   simp only [S.z6r7, S.z6r7_R, DT.run_br, DT.run_leaf, DT.run_fail, S.z6r7_2_j, S.z6r7_2_v, Lp_j_of e, Lp_v_of e]
   rfl
  | some j =>
   rw [show List.findIdx? badOp l = some j from hf] at e
   refine ⟨j, ?_, by simp⟩
   simp only [S.z6r7, S.z6r7_R, DT.run_br, DT.run_leaf, DT.run_fail, S.z6r7_2_j, S.z6r7_2_v, Lp_j_of e, Lp_v_of e]
   rfl
 obtain ⟨n, h1, h2⟩ := k
 unfold S.zfbb S.zfbb_R
 simp only [DT.run_br, DT.run_leaf, S.z6r7_is, S.z6r7_o, h1, xdec, Option.isSome_some, Option.getD_some, cond_true, h2]
def mayE (l : List Opn) : Bool := decide ((l.length : Int) ≤ 12) && l.all mayO
theorem any_bad {l : List Opn} (hw : ∀ x ∈ l, wfOpn x) : (!l.any badOp) = l.all mayO := by
 rw [Bool.eq_iff_iff]
 simp only [Bool.not_eq_true', List.any_eq_false, List.all_eq_true]
 constructor
 ·intro h x hx
  have := h x hx
  rw [q_badOp x (hw x hx)] at this
  simpa using this
 ·intro h x hx
  rw [q_badOp x (hw x hx), h x hx]; simp
theorem q_eMay (l : List Opn) (hw : ∀ x ∈ l, wfOpn x) : (S.zk66_o l).x0 = mayE l := by
 unfold S.zk66_o S.zk66 S.zk66_R mayE
 by_cases h : (l.length : Int) ≤ 12
 ·have k := q_conOp2 l (by omega)
  simp only [DT.run_br, DT.run_leaf, DT.run_fail, xdec, xnot, h, decide_true, cond_true, S.zfbb_is, S.zfbb_o, k, Option.isSome_some, Option.getD_some, Bool.true_and]
  exact any_bad hw
 ·simp only [DT.run_br, DT.run_leaf, DT.run_fail, xdec, h, decide_false, cond_false, Option.getD_some, Bool.false_and]
theorem q_rMayE (l : List Opn) (hl : l.length ≤ maxLen) : S.zcnl l = some ⟨mayE l⟩ := by
 have e := Lp_idx (r := S.zcnl_2_r l) (fun i => (⟨i⟩ : S.zcnl_2_V)) (α := Opn) l (fun x => !mayO x) (fun i h => by
  have h1 : ((i : Int) < (l.length : Int)) := by omega
  have h2 : (0 : Int) ≤ (i : Int) := by omega
  have e1 : @List.getD (Ty ET.op) l i (dflt ET.op) = l[i] := getD_of (α := Opn) l i _ h
  unfold S.zcnl_2_r S.zcnl_2_R; dsimp only
  rw [Int.toNat_natCast, e1]
  generalize l[i] = x
  obtain ⟨c, g, k, n, s⟩ := x
  have hv := q_rMay k n s
  simp only [DT.run_br, DT.run_leaf, DT.run_fail, xdec, xwrap, xnot, e_xeqI, e_xneI, ne_eq, S.zfbt_is, S.zfbt_o, hv, Option.isSome_some, Option.getD_some, h1, h2, ix_wrap h hl, decide_true, Bool.and_self, cond_true, mayO, Val.mk.injEq, Bool.decide_and]
  by_cases c0 : c < 0
  ·have c1 : ¬ 0 ≤ c := by omega
   simp [c0, c1]
  by_cases c10 : c ≥ 10
  ·have c1 : ¬ c < 10 := by omega
   simp [c0, c10, c1]
  have d1 : 0 ≤ c := by omega
  have d2 : c < 10 := by omega
  by_cases g0 : g < 0
  ·have g1 : ¬ 0 ≤ g := by omega
   simp [c0, c10, d1, d2, g0, g1]
  by_cases g6 : g ≥ 6
  ·have g1 : ¬ g < 6 := by omega
   simp [c0, c10, d1, d2, g0, g6, g1]
  have d3 : 0 ≤ g := by omega
  have d4 : g < 6 := by omega
  simp only [c0, c10, g0, g6, d1, d2, d3, d4, decide_true, decide_false, cond_true, cond_false, Bool.true_and]
  by_cases e1 : c = 1
  ·subst e1
   cases mayV ⟨k, n, s⟩ <;> cases decide (k = 0) <;> cases decide (n = 0) <;> cases decide (s = ByteArray.empty) <;> simp
  ·by_cases e0 : c = 0
   ·subst e0
    by_cases ga : g = 0
    ·subst ga; cases mayV ⟨k, n, s⟩ <;> simp
    ·simp [ga]
   ·by_cases ga : g = 0
    ·subst ga
     simp only [e1, e0, decide_true, decide_false, cond_true, cond_false, Bool.not_true, Bool.not_false, Bool.false_or, Bool.true_and]
     cases mayV ⟨k, n, s⟩ <;> cases decide (k = 0) <;> cases decide (n = 0) <;> cases decide (s = ByteArray.empty) <;> simp
    ·simp [e1, e0, ga]) (by
  unfold S.zcnl_2_r S.zcnl_2_R; simp [DT.run_br, DT.run_leaf, xdec])
 unfold S.zcnl S.zcnl_R mayE; dsimp only
 simp only [DT.run_br, DT.run_leaf, DT.run_fail, S.zcnl_2_j, S.zcnl_2_v, xdec]
 cases hf : l.findIdx? (fun x => !mayO x) with
 | some j =>
  rw [hf] at e; rw [Lp_j_of e]
  have h3 : l.any (fun x => !mayO x) = true := by rw [← List.findIdx?_isSome, hf]; rfl
  have h4 : l.all mayO = false := by
   rw [List.any_eq_true] at h3
   obtain ⟨x, hx, h3⟩ := h3
   rw [List.all_eq_false]; exact ⟨x, hx, by simpa using h3⟩
  rw [h4]; simp
 | none =>
  rw [hf] at e; rw [Lp_j_of e, Lp_j_of e]
  have h4 : l.all mayO = true := by
   rw [List.all_eq_true]
   intro x hx
   have := List.findIdx?_eq_none_iff.1 hf x hx
   simpa using this
  rw [h4]; simp
end Go.Eng
