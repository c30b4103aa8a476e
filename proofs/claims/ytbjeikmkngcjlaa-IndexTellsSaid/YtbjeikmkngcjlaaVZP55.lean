/- What may be: the code's word and the document's. -/
import Derived.Test.YtbjeikmkngcjlaaVZG18
import Derived.Test.YtbjeikmkngcjlaaVZP51
set_option linter.unusedVariables false
set_option linter.unusedSimpArgs false
namespace Go.Eng
open Go Go.Eng
def mayV (v : Val) : Bool := (decide (v.kind = 2) || decide (v.s = ByteArray.empty)) && (decide (v.kind = 0) || (decide (v.kind = 1) && (decide (v.n = 0) || decide (v.n = 1))) || (decide (v.kind = 2) && (decide (v.n = 0) && decide ((v.s.size : Int) ≤ 40))) || (decide (v.kind = 3) && (decide (v.n ≥ 0) && decide (v.n ≤ 1125899906842624))))
theorem emp_eq : ({ data := { toList := [] : Array UInt8 } : ByteArray }) = ByteArray.empty := rfl
theorem q_rMay (k n : Int) (s : ByteArray) : S.zfbt k n s = some ⟨mayV ⟨k, n, s⟩⟩ := by
 unfold S.zfbt S.zfbt_R mayV; dsimp only
 rw [emp_eq]
 simp only [DT.run_br, DT.run_leaf, xdec, xnot, e_xeqI, e_xneI, ne_eq]
 by_cases k0 : k = 0
 ·subst k0; by_cases hs : s = ByteArray.empty <;> simp [hs]
 by_cases k1 : k = 1
 ·subst k1; by_cases hs : s = ByteArray.empty <;> by_cases n0 : n = 0 <;> simp [hs, n0]
 by_cases k2 : k = 2
 ·subst k2; by_cases n0 : n = 0 <;> simp [n0]
 by_cases k3 : k = 3
 ·subst k3; by_cases hs : s = ByteArray.empty <;> by_cases n0 : n ≥ 0 <;> simp [hs, n0]
 ·by_cases hs : s = ByteArray.empty <;> simp [hs, k0, k1, k2, k3]
theorem u64_small {n : Int} (h : -9223372036854775808 ≤ n ∧ n ≤ 9223372036854775807) : decide (IntKind.u64.wrap n < 2) = (decide (n = 0) || decide (n = 1)) := by
 have e : IntKind.u64.wrap n = n % 18446744073709551616 := by rw [IntKind.wrap_u64]
 rw [e, Bool.eq_iff_iff]
 simp only [decide_eq_true_eq, Bool.or_eq_true]
 constructor
 ·intro h2
  omega
 ·rintro (rfl | rfl) <;> decide
theorem q_vMay (k n : Int) (s : ByteArray) (hn : -9223372036854775808 ≤ n ∧ n ≤ 9223372036854775807) : S.z3yc k n s = some ⟨mayV ⟨k, n, s⟩⟩ := by
 unfold S.z3yc S.z3yc_R
 have key : (bif (S.z2bt_o k n s).x0.isNil then false else true) = mayV ⟨k, n, s⟩ := by
  unfold S.z2bt_o S.z2bt S.z2bt_R mayV; dsimp only
  rw [emp_eq]
  simp only [DT.run_br, DT.run_leaf, xdec, xnot, e_xeqI, e_xneI, ne_eq, u64_small hn]
  by_cases k0 : k = 0
  ·subst k0; by_cases hs : s = ByteArray.empty <;> simp [hs, Thing.isNil]
  by_cases k1 : k = 1
  ·subst k1; by_cases hs : s = ByteArray.empty <;> by_cases n0 : n = 0 <;> by_cases n1 : n = 1 <;> simp [hs, n0, n1, Thing.isNil]
  by_cases k2 : k = 2
  ·subst k2; by_cases n0 : n = 0 <;> by_cases h40 : (s.size : Int) ≤ 40 <;> simp [n0, h40, Thing.isNil]
  by_cases k3 : k = 3
  ·subst k3; by_cases hs : s = ByteArray.empty <;> by_cases n0 : n ≥ 0 <;> by_cases n1 : n ≤ 1125899906842624 <;> simp [hs, n0, n1, Thing.isNil]
  ·by_cases hs : s = ByteArray.empty <;> simp [hs, k0, k1, k2, k3, Thing.isNil]
 simp only [DT.run_br, DT.run_leaf, q_held, cond_true, key]
def mayO (x : Opn) : Bool := decide (0 ≤ x.code) && (decide (x.code < 10) && (decide (0 ≤ x.arg) && (decide (x.arg < 6) && ((decide (x.code = 1) || decide (x.arg = 0)) && ((decide (x.code = 0) || decide (x.v = ⟨0, 0, ByteArray.empty⟩)) && mayV x.v)))))
theorem q_badOp (x : Opn) (hn : wfOpn x) : badOp x = !mayO x := by
 obtain ⟨c, g, k, n, s⟩ := x
 have hv := q_vMay k n s hn.2.2.2.1
 unfold badOp S.zk4o_o S.zk4o S.zk4o_R mayO
 simp only [DT.run_br, DT.run_leaf, DT.run_fail, xdec, xnot, e_xeqI, S.z3yc_is, S.z3yc_o, hv, Option.isSome_some, Option.getD_some, Val.mk.injEq, Bool.decide_and]
 by_cases c0 : c < 0
 ·have c1 : ¬ 0 ≤ c := by omega
  have c2 : ¬ c = 1 := by omega
  have c3 : ¬ c = 0 := by omega
  simp [c0, c1, c2, c3]
 by_cases c10 : c ≥ 10
 ·have c1 : ¬ c < 10 := by omega
  have c2 : ¬ c = 1 := by omega
  have c3 : ¬ c = 0 := by omega
  simp [c0, c10, c1, c2, c3]
 have d1 : 0 ≤ c := by omega
 have d2 : c < 10 := by omega
 by_cases g0 : g < 0
 ·have g1 : ¬ 0 ≤ g := by omega
  by_cases e1 : c = 1 <;> by_cases e0 : c = 0 <;> simp [c0, c10, d1, d2, g0, g1, e1, e0]
 by_cases g6 : g ≥ 6
 ·have g1 : ¬ g < 6 := by omega
  by_cases e1 : c = 1 <;> by_cases e0 : c = 0 <;> simp [c0, c10, d1, d2, g0, g6, g1, e1, e0]
 have d3 : 0 ≤ g := by omega
 have d4 : g < 6 := by omega
 by_cases e1 : c = 1
 ·subst e1
  simp only [c0, c10, g0, g6, d1, d2, d3, d4, decide_true, decide_false, cond_true, cond_false, Bool.true_and, Bool.and_true, Bool.not_true, Bool.true_or, Option.getD_some]
  cases mayV ⟨k, n, s⟩ <;> cases decide (k = 0) <;> cases decide (n = 0) <;> cases decide (s = ByteArray.empty) <;> simp
 ·by_cases e0 : c = 0
  ·subst e0
   by_cases ga : g = 0
   ·subst ga; cases mayV ⟨k, n, s⟩ <;> simp
   ·simp [g0, g6, d3, d4, ga]
  ·by_cases ga : g = 0
   ·subst ga
    simp only [c0, c10, g0, g6, d1, d2, d3, d4, e1, e0, decide_true, decide_false, cond_true, cond_false, Bool.true_and, Bool.and_true, Bool.not_true, Bool.true_or, Option.getD_some]
    cases mayV ⟨k, n, s⟩ <;> cases decide (k = 0) <;> cases decide (n = 0) <;> cases decide (s = ByteArray.empty) <;> simp
   ·simp [c0, c10, d1, d2, g0, g6, d3, d4, e1, e0, ga]
end Go.Eng
