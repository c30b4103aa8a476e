/- The laws of what is asked: names; what is told of an event that may not be. -/
import Derived.Test.YtbjeikmkngcjlaaVZP49
import Derived.Test.YtbjeikmkngcjlaaVZLI6
import Derived.Test.YtbjeikmkngcjlaaVZLI8
set_option linter.unusedVariables false
set_option linter.unusedSimpArgs false
namespace Go.Eng
open Go Go.Eng
theorem law_IndexNames (n : ByteArray) (a : List (Ty .op)) (en : ByteArray) (t : Int) (v : List (Ty .val)) (hv : v.length ≤ maxLen) : S.zaqx n a en t v = some ⟨true⟩ := by
 have key := Lp_idx (r := S.zaqx_6_r v) (fun i => (⟨i⟩ : S.zaqx_6_V)) (α := Val) v (fun x => decide ((x.s.size : Int) > 100)) (fun i h => by
  have h1 : ((i : Int) < (v.length : Int)) := by omega
  have h2 : (0 : Int) ≤ (i : Int) := by omega
  unfold S.zaqx_6_r S.zaqx_6_R; dsimp only
  rw [Int.toNat_natCast, getD_of v i _ h]
  simp only [DT.run_br, DT.run_leaf, DT.run_fail, xdec, xwrap, h1, h2, ix_wrap h hv, decide_true, Bool.and_self, cond_true]
  generalize decide ((Val.s v[i]).size > (100 : Int)) = b
  cases b <;> rfl) (by
  unfold S.zaqx_6_r S.zaqx_6_R; simp [DT.run_br, DT.run_leaf, xdec])
 unfold S.zaqx S.zaqx_R; dsimp only
 simp only [DT.run_br, DT.run_leaf, DT.run_fail, q_awake10_is, q_awake10_o, q_few08_is, xnot, Bool.not_true, cond_true, cond_false, xdec, S.zh5h_is, S.zh5h_o, q_iHolds, Option.isSome_some, Option.getD_some, HB_plain]
 cases hf : (S.zzsx_o a).x0 with
 | false => rfl
 | true =>
 by_cases hb : (v.length : Int) > 10
 ·simp [hb]
 simp only [hb, decide_false, Bool.not_true, cond_false, S.zaqx_6_j]
 cases hk : List.findIdx? (fun x => decide ((x.s.size : Int) > 100)) (v : List Val) with
 | some j =>
  rw [show List.findIdx? (fun x => decide ((Val.s x).size > (100 : Int))) v = some j from hk] at key
  rw [Lp_j_of key]; rfl
 | none =>
  rw [show List.findIdx? (fun x => decide ((Val.s x).size > (100 : Int))) v = none from hk] at key
  rw [Lp_j_of key, Lp_j_of key]
  by_cases h : n = en
  ·subst h
   cases HB n a ⟨n, t, v⟩ <;> simp
  ·rw [HB_name (e := ⟨en, t, v⟩) h]
   simp [h]
theorem law_IndexNames2 {p : Val → Prop} (n : ByteArray) (a : List (Ty .op)) (en : ByteArray) (t : Int) (v : List (Ty .val)) (w : wfL p v) : S.zaqx n a en t v = some ⟨true⟩ := law_IndexNames n a en t v w.1
theorem holds_bad (n : ByteArray) (t : Int) (ht : t < 0) (v : List (Ty .val)) (a : List (Ty .op)) : (S.zvnj_o n t v a).x0 = decide ((a : List Opn) = []) := by
 have h1 : (S.zwl5_o n t v).x0 = false := by
  have : (S.zwl5_R n t v).all (fun r => r.x0 = false) := by
   have h0 : ¬ t ≥ 0 := by omega
   unfold S.zwl5_R; try dsimp only
   simp [DT.all_br, DT.all_leaf, DT.all_fail, xdec, h0]
  exact DT.all_o this
 have h2 : (S.zn3l_o n t v a).x3 = 1 := by
  unfold S.zn3l_o S.zn3l S.zn3l_R; dsimp only
  rw [q_opMay_is, q_evMay_is, h1]
  cases (S.zk66_o a).x0 <;> rfl
 unfold S.zvnj_o S.zvnj S.zvnj_R; dsimp only
 rw [q_eval, h2]
 cases a with
 | nil => simp [DT.run_br, DT.run_leaf, e_xeqI]
 | cons x a =>
  have h3 : ¬ (((x :: a).length : Nat) : Int) = 0 := by rw [List.length_cons]; omega
  have h4 : ¬ (1 : Int) = 0 := by decide
  simp only [DT.run_br, DT.run_leaf, e_xeqI, h3, h4, decide_false, cond_true, cond_false, Option.getD_some, reduceCtorEq]
theorem tell_bad (n : ByteArray) (v : List Val) (p : Pred) : tellP n (-1) v p = (decide (p.name = n) && decide (p.ifs = [])) := by
 unfold tellP HB
 rw [holds_bad n (-1) (by decide) v p.ifs]
theorem law_IndexTold (l : List (Ty .pred)) (n : ByteArray) (t : Int) (v : List (Ty .val)) : S.zqwe l n v = some ⟨true⟩ := by
 unfold S.zqwe S.zqwe_R; dsimp only
 simp only [DT.run_br, DT.run_leaf, DT.run_fail, q_awake10_is, q_awake10_o, q_preds_is, xnot, Bool.not_true, cond_true, cond_false]
 cases hf : (S.z6mj_o l).x0 with
 | false => rfl
 | true =>
 have hp := q_preds_o l hf
 have hl : l.length ≤ 1048576 := by have := hp.1; omega
 have k := q_toldO l n (-1) v hl
 simp only [S.zxuk_is, S.zxuk_o, k, Option.isSome_some, Option.getD_some, Bool.not_true, cond_true, cond_false, e_xneI, ne_eq, not_true, decide_false, S.zqwe_10_j]
 have key := Lp_walk (r := S.zqwe_10_r l l.length n (l.map (tellP n (-1) v))) (fun k => (⟨(k : Int)⟩ : S.zqwe_10_V)) l.length 1 (fun i h => by
  have h1 : ((i : Int) < (l.length : Int)) := by omega
  have h2 : (0 : Int) ≤ (i : Int) := by omega
  have h3 : i < (List.map (tellP n (-1) v) l).length := by rw [List.length_map]; exact h
  unfold S.zqwe_10_r S.zqwe_10_R; dsimp only
  rw [Int.toNat_natCast, getD_of l i _ h, Nat.zero_add, getD_of _ i _ h3]
  have e : (List.map (tellP n (-1) v) l)[i] = tellP n (-1) v l[i] := by simp
  rw [e, tell_bad]
  simp only [DT.run_br, DT.run_leaf, DT.run_fail, xdec, xwrap, e_xeqI, h1, h2, h3, ix_wrap h (Nat.le_trans hl (by decide)), decide_true, Bool.and_self, cond_true]
  have e2 : decide (((Pred.ifs l[i]).length : Int) = 0) = decide (Pred.ifs l[i] = []) := by
   rw [Bool.eq_iff_iff]; simp
  by_cases h4 : Pred.name l[i] = n
  ·simp [h4, e2]
  ·simp [h4]) (by
  unfold S.zqwe_10_r S.zqwe_10_R; simp [DT.run_br, DT.run_leaf, xdec])
 have e0 : (⟨((0 : Nat) : Int)⟩ : S.zqwe_10_V) = ⟨0⟩ := rfl
 rw [e0] at key
 rw [Lp_j_of key, Lp_j_of key]; rfl
end Go.Eng
