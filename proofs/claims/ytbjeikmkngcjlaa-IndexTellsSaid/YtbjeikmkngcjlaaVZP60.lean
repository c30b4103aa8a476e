/- What comes of two: the code's word, and the document's, in one. -/
import Derived.Test.YtbjeikmkngcjlaaVZP59
set_option linter.unusedVariables false
set_option linter.unusedSimpArgs false
namespace Go.Eng
open Go Go.Eng
theorem mayV_one {v : Val} (h : mayV v = true) (k : v.kind = 1) : v.n = 0 ∨ v.n = 1 := by
 unfold mayV at h
 simp [k] at h
 exact h.2
theorem ofV_is (v : Val) : S.thingIs (ofV v) = true := by
 unfold ofV
 split
 ·rfl
 ·split <;> rfl
theorem ofV_v {v : Val} (h : mayV v = true) : S.thingV (ofV v) = v := by
 obtain ⟨k, n, s⟩ := v
 unfold ofV
 by_cases k0 : k = 0
 ·have hs := mayV_s h (by dsimp only; omega)
  dsimp only at hs
  subst k0; subst hs; rfl
 by_cases k1 : k = 1
 ·have hs := mayV_s h (by dsimp only; omega)
  have hn := mayV_one h k1
  dsimp only at hs hn
  subst k1; subst hs
  rcases hn with rfl | rfl <;> rfl
 ·dsimp only
  rw [if_neg k0, if_neg k1]; rfl
theorem ofV_isB (v : Val) : Thing.isB 128 (ofV v) = decide (v.kind = 1) := by
 unfold ofV
 by_cases k0 : v.kind = 0
 ·rw [if_pos k0]; simp [Thing.isB, k0]
 ·by_cases k1 : v.kind = 1
  ·rw [if_neg k0, if_pos k1]; simp [Thing.isB, k1]
  ·rw [if_neg k0, if_neg k1]; simp [Thing.isB, k1]
theorem ofV_asB {v : Val} (k : v.kind = 1) : Thing.asB 128 (ofV v) = decide (v.n = 1) := by
 unfold ofV
 rw [if_neg (by omega), if_pos k]; simp [Thing.asB]
theorem ofV_isI (v : Val) : Thing.isI 207 IntKind.i64 (ofV v) = decide (v.kind = 0) := by
 unfold ofV
 by_cases k0 : v.kind = 0
 ·rw [if_pos k0]; simp [Thing.isI, k0]
 ·by_cases k1 : v.kind = 1
  ·rw [if_neg k0, if_pos k1]; simp [Thing.isI, k0]
  ·rw [if_neg k0, if_neg k1]; simp [Thing.isI, k0]
theorem ofV_asI {v : Val} (k : v.kind = 0) : Thing.asI 207 IntKind.i64 (ofV v) = v.n := by
 unfold ofV
 rw [if_pos k]; simp [Thing.asI]
theorem ofV_truth (b : Bool) : ofV (truthV b) = .one 128 (.bool b) := by cases b <;> rfl
theorem val_eq (a b : Val) : (decide (a.kind = b.kind) && (decide (a.n = b.n) && decide (a.s = b.s))) = decide (a = b) := by
 obtain ⟨k, n, s⟩ := a
 obtain ⟨k', n', s'⟩ := b
 simp only [Val.mk.injEq, Bool.decide_and]
theorem q_twoE (c : Int) {a b : Val} (ha : mayV a = true) (hb : mayV b = true) (wa : wfVal a) (wb : wfVal b) : ∃ t e, S.zoxb c (ofV a) (ofV b) = some ⟨t, e⟩ ∧ match twoV c a b with
      | some v => e = 0 ∧ t = ofV v
      | none => e ≠ 0 := by
 unfold S.zoxb S.zoxb_R twoV; dsimp only
 rw [ofV_is, ofV_is, ofV_v ha, ofV_v hb, ofV_isB, ofV_isB, ofV_isI, ofV_isI]
 simp only [DT.run_br, DT.run_leaf, DT.run_fail, xdec, xnot, e_xeqI, e_xneI, ne_eq, cond_true]
 by_cases hk : a.kind = b.kind
 case neg => exact ⟨.nil, 5, by simp [hk], by rw [if_pos hk]; decide⟩
 have hk' : ¬ ¬ a.kind = b.kind := fun h => h hk
 simp only [hk', decide_false, cond_false, if_neg hk']
 by_cases c6 : c = 6
 ·simp only [c6, decide_true, cond_true, if_true]
  refine ⟨_, _, rfl, rfl, ?_⟩
  rw [val_eq, ofV_truth]
 simp only [c6, decide_false, cond_false, if_false]
 by_cases c5 : c = 5
 ·simp only [c5, decide_true, cond_true, if_true, q_less]
  by_cases k1 : a.kind = 1
  ·simp only [k1, decide_true, cond_true, if_true]
   exact ⟨_, _, rfl, by decide⟩
  ·simp only [k1, decide_false, cond_false, if_false]
   have k := q_Less a b ha hb hk wa wb
   refine ⟨_, _, rfl, rfl, ?_⟩
   simp only [S.zzxm_o]
   rw [k, ofV_truth]; rfl
 simp only [c5, decide_false, cond_false, if_false]
 have kb : b.kind = a.kind := hk.symm
 by_cases c78 : c = 7 ∨ c = 8
 ·rw [if_pos c78]
  by_cases k1 : a.kind = 1
  ·have kb1 : b.kind = 1 := by rw [kb]; exact k1
   rw [ofV_asB k1, ofV_asB kb1, if_pos k1]
   rcases c78 with rfl | rfl
   ·simp only [k1, kb1, decide_true, cond_true, Bool.not_true, cond_false]
    cases decide (a.n = 1) <;> cases decide (b.n = 1) <;> exact ⟨_, _, rfl, rfl, by rw [ofV_truth]; rfl⟩
   ·have e87 : decide ((8 : Int) = 7) = false := by decide
    simp only [e87, k1, kb1, decide_true, cond_true, Bool.not_true, cond_false]
    cases decide (a.n = 1) <;> cases decide (b.n = 1) <;> exact ⟨_, _, rfl, rfl, by rw [ofV_truth]; rfl⟩
  ·rw [if_neg k1]
   rcases c78 with rfl | rfl
   ·simp only [k1, decide_true, decide_false, cond_true, Bool.not_false]
    exact ⟨_, _, rfl, by decide⟩
   ·have e87 : decide ((8 : Int) = 7) = false := by decide
    simp only [e87, k1, decide_true, decide_false, cond_true, cond_false, Bool.not_false]
    exact ⟨_, _, rfl, by decide⟩
 ·have c7 : ¬ c = 7 := fun h => c78 (Or.inl h)
  have c8 : ¬ c = 8 := fun h => c78 (Or.inr h)
  rw [if_neg c78]
  simp only [c7, c8, decide_false, cond_false]
  by_cases k0 : a.kind = 0
  ·have kb0 : b.kind = 0 := by rw [kb]; exact k0
   rw [ofV_asI k0, ofV_asI kb0, if_pos k0]
   obtain ⟨n, i, g1, g2⟩ := q_sumE c a.n b.n wa.2.1 wb.2.1
   simp only [k0, kb0, decide_true, Bool.not_true, cond_true, cond_false, S.zost_is, S.zost_o, g1, Option.isSome_some, Option.getD_some]
   cases hs : sumV c a.n b.n with
   | some m =>
    rw [hs] at g2
    obtain ⟨rfl, rfl⟩ := g2
    exact ⟨_, _, rfl, rfl, rfl⟩
   | none =>
    rw [hs] at g2
    dsimp only at g2
    subst g2
    exact ⟨_, _, rfl, (show (6 : Int) ≠ 0 by decide)⟩
  ·rw [if_neg k0]
   simp only [k0, decide_false, Bool.not_false, cond_true]
   exact ⟨_, _, rfl, by decide⟩
theorem q_truth (b : Bool) : S.zrif b = some ⟨(truthV b).kind, (truthV b).n, (truthV b).s⟩ := by cases b <;> rfl
theorem q_twoR (c : Int) {a b : Val} (ha : mayV a = true) (hb : mayV b = true) (wb : wfVal b) : ∃ v e, S.zwln c a.kind a.n a.s b.kind b.n b.s = some ⟨v.kind, v.n, v.s, e⟩ ∧ match twoV c a b with
      | some w => e = 0 ∧ v = w
      | none => e ≠ 0 := by
 unfold S.zwln S.zwln_R twoV; dsimp only
 simp only [DT.run_br, DT.run_leaf, DT.run_fail, xdec, xnot, e_xeqI, e_xneI, ne_eq, S.zrif_is, S.zrif_o, q_truth, Option.isSome_some, Option.getD_some, cond_true]
 by_cases hk : a.kind = b.kind
 case neg => exact ⟨⟨0, 0, ByteArray.empty⟩, 5, by simp [hk], by rw [if_pos hk]; decide⟩
 have hk' : ¬ ¬ a.kind = b.kind := fun h => h hk
 simp only [hk', decide_false, cond_false, if_neg hk']
 by_cases c6 : c = 6
 ·simp only [c6, decide_true, cond_true, if_true]
  exact ⟨truthV _, 0, rfl, rfl, by rw [val_eq]⟩
 simp only [c6, decide_false, cond_false, if_false]
 by_cases c5 : c = 5
 ·simp only [c5, decide_true, cond_true, if_true]
  by_cases k1 : a.kind = 1
  ·simp only [k1, decide_true, cond_true, if_true]
   exact ⟨⟨0, 0, ByteArray.empty⟩, 5, rfl, by decide⟩
  ·have k := q_rLess a b ha hb hk wb.2.2
   simp only [k1, decide_false, cond_false, if_false, S.zzst_is, S.zzst_o, k, Option.isSome_some, Option.getD_some, cond_true]
   exact ⟨truthV (lessV a b), 0, rfl, rfl, rfl⟩
 simp only [c5, decide_false, cond_false, if_false]
 have kb : b.kind = a.kind := hk.symm
 by_cases c78 : c = 7 ∨ c = 8
 ·rw [if_pos c78]
  by_cases k1 : a.kind = 1
  ·have kb1 : b.kind = 1 := by rw [kb]; exact k1
   rw [if_pos k1]
   have na := mayV_one ha k1
   have nb := mayV_one hb kb1
   have e87 : decide ((8 : Int) = 7) = false := by decide
   have e78 : decide ((7 : Int) = 8) = false := by decide
   have w0 : xwrap IntKind.i64 (0 + 0) = 0 := by decide
   have w1 : xwrap IntKind.i64 (0 + 1) = 1 := by decide
   have w2 : xwrap IntKind.i64 (1 + 0) = 1 := by decide
   have w3 : xwrap IntKind.i64 (1 + 1) = 2 := by decide
   have k1' : ¬ ¬ a.kind = 1 := fun h => h k1
   rcases c78 with rfl | rfl <;> rcases na with na | na <;> rcases nb with nb | nb <;> rw [na, nb] <;>
    simp only [w0, w1, w2, w3, e87, e78, k1', decide_true, decide_false, cond_true, cond_false] <;>
    first
     | exact ⟨truthV true, 0, rfl, rfl, rfl⟩
     | exact ⟨truthV false, 0, rfl, rfl, rfl⟩
  ·rw [if_neg k1]
   rcases c78 with rfl | rfl
   ·simp only [k1, not_false_eq_true, decide_true, cond_true]
    exact ⟨⟨0, 0, ByteArray.empty⟩, 5, rfl, by decide⟩
   ·have e87 : decide ((8 : Int) = 7) = false := by decide
    simp only [e87, k1, not_false_eq_true, decide_true, cond_true, cond_false]
    exact ⟨⟨0, 0, ByteArray.empty⟩, 5, rfl, by decide⟩
 ·have c7 : ¬ c = 7 := fun h => c78 (Or.inl h)
  have c8 : ¬ c = 8 := fun h => c78 (Or.inr h)
  rw [if_neg c78]
  simp only [c7, c8, decide_false, cond_false]
  by_cases k0 : a.kind = 0
  ·have k0' : ¬ ¬ a.kind = 0 := fun h => h k0
   rw [if_pos k0]
   simp only [k0', decide_false, cond_false]
   by_cases c2 : c = 2
   ·subst c2
    obtain ⟨n, i, g1, g2⟩ := q_plus a.n b.n
    simp only [decide_true, cond_true, S.zhmt_o, g1, Option.getD_some]
    cases hs : sumV 2 a.n b.n with
    | some m =>
     rw [hs] at g2
     obtain ⟨rfl, rfl⟩ := g2
     exact ⟨⟨0, n, ByteArray.empty⟩, 0, rfl, rfl, rfl⟩
    | none =>
     rw [hs] at g2
     dsimp only at g2
     subst g2
     exact ⟨⟨0, 0, ByteArray.empty⟩, 6, rfl, (show (6 : Int) ≠ 0 by decide)⟩
   by_cases c3 : c = 3
   ·subst c3
    obtain ⟨n, i, g1, g2⟩ := q_minus a.n b.n
    have e32 : decide ((3 : Int) = 2) = false := by decide
    simp only [e32, decide_true, cond_true, cond_false, S.zwex_o, g1, Option.getD_some]
    cases hs : sumV 3 a.n b.n with
    | some m =>
     rw [hs] at g2
     obtain ⟨rfl, rfl⟩ := g2
     exact ⟨⟨0, n, ByteArray.empty⟩, 0, rfl, rfl, rfl⟩
    | none =>
     rw [hs] at g2
     dsimp only at g2
     subst g2
     exact ⟨⟨0, 0, ByteArray.empty⟩, 6, rfl, (show (6 : Int) ≠ 0 by decide)⟩
   ·obtain ⟨n, i, g1, g2⟩ := q_times c a.n b.n c2 c3
    simp only [c2, c3, decide_false, cond_false, S.zvlh_is, S.zvlh_o, g1, Option.isSome_some, Option.getD_some, cond_true]
    cases hs : sumV c a.n b.n with
    | some m =>
     rw [hs] at g2
     obtain ⟨rfl, rfl⟩ := g2
     exact ⟨⟨0, n, ByteArray.empty⟩, 0, rfl, rfl, rfl⟩
    | none =>
     rw [hs] at g2
     dsimp only at g2
     subst g2
     exact ⟨⟨0, 0, ByteArray.empty⟩, 6, rfl, (show (6 : Int) ≠ 0 by decide)⟩
  ·rw [if_neg k0]
   simp only [k0, not_false_eq_true, decide_true, cond_true]
   exact ⟨⟨0, 0, ByteArray.empty⟩, 5, rfl, by decide⟩
theorem twoV_may {c : Int} {a b v : Val} (h : twoV c a b = some v) : mayV v = true ∧ wfVal v := by
 have tv : ∀ x : Bool, mayV (truthV x) = true ∧ wfVal (truthV x) := fun x => by
  cases x
  ·exact ⟨by decide +kernel, by unfold wfVal wfI wfS truthV; exact ⟨by decide, by decide, by decide +kernel⟩⟩
  ·exact ⟨by decide +kernel, by unfold wfVal wfI wfS truthV; exact ⟨by decide, by decide, by decide +kernel⟩⟩
 have wr : ∀ n : Int, wfI (w6 n) := fun n => by unfold wfI w6; rw [IntKind.wrap_i64]; omega
 have num : ∀ n : Int, wfI n → mayV ⟨0, n, ByteArray.empty⟩ = true ∧ wfVal ⟨0, n, ByteArray.empty⟩ := fun n hn => ⟨by simp [mayV], ⟨(by decide : (-9223372036854775808 : Int) ≤ 0 ∧ (0 : Int) ≤ 9223372036854775807), hn, Nat.zero_le _⟩⟩
 unfold twoV at h
 split at h
 ·cases h
 split at h
 ·injection h with h; rw [← h]; exact tv _
 split at h
 ·split at h
  ·cases h
  ·injection h with h; rw [← h]; exact tv _
 split at h
 ·split at h
  ·injection h with h; rw [← h]; exact tv _
  ·cases h
 split at h
 ·cases hs : sumV c a.n b.n with
  | none => rw [hs] at h; cases h
  | some m =>
   rw [hs] at h
   injection h with h
   rw [← h]
   refine num m ?_
   unfold sumV at hs
   split at hs
   ·split at hs
    ·injection hs with hs; rw [← hs]; exact wr _
    ·cases hs
   split at hs
   ·split at hs
    ·injection hs with hs; rw [← hs]; exact wr _
    ·cases hs
   split at hs
   ·injection hs with hs; rw [← hs]; unfold wfI; decide
   split at hs
   ·cases hs
   split at hs
   ·injection hs with hs; rw [← hs]; exact wr _
   ·cases hs
 ·cases h
end Go.Eng
