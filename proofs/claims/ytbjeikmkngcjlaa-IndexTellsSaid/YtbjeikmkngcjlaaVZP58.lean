/- Which value is less: the code's word is the document's. -/
import Derived.Test.YtbjeikmkngcjlaaVZP57
set_option linter.unusedVariables false
set_option linter.unusedSimpArgs false
namespace Go.Eng
open Go Go.Eng
def lessV (a b : Val) : Bool := if a.kind = 2 then strLt a.s b.s else decide (a.n < b.n)
theorem q_cmpI (a b : Int) : S.zlpd a b = some ⟨if a < b then -1 else if a > b then 1 else 0⟩ := by
 unfold S.zlpd S.zlpd_R S.zc3b_o S.zc3b S.zc3b_R
 simp only [DT.run_br, DT.run_leaf, e_xneI, ne_eq, not_true, decide_false, Option.getD_some, cond_false, xdec]
 by_cases h1 : a < b
 ·simp [h1]
 ·by_cases h2 : a > b <;> simp [h1, h2]
theorem q_cmpS (a b : ByteArray) : S.zcxf a b = some ⟨if strLt a b = true then -1 else if a = b then 0 else 1⟩ := by
 unfold S.zcxf S.zcxf_R S.zong_o S.zong S.zong_R
 simp only [DT.run_br, DT.run_leaf, xdec, xnot, decide_true, Bool.not_true, Option.getD_some, cond_false]
 by_cases h1 : strLt a b = true
 ·simp [h1]
 ·by_cases h2 : a = b
  ·subst h2
   have h3 : strLt a a = false := by simpa using h1
   simp [h3]
  ·simp [h1, h2]
theorem q_or2 (a b : Int) : S.zto6 [a, b] = some ⟨if a = 0 then b else a⟩ := by
 have w0 : IntKind.i64.wrap 1 = 1 := by decide
 have w1 : IntKind.i64.wrap 2 = 2 := by decide
 by_cases ha : a = 0
 ·by_cases hb : b = 0
  ·have e : Lp (S.zto6_3_r 0 [a, b] 2) (⟨0⟩ : S.zto6_3_V) = some (1, ⟨2⟩) := by
     rw [Lp_cont (v' := (⟨1⟩ : S.zto6_3_V)) (by unfold S.zto6_3_r S.zto6_3_R; simp [DT.run_br, DT.run_leaf, xdec, xwrap, e_xneI, ha, w0]),
      Lp_cont (v' := (⟨2⟩ : S.zto6_3_V)) (by unfold S.zto6_3_r S.zto6_3_R; simp [DT.run_br, DT.run_leaf, xdec, xwrap, e_xneI, hb, w1])]
     exact Lp_exit (by unfold S.zto6_3_r S.zto6_3_R; simp [DT.run_br, DT.run_leaf, xdec])
   unfold S.zto6 S.zto6_R; dsimp only
   have e' : Lp (S.zto6_3_r 0 [a, b] (([a, b] : List Int).length : Int)) (⟨0⟩ : S.zto6_3_V) = some (1, ⟨2⟩) := e
   simp only [DT.run_br, DT.run_leaf, S.zto6_3_j, S.zto6_3_v]
   rw [show Lp_j (S.zto6_3_r 0 [a, b] ((List.length [a, b] : Nat) : Int)) (⟨0⟩ : S.zto6_3_V) 0 = _ from Lp_j_of e' 0, show Lp_j (S.zto6_3_r 0 [a, b] ((List.length [a, b] : Nat) : Int)) (⟨0⟩ : S.zto6_3_V) 1 = _ from Lp_j_of e' 1]
   rw [if_pos ha, hb]; rfl
  ·have e : Lp (S.zto6_3_r 0 [a, b] 2) (⟨0⟩ : S.zto6_3_V) = some (0, ⟨1⟩) := by
     rw [Lp_cont (v' := (⟨1⟩ : S.zto6_3_V)) (by unfold S.zto6_3_r S.zto6_3_R; simp [DT.run_br, DT.run_leaf, xdec, xwrap, e_xneI, ha, w0])]
     exact Lp_exit (by unfold S.zto6_3_r S.zto6_3_R; simp [DT.run_br, DT.run_leaf, xdec, xwrap, e_xneI, hb])
   unfold S.zto6 S.zto6_R; dsimp only
   have e' : Lp (S.zto6_3_r 0 [a, b] (([a, b] : List Int).length : Int)) (⟨0⟩ : S.zto6_3_V) = some (0, ⟨1⟩) := e
   simp only [DT.run_br, DT.run_leaf, S.zto6_3_j, S.zto6_3_v]
   rw [show Lp_j (S.zto6_3_r 0 [a, b] ((List.length [a, b] : Nat) : Int)) (⟨0⟩ : S.zto6_3_V) 0 = _ from Lp_j_of e' 0, show Lp_v (S.zto6_3_r 0 [a, b] ((List.length [a, b] : Nat) : Int)) (⟨0⟩ : S.zto6_3_V) = _ from Lp_v_of e']
   rw [if_pos ha]; rfl
 ·have e : Lp (S.zto6_3_r 0 [a, b] 2) (⟨0⟩ : S.zto6_3_V) = some (0, ⟨0⟩) :=
    Lp_exit (by unfold S.zto6_3_r S.zto6_3_R; simp [DT.run_br, DT.run_leaf, xdec, xwrap, e_xneI, ha])
  unfold S.zto6 S.zto6_R; dsimp only
  have e' : Lp (S.zto6_3_r 0 [a, b] (([a, b] : List Int).length : Int)) (⟨0⟩ : S.zto6_3_V) = some (0, ⟨0⟩) := e
  simp only [DT.run_br, DT.run_leaf, S.zto6_3_j, S.zto6_3_v]
  rw [show Lp_j (S.zto6_3_r 0 [a, b] ((List.length [a, b] : Nat) : Int)) (⟨0⟩ : S.zto6_3_V) 0 = _ from Lp_j_of e' 0, show Lp_v (S.zto6_3_r 0 [a, b] ((List.length [a, b] : Nat) : Int)) (⟨0⟩ : S.zto6_3_V) = _ from Lp_v_of e']
  rw [if_neg ha]; rfl
theorem less_self : ∀ l : List UInt8, Op.bytesLess l l = false
 | [] => rfl
 | a :: l => by
  unfold Op.bytesLess
  rw [less_self l]
  simp
theorem strLt_self (s : ByteArray) : strLt s s = false := less_self _
theorem mayV_s {v : Val} (h : mayV v = true) (k : v.kind ≠ 2) : v.s = ByteArray.empty := by
 unfold mayV at h
 simp [k] at h
 exact h.1
theorem mayV_n {v : Val} (h : mayV v = true) (k : v.kind = 2) : v.n = 0 := by
 unfold mayV at h
 simp [k] at h
 exact h.1
theorem q_Less (a b : Val) (ha : mayV a = true) (hb : mayV b = true) (hk : a.kind = b.kind) (wa : wfVal a) (wb : wfVal b) : S.zzxm a.kind a.n a.s b.kind b.n b.s = some ⟨lessV a b, true⟩ := by
 have m1 := q_vMay a.kind a.n a.s wa.2.1
 have m2 := q_vMay b.kind b.n b.s wb.2.1
 have e1 : (⟨a.kind, a.n, a.s⟩ : Val) = a := rfl
 have e2 : (⟨b.kind, b.n, b.s⟩ : Val) = b := rfl
 rw [e1, ha] at m1
 rw [e2, hb] at m2
 unfold S.zzxm S.zzxm_R; dsimp only
 have c1 := q_cmpI a.n b.n
 have c2 := q_cmpS a.s b.s
 have hk' : ¬ ¬ a.kind = b.kind := fun h => h hk
 simp only [S.z3yc_is, S.z3yc_o, m1, m2, S.zlpd_is, S.zlpd_o, c1, S.zcxf_is, S.zcxf_o, c2, Option.isSome_some, Option.getD_some, DT.run_br, DT.run_leaf, DT.run_fail, cond_true, cond_false, xnot, Bool.not_true, e_xneI, ne_eq, hk', decide_false]
 have e3 : ∀ x y : Int, sub [x, y] 0 (0 + 2) = [x, y] := fun _ _ => rfl
 rw [e3]
 have c3 := q_or2 (if a.n < b.n then -1 else if a.n > b.n then 1 else 0) (if strLt a.s b.s = true then -1 else if a.s = b.s then 0 else 1)
 simp only [S.zto6_is, S.zto6_o, c3]
 have key : decide ((if (if a.n < b.n then (-1 : Int) else if a.n > b.n then 1 else 0) = 0 then (if strLt a.s b.s = true then (-1 : Int) else if a.s = b.s then 0 else 1) else (if a.n < b.n then (-1 : Int) else if a.n > b.n then 1 else 0)) < 0) = lessV a b := by
  unfold lessV
  by_cases k2 : a.kind = 2
  ·rw [if_pos k2, mayV_n ha k2, mayV_n hb (by rw [← hk]; exact k2)]
   cases strLt a.s b.s
   ·by_cases h : a.s = b.s <;> simp [h]
   ·simp
  ·rw [if_neg k2, mayV_s ha k2, mayV_s hb (by rw [← hk]; exact k2), strLt_self]
   by_cases h1 : a.n < b.n
   ·simp [h1]
   ·by_cases h2 : a.n > b.n <;> simp [h1, h2]
 simp only [Option.isSome_some, Option.getD_some, xdec, Bool.and_true, Nat.zero_add, List.length_set, List.length_replicate, Nat.le_refl, decide_true, cond_true]
 rw [key]
theorem less_loop (a b : ByteArray) (hb : b.size ≤ maxLen) : ∀ (k i : Nat), i + k = b.size → ∃ j v, Lp (S.zzst_8_r a b) (⟨(i : Int)⟩ : S.zzst_8_V) = some (j, v) ∧
    (j = 0 ∧ Op.bytesLess (a.data.toList.drop i) (b.data.toList.drop i) = true ∨ j = 1 ∧ decide ((byteAt a v.t8_.toNat : Int) < (byteAt b v.t8_.toNat : Int)) = Op.bytesLess (a.data.toList.drop i) (b.data.toList.drop i) ∨ j = 2 ∧ Op.bytesLess (a.data.toList.drop i) (b.data.toList.drop i) = false)
 | 0, i, hi => by
  refine ⟨2, ⟨(i : Int)⟩, Lp_exit ?_, .inr (.inr ⟨rfl, ?_⟩)⟩
  ·have h1 : ¬ ((i : Int) < (b.size : Int)) := by omega
   unfold S.zzst_8_r S.zzst_8_R
   simp only [DT.run_br, DT.run_leaf, xdec, h1, decide_false, cond_false]
  ·have e : b.data.toList.drop i = [] := List.drop_eq_nil_of_le (by rw [Array.length_toList]; show b.size ≤ i; omega)
   rw [e]
   unfold Op.bytesLess
   rfl
 | k + 1, i, hi => by
  have hlt : i < b.size := by omega
  have hb' : i < b.data.toList.length := by rw [Array.length_toList]; exact hlt
  have h1 : ((i : Int) < (b.size : Int)) := by omega
  have h0 : (0 : Int) ≤ (i : Int) := by omega
  rw [List.drop_eq_getElem_cons hb']
  by_cases ha : i < a.size
  ·have ha' : i < a.data.toList.length := by rw [Array.length_toList]; exact ha
   have h2 : ¬ ((i : Int) ≥ (a.size : Int)) := by omega
   have h3 : (i : Int) < (a.size : Int) := by omega
   rw [List.drop_eq_getElem_cons ha']
   have ea : byteAt a i = (a.data.toList[i]).toNat := by rw [byteAt_get a i ha]; rfl
   have eb : byteAt b i = (b.data.toList[i]).toNat := by rw [byteAt_get b i hlt]; rfl
   by_cases he : a.data.toList[i] = b.data.toList[i]
   ·obtain ⟨j, v, g1, g2⟩ := less_loop a b hb k (i + 1) (by omega)
    refine ⟨j, v, ?_, ?_⟩
    ·rw [← g1]
     refine Lp_cont ?_
     have hn : ¬ ¬ ((byteAt a i : Int) = (byteAt b i : Int)) := by rw [ea, eb, he]; exact fun h => h rfl
     unfold S.zzst_8_r S.zzst_8_R; dsimp only
     rw [Int.toNat_natCast]
     simp only [DT.run_br, DT.run_leaf, DT.run_fail, xdec, xwrap, e_xneI, ne_eq, h0, h1, h2, h3, hn, ix_wrap hlt hb, decide_true, decide_false, Bool.and_self, cond_true, cond_false]
    ·have eL : Op.bytesLess (a.data.toList[i] :: a.data.toList.drop (i + 1)) (b.data.toList[i] :: b.data.toList.drop (i + 1)) = Op.bytesLess (a.data.toList.drop (i + 1)) (b.data.toList.drop (i + 1)) := by
       rw [Op.bytesLess, he]; simp
     rw [eL]; exact g2
   ·refine ⟨1, ⟨(i : Int)⟩, Lp_exit ?_, .inr (.inl ⟨rfl, ?_⟩)⟩
    ·have hn : ¬ ((byteAt a i : Int) = (byteAt b i : Int)) := by
       rw [ea, eb]; intro h
       exact he (UInt8.toNat_inj.mp (Int.ofNat.inj h))
     unfold S.zzst_8_r S.zzst_8_R; dsimp only
     rw [Int.toNat_natCast]
     simp only [DT.run_br, DT.run_leaf, DT.run_fail, xdec, xwrap, e_xneI, ne_eq, h0, h1, h2, h3, hn, not_false_eq_true, decide_true, decide_false, Bool.and_self, cond_true, cond_false]
    ·dsimp only
     rw [Int.toNat_natCast, ea, eb, Op.bytesLess]
     have h5 : (a.data.toList[i] == b.data.toList[i]) = false := by simpa using he
     rw [h5, Bool.false_and, Bool.or_false, Bool.eq_iff_iff, decide_eq_true_eq, decide_eq_true_eq, UInt8.lt_iff_toNat_lt]
     omega
  ·refine ⟨0, ⟨(i : Int)⟩, Lp_exit ?_, .inl ⟨rfl, ?_⟩⟩
   ·have h2 : ((i : Int) ≥ (a.size : Int)) := by omega
    unfold S.zzst_8_r S.zzst_8_R
    simp only [DT.run_br, DT.run_leaf, xdec, h1, h2, decide_true, cond_true]
   ·have e : a.data.toList.drop i = [] := List.drop_eq_nil_of_le (by rw [Array.length_toList]; show a.size ≤ i; omega)
    rw [e]; rfl
theorem q_rLess (a b : Val) (ha : mayV a = true) (hb : mayV b = true) (hk : a.kind = b.kind) (wb : b.s.size ≤ maxLen) : S.zzst a.kind a.n a.s b.kind b.n b.s = some ⟨lessV a b, true⟩ := by
 have m1 := q_rMay a.kind a.n a.s
 have m2 := q_rMay b.kind b.n b.s
 have e1 : (⟨a.kind, a.n, a.s⟩ : Val) = a := rfl
 have e2 : (⟨b.kind, b.n, b.s⟩ : Val) = b := rfl
 rw [e1, ha] at m1
 rw [e2, hb] at m2
 have hk' : ¬ ¬ a.kind = b.kind := fun h => h hk
 unfold S.zzst S.zzst_R lessV; dsimp only
 simp only [S.zfbt_is, S.zfbt_o, m1, m2, Option.isSome_some, Option.getD_some, DT.run_br, DT.run_leaf, DT.run_fail, cond_true, cond_false, xnot, Bool.not_true, e_xneI, ne_eq, hk', decide_false, xdec]
 by_cases k2 : a.kind = 2
 ·rw [if_pos k2]
  obtain ⟨j, v, g1, g2⟩ := less_loop a.s b.s wb b.s.size 0 (by omega)
  have g1' : Lp (S.zzst_8_r a.s b.s) (⟨0⟩ : S.zzst_8_V) = some (j, v) := g1
  have eL : strLt a.s b.s = Op.bytesLess (a.s.data.toList.drop 0) (b.s.data.toList.drop 0) := by
   unfold strLt; rw [ByteArray.toList_eq, ByteArray.toList_eq, List.drop_zero, List.drop_zero]
  have k2' : ¬ ¬ a.kind = 2 := fun h => h k2
  simp only [S.zzst_8_j, S.zzst_8_v, Lp_j_of g1', Lp_v_of g1', k2', decide_false, cond_false]
  rw [eL]
  rcases g2 with ⟨rfl, h⟩ | ⟨rfl, h⟩ | ⟨rfl, h⟩
  ·rw [h]; rfl
  ·rw [← h]; rfl
  ·rw [h]; rfl
 ·simp only [k2, not_false_eq_true, decide_true, cond_true, if_false]
end Go.Eng
