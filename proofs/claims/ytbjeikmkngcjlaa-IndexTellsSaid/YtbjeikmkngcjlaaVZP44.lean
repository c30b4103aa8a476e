/- What is asked, in plain words: the same, found, told; what all queries ask. -/
import Derived.Test.YtbjeikmkngcjlaaVZG16
import Derived.Test.YtbjeikmkngcjlaaVZP6
set_option linter.unusedVariables false
set_option linter.unusedSimpArgs false
namespace Go.Eng
open Go Go.Eng
theorem ix_wrap {i : Nat} {n : Nat} (h : i < n) (hb : n ≤ maxLen) : IntKind.i64.wrap ((i : Int) + 1) = ((i + 1 : Nat) : Int) := by
 have : n ≤ 2 ^ 63 - 1 := hb
 rw [e_wrap (by omega) (by omega)]; omega
theorem op_eq (a b : Opn) : (bif (xeqI a.code b.code && (xeqI a.arg b.arg && (xeqI a.v.kind b.v.kind && (xeqI a.v.n b.v.n && xdec (a.v.s = b.v.s))))) then false else true) = !decide (a = b) := by
 obtain ⟨c, g, k, n, s⟩ := a
 obtain ⟨c', g', k', n', s'⟩ := b
 simp only [Opn.mk.injEq, Val.mk.injEq, e_xeqI, xdec, Bool.decide_and]
 cases decide (c = c') <;> cases decide (g = g') <;> cases decide (k = k') <;> cases decide (n = n') <;> cases decide (s = s') <;> rfl
theorem q_EqualOp (a b : List (Ty .op)) (ha : a.length ≤ maxLen) : S.zsxf a b = some ⟨decide (@Eq (List Opn) a b)⟩ := by
 unfold S.zsxf S.zsxf_R; dsimp only
 by_cases hl : (a.length : Int) = b.length
 ·have hl' : a.length = b.length := by omega
  obtain ⟨v, hv⟩ := Lp_same (α := Opn) (r := S.zsxf_4_r a b a.length) (fun i => (⟨i⟩ : S.zsxf_4_V)) a b hl' (fun i h h' => by
   have h1 : ((i : Int) < (a.length : Int)) := by omega
   have h2 : (0 : Int) ≤ (i : Int) := by omega
   have h3 : ((i : Int) < (b.length : Int)) := by omega
   unfold S.zsxf_4_r S.zsxf_4_R; dsimp only
   rw [Int.toNat_natCast, getD_of a i _ h, getD_of b i _ h', op_eq]
   simp only [DT.run_br, DT.run_leaf, xdec, xwrap, h1, h2, h3, ix_wrap h ha, decide_true, Bool.and_self, cond_true]
   by_cases he : a[i] = b[i] <;> simp [he]) (by
   unfold S.zsxf_4_r S.zsxf_4_R; simp [DT.run_br, DT.run_leaf, xdec])
  simp only [DT.run_br, DT.run_leaf, DT.run_fail, e_xneI, ne_eq, hl, not_true, decide_false, cond_false, S.zsxf_4_j]
  rw [← hl, Lp_j_of hv, Lp_j_of hv]
  by_cases he : @Eq (List Opn) a b <;> simp [he]
 ·have he : ¬ @Eq (List Opn) a b := by intro h; rw [h] at hl; exact hl rfl
  simp only [DT.run_br, DT.run_leaf, e_xneI, ne_eq, hl, not_false_eq_true, decide_true, cond_true, he, decide_false]
theorem q_ESame (a b : List (Ty .op)) (ha : a.length ≤ maxLen) : S.zbrd a b = some ⟨decide (@Eq (List Opn) a b)⟩ := by
 unfold S.zbrd S.zbrd_R
 simp [DT.run_br, DT.run_leaf, S.zsxf_is, S.zsxf_o, q_EqualOp a b ha]
theorem q_iSame (n m : ByteArray) (a b : List (Ty .op)) (ha : a.length ≤ maxLen) : S.zxqw n a m b = some ⟨decide ((⟨n, a⟩ : Pred) = ⟨m, b⟩)⟩ := by
 unfold S.zxqw S.zxqw_R
 by_cases h : n = m
 ·simp [DT.run_br, DT.run_leaf, xdec, h, S.zbrd_is, S.zbrd_o, q_ESame a b ha]
 ·simp [DT.run_br, DT.run_leaf, xdec, h]
def findL (l : List Pred) (p : Pred) : Int := match l.findIdx? (fun x => decide (x = p)) with
 | some j => j
 | none => -1
theorem q_Find1 (n m : ByteArray) (a b : List (Ty .op)) (ha : a.length ≤ maxLen) : S.zkz5 n a m b = some ⟨decide ((⟨n, a⟩ : Pred) = ⟨m, b⟩)⟩ := by
 unfold S.zkz5 S.zkz5_R
 simp [DT.run_br, DT.run_leaf, S.zxqw_is, S.zxqw_o, q_iSame n m a b ha]
theorem q_Find (l : List (Ty .pred)) (n : ByteArray) (a : List (Ty .op)) (hl : l.length ≤ maxLen) (hw : ∀ (i : Nat) (h : i < l.length), (show Pred from l[i]).ifs.length ≤ maxLen) : S.zgkp l n a = some ⟨findL l ⟨n, a⟩⟩ := by
 have key := Lp_idx (r := S.zqyo_2_r l n a l.length) (fun i => (⟨i⟩ : S.zqyo_2_V)) (α := Pred) l (fun x => decide (x = (⟨n, a⟩ : Pred))) (fun i h => by
  have h1 : ((i : Int) < (l.length : Int)) := by omega
  have h2 : (0 : Int) ≤ (i : Int) := by omega
  have k := q_Find1 (show Pred from l[i]).name n (show Pred from l[i]).ifs a (hw i h)
  unfold S.zqyo_2_r S.zqyo_2_R; dsimp only
  rw [Int.toNat_natCast, getD_of l i _ h]
  simp only [DT.run_br, DT.run_leaf, DT.run_fail, xdec, xwrap, h1, h2, ix_wrap h hl, decide_true, Bool.and_self, cond_true, S.zkz5_is, S.zkz5_o]
  rw [k]
  by_cases he : (show Pred from l[i]) = ⟨n, a⟩
  ·have he' : (⟨(show Pred from l[i]).name, (show Pred from l[i]).ifs⟩ : Pred) = ⟨n, a⟩ := he
   rw [if_pos (decide_eq_true he), decide_eq_true he']; rfl
  ·have he' : ¬ (⟨(show Pred from l[i]).name, (show Pred from l[i]).ifs⟩ : Pred) = ⟨n, a⟩ := he
   rw [if_neg (by rw [decide_eq_true_eq]; exact he), decide_eq_false he']; rfl) (by
  unfold S.zqyo_2_r S.zqyo_2_R; simp [DT.run_br, DT.run_leaf, xdec])
 have : S.zqyo l n a = some ⟨findL l ⟨n, a⟩⟩ := by
  unfold S.zqyo S.zqyo_R findL; dsimp only
  simp only [DT.run_br, DT.run_leaf, DT.run_fail, S.zqyo_2_j, S.zqyo_2_v]
  cases hf : List.findIdx? (fun x => decide (x = (⟨n, a⟩ : Pred))) l with
  | some j => rw [hf] at key; rw [Lp_j_of key, Lp_v_of key]; rfl
  | none => rw [hf] at key; rw [Lp_j_of key, Lp_j_of key]; rfl
 unfold S.zgkp S.zgkp_R
 simp [DT.run_br, DT.run_leaf, S.zqyo_is, S.zqyo_o, this]
noncomputable def tellP (n : ByteArray) (t : Int) (v : List Val) (p : Pred) : Bool := HB p.name p.ifs ⟨n, t, v⟩
theorem set_next {α β : Type} (f : α → β) (d : β) (l : List α) (i : Nat) (h : i < l.length) : ((l.map f).take i ++ List.replicate (l.length - i) d).set i (f l[i]) = (l.map f).take (i + 1) ++ List.replicate (l.length - (i + 1)) d := by
 have e : l.length - i = (l.length - (i + 1)) + 1 := by omega
 have e2 : ((l.map f).take i).length = i := by simp; omega
 rw [e, List.replicate_succ, List.set_append_right _ _ (by omega), e2, Nat.sub_self, List.set_cons_zero]
 rw [List.take_succ_eq_append_getElem (by simpa using h)]
 simp
theorem q_toldO (l : List (Ty .pred)) (n : ByteArray) (t : Int) (v : List (Ty .val)) (hl : l.length ≤ 1048576) : S.zxuk l n t v = some ⟨l.map (tellP n t v), l.length⟩ := by
 have key : Lp (S.zxuk_3_r l.length l l.length n t v) (⟨0, List.replicate l.length (dflt ET.bool)⟩ : S.zxuk_3_V) = some (0, ⟨l.length, l.map (tellP n t v)⟩) := by
  have := Lp_walk (r := S.zxuk_3_r l.length l l.length n t v) (fun k => (⟨(k : Int), ((l.map (tellP n t v)).take k ++ List.replicate (l.length - k) (dflt ET.bool) : List Bool)⟩ : S.zxuk_3_V)) l.length 0 (fun i h => by
   have h1 : ((i : Int) < (l.length : Int)) := by omega
   have h2 : (0 : Int) ≤ (i : Int) := by omega
   have h3 : 0 + i < ((l.map (tellP n t v)).take i ++ List.replicate (l.length - i) (dflt ET.bool) : List Bool).length := by simp; omega
   unfold S.zxuk_3_r S.zxuk_3_R; dsimp only
   rw [Int.toNat_natCast, getD_of l i _ h]
   simp only [DT.run_br, DT.run_leaf, DT.run_fail, xdec, xwrap, h1, h2, h3, ix_wrap h (Nat.le_trans hl (by decide)), decide_true, Bool.and_self, cond_true, S.zh5h_is, S.zh5h_o, q_iHolds, Option.isSome_some, Option.getD_some]
   rw [Nat.zero_add]
   have e := set_next (α := Pred) (tellP n t v) (dflt ET.bool) l i h
   rw [← e]; rfl) (by
   unfold S.zxuk_3_r S.zxuk_3_R; simp [DT.run_br, DT.run_leaf, xdec])
  have e : ((l.map (tellP n t v)).take l.length ++ List.replicate (l.length - l.length) (dflt ET.bool) : List Bool) = l.map (tellP n t v) := by rw [Nat.sub_self, List.replicate_zero, List.append_nil, List.take_of_length_le (by simp)]
  rw [e] at this
  simpa using this
 unfold S.zxuk S.zxuk_R; dsimp only
 have h0 : (0 : Int) ≤ (l.length : Int) := by omega
 have h1 : (l.length : Int) ≤ 1048576 := by omega
 rw [Int.toNat_natCast]
 simp only [DT.run_br, DT.run_leaf, DT.run_fail, xdec, e_xeqI, h0, h1, decide_true, Bool.and_self, cond_true, S.zxuk_3_j, S.zxuk_3_v]
 rw [Lp_j_of key, Lp_v_of key]; rfl
end Go.Eng
