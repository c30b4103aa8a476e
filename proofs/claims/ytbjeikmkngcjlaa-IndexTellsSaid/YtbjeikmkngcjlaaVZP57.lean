/- Names, and which events may be: the code's word is the document's. -/
import Derived.Test.YtbjeikmkngcjlaaVZP56
set_option linter.unusedVariables false
set_option linter.unusedSimpArgs false
namespace Go.Eng
open Go Go.Eng
theorem byteAt_get (s : ByteArray) (i : Nat) (h : i < s.size) : byteAt s i = (s[i]'h).toNat := by
 unfold byteAt
 have h' : i < s.data.size := h
 rw [Array.getElem?_eq_getElem h']
 rfl
theorem nm_all (s : ByteArray) : ∀ b pos, s.size ≤ pos + b → S.nmGo s b pos = (List.range' pos (s.size - pos)).all (fun i => S.nmC i (byteAt s i))
 | 0, pos, h => by
  have e : s.size - pos = 0 := by omega
  rw [e]; rfl
 | b + 1, pos, h => by
  unfold S.nmGo
  by_cases hp : pos < s.size
  ·rw [if_pos hp]
   have e : s.size - pos = (s.size - (pos + 1)) + 1 := by omega
   rw [e, List.range'_succ, List.all_cons]
   by_cases ha : (s[pos]'hp).toNat < 128
   ·rw [decode_ascii s pos hp ha, byteAt_get s pos hp]
    dsimp only
    rw [nm_all s b (pos + 1) (by omega)]
   ·have hd := (decode_high s pos hp (by omega)).1
    have n1 : S.nmC pos (Utf8.decode s pos).1 = false := by
     unfold S.nmC
     have a1 : ¬ (Utf8.decode s pos).1 ≤ 122 := by omega
     have a2 : ¬ (Utf8.decode s pos).1 ≤ 57 := by omega
     have a3 : ¬ (Utf8.decode s pos).1 = 95 := by omega
     simp [a1, a2, a3]
    have n2 : S.nmC pos (byteAt s pos) = false := by
     rw [byteAt_get s pos hp]
     unfold S.nmC
     have a1 : ¬ (s[pos]'hp).toNat ≤ 122 := by omega
     have a2 : ¬ (s[pos]'hp).toNat ≤ 57 := by omega
     have a3 : ¬ (s[pos]'hp).toNat = 95 := by omega
     simp [a1, a2, a3]
    rw [n1, n2, Bool.false_and, Bool.false_and]
  ·rw [if_neg hp]
   have e : s.size - pos = 0 := by omega
   rw [e]; rfl
def nameOk (s : ByteArray) : Bool := (List.range s.size).all (fun i => S.nmC i (byteAt s i)) && (decide (1 ≤ s.size) && decide (s.size ≤ 12))
theorem nmOk_eq (s : ByteArray) : S.nmOk s = nameOk s := by
 unfold S.nmOk nameOk
 rw [nm_all s s.size 0 (by omega), Nat.sub_zero, List.range_eq_range']
 congr 2
 rw [ByteArray.toList_eq, Bool.eq_iff_iff]
 rw [Bool.not_eq_true', List.isEmpty_eq_false_iff, decide_eq_true_eq]
 constructor
 ·intro h
  have h2 := List.length_pos_iff.mpr h
  rw [Array.length_toList] at h2
  exact h2
 ·intro h h2
  have h3 : s.data.size = 0 := by rw [← Array.length_toList, h2]; rfl
  have h4 : s.size = 0 := h3
  omega
theorem nm_bits {A : Type} (b97 b122 bi b95 b48 b57 : Bool) (x y : A) : (bif b97 then (bif !b122 then (bif !bi then x else bif !b95 then (bif !b48 then x else bif !b57 then x else y) else y) else y)
    else (bif !false then (bif !bi then x else bif !b95 then (bif !b48 then x else bif !b57 then x else y) else y) else y)) = if (!((b97 && b122) || (bi && (b95 || (b48 && b57))))) = true then x else y := by
 cases b97 <;> cases b122 <;> cases bi <;> cases b95 <;> cases b48 <;> cases b57 <;> rfl
theorem q_rName (s : ByteArray) (hl : s.size ≤ maxLen) : S.ztra s = some ⟨nameOk s⟩ := by
 have hm : maxLen = 2 ^ 63 - 1 := rfl
 have key := Lp_idx (r := S.ztra_2_r s) (fun i => (⟨i⟩ : S.ztra_2_V)) (List.range s.size) (fun i => !S.nmC i (byteAt s i)) (fun i h => by
  have hi : i < s.size := by simpa using h
  have h1 : ((i : Int) < (s.size : Int)) := by omega
  have h2 : (0 : Int) ≤ (i : Int) := by omega
  rw [List.getElem_range]
  unfold S.ztra_2_r S.ztra_2_R; dsimp only
  rw [Int.toNat_natCast]
  generalize byteAt s i = c
  have w := ix_wrap hi hl
  have k97 : decide ((c : Int) ≥ 97) = decide (97 ≤ c) := by rw [Bool.eq_iff_iff]; simp; omega
  have k122 : decide ((c : Int) ≤ 122) = decide (c ≤ 122) := by rw [Bool.eq_iff_iff]; simp; omega
  have k48 : decide ((c : Int) < 48) = !decide (48 ≤ c) := by rw [Bool.eq_iff_iff]; simp; omega
  have k57 : decide ((c : Int) > 57) = !decide (c ≤ 57) := by rw [Bool.eq_iff_iff]; simp; omega
  have k95 : decide (¬ (c : Int) = 95) = !decide (c = 95) := by rw [Bool.eq_iff_iff]; simp; omega
  have k0 : decide ((i : Int) = 0) = !decide (0 < i) := by rw [Bool.eq_iff_iff]; simp
  simp only [DT.run_br, DT.run_leaf, DT.run_fail, xdec, xwrap, xnot, e_xeqI, e_xneI, ne_eq, w, h1, h2, k97, k122, k48, k57, k95, k0, decide_true, Bool.and_self, cond_true, S.nmC]
  exact nm_bits _ _ _ _ _ _ _ _) (by
  unfold S.ztra_2_r S.ztra_2_R; simp [DT.run_br, DT.run_leaf, xdec])
 rw [List.length_range] at key
 have e0 : (⟨((0 : Nat) : Int)⟩ : S.ztra_2_V) = ⟨0⟩ := rfl
 unfold S.ztra S.ztra_R nameOk; dsimp only
 simp only [DT.run_br, DT.run_leaf, DT.run_fail, S.ztra_2_j, xdec]
 have k1 : decide ((s.size : Int) ≥ 1) = decide (1 ≤ s.size) := by rw [Bool.eq_iff_iff]; simp; omega
 have k2 : decide ((s.size : Int) ≤ 12) = decide (s.size ≤ 12) := by rw [Bool.eq_iff_iff]; simp; omega
 rw [k1, k2]
 cases hf : (List.range s.size).findIdx? (fun i => !S.nmC i (byteAt s i)) with
 | some j =>
  rw [hf] at key; rw [Lp_j_of key]
  have h3 : (List.range s.size).any (fun i => !S.nmC i (byteAt s i)) = true := by rw [← List.findIdx?_isSome, hf]; rfl
  have h4 : (List.range s.size).all (fun i => S.nmC i (byteAt s i)) = false := by
   rw [List.any_eq_true] at h3
   obtain ⟨x, hx, h3⟩ := h3
   rw [List.all_eq_false]; exact ⟨x, hx, by simpa using h3⟩
  rw [h4]; rfl
 | none =>
  rw [hf] at key; rw [Lp_j_of key, Lp_j_of key]
  have h4 : (List.range s.size).all (fun i => S.nmC i (byteAt s i)) = true := by
   rw [List.all_eq_true]
   intro x hx
   have := List.findIdx?_eq_none_iff.1 hf x hx
   simpa using this
  rw [h4]
  cases decide (1 ≤ s.size) <;> rfl
def mayEv (n : ByteArray) (t : Int) (v : List Val) : Bool := nameOk n && (decide (t ≥ 0) && (decide (t ≤ 1125899906842624) && (decide ((v.length : Int) ≤ 6) && v.all mayV)))
theorem q_conVal2 (l : List (Ty .val)) (hb : l.length ≤ 1048576) (hw : ∀ x ∈ (show List Val from l), wfVal x) : S.z2hn l = some ⟨!(show List Val from l).all mayV⟩ := by
 have e := Lp_idx (r := S.zzbr_2_r l l.length) (fun i => (⟨i⟩ : S.zzbr_2_V)) (α := Val) l (fun x => !mayV x) (fun i h => by
  have h1 : ((i : Int) < (l.length : Int)) := by omega
  have h2 : (0 : Int) ≤ (i : Int) := by omega
  have hx := hw _ (List.getElem_mem h)
  have k := q_vMay (Val.kind l[i]) (Val.n l[i]) (Val.s l[i]) hx.2.1
  have k2 : S.zajt (Val.kind l[i]) (Val.n l[i]) (Val.s l[i]) = some ⟨!mayV l[i]⟩ := by
   unfold S.zajt S.zajt_R
   simp only [DT.run_br, DT.run_leaf, S.z3yc_is, S.z3yc_o, k, Option.isSome_some, Option.getD_some, cond_true, xnot]
  unfold S.zzbr_2_r S.zzbr_2_R; dsimp only
  rw [Int.toNat_natCast, getD_of l i _ h]
  simp only [DT.run_br, DT.run_leaf, DT.run_fail, xdec, xwrap, h1, h2, ix_wrap h (Nat.le_trans hb (by decide)), decide_true, Bool.and_self, cond_true, S.zajt_is, S.zajt_o, k2, Option.isSome_some, Option.getD_some]
  generalize mayV l[i] = b
  cases b <;> rfl) (by
  unfold S.zzbr_2_r S.zzbr_2_R; simp [DT.run_br, DT.run_leaf, xdec])
 have k : ∃ n, S.zzbr l = some ⟨n⟩ ∧ decide (n ≥ 0) = (show List Val from l).any (fun x => !mayV x) := by
  rw [← List.findIdx?_isSome]
  unfold S.zzbr S.zzbr_R; dsimp only
  simp only [DT.run_br, DT.run_leaf, DT.run_fail, S.zzbr_2_j, S.zzbr_2_v]
  cases hf : (show List Val from l).findIdx? (fun x => !mayV x) with
  | none => rw [show List.findIdx? (fun x => !mayV x) l = none from hf] at e; rw [Lp_j_of e, Lp_j_of e]; exact ⟨-1, rfl, by decide⟩
  | some j => rw [show List.findIdx? (fun x => !mayV x) l = some j from hf] at e; rw [Lp_j_of e, Lp_v_of e]; exact ⟨_, rfl, by simp⟩
 obtain ⟨n, h1, h2⟩ := k
 unfold S.z2hn S.z2hn_R
 simp only [DT.run_br, DT.run_leaf, S.zzbr_is, S.zzbr_o, h1, xdec, Option.isSome_some, Option.getD_some, cond_true, h2]
 refine congrArg some (congrArg S.z2hn_T.mk ?_)
 rw [Bool.eq_iff_iff, List.any_eq_true, Bool.not_eq_true', List.all_eq_false]
 constructor
 ·rintro ⟨x, hx, h⟩; exact ⟨x, hx, by simpa using h⟩
 ·rintro ⟨x, hx, h⟩; exact ⟨x, hx, by simpa using h⟩
theorem q_evMay2 (n : ByteArray) (t : Int) (v : List (Ty .val)) (hw : ∀ x ∈ (show List Val from v), wfVal x) : (S.zwl5_o n t v).x0 = mayEv n t v := by
 unfold S.zwl5_o S.zwl5 S.zwl5_R mayEv
 rw [nmOk_eq]
 simp only [DT.run_br, DT.run_leaf, DT.run_fail, xdec, xnot]
 by_cases h6 : (v.length : Int) ≤ 6
 ·have k := q_conVal2 v (by omega) hw
  simp only [S.z2hn_is, S.z2hn_o, k, Option.isSome_some, Option.getD_some, cond_true, h6, decide_true, Bool.not_not, Bool.true_and]
  cases nameOk n <;> cases decide (t ≥ 0) <;> cases decide (t ≤ 1125899906842624) <;> rfl
 ·simp only [h6, decide_false, cond_false, Bool.false_and, Bool.and_false]
  cases nameOk n <;> cases decide (t ≥ 0) <;> cases decide (t ≤ 1125899906842624) <;> rfl
theorem q_rEvMay (n : ByteArray) (t : Int) (v : List (Ty .val)) (hn : n.size ≤ maxLen) (hv : v.length ≤ maxLen) : S.zekf n t v = some ⟨mayEv n t v⟩ := by
 have e := Lp_idx (r := S.zekf_5_r v) (fun i => (⟨i⟩ : S.zekf_5_V)) (α := Val) v (fun x => !mayV x) (fun i h => by
  have h1 : ((i : Int) < (v.length : Int)) := by omega
  have h2 : (0 : Int) ≤ (i : Int) := by omega
  have k := q_rMay (Val.kind v[i]) (Val.n v[i]) (Val.s v[i])
  unfold S.zekf_5_r S.zekf_5_R; dsimp only
  rw [Int.toNat_natCast, getD_of v i _ h]
  simp only [DT.run_br, DT.run_leaf, DT.run_fail, xdec, xwrap, xnot, h1, h2, ix_wrap h hv, decide_true, Bool.and_self, cond_true, S.zfbt_is, S.zfbt_o, k, Option.isSome_some, Option.getD_some]
  have e : (⟨Val.kind v[i], Val.n v[i], Val.s v[i]⟩ : Val) = v[i] := rfl
  rw [e]
  generalize mayV v[i] = b
  cases b <;> rfl) (by
  unfold S.zekf_5_r S.zekf_5_R; simp [DT.run_br, DT.run_leaf, xdec])
 have kn := q_rName n hn
 unfold S.zekf S.zekf_R mayEv; dsimp only
 simp only [DT.run_br, DT.run_leaf, DT.run_fail, xdec, xnot, S.ztra_is, S.ztra_o, kn, Option.isSome_some, Option.getD_some, cond_true, S.zekf_5_j]
 have k1 : decide (t < 0) = !decide (t ≥ 0) := by rw [Bool.eq_iff_iff]; simp
 have k2 : decide (t > 1125899906842624) = !decide (t ≤ 1125899906842624) := by rw [Bool.eq_iff_iff]; simp
 have k3 : decide ((v.length : Int) > 6) = !decide ((v.length : Int) ≤ 6) := by rw [Bool.eq_iff_iff]; simp
 rw [k1, k2, k3]
 cases hf : (show List Val from v).findIdx? (fun x => !mayV x) with
 | some j =>
  rw [show List.findIdx? (fun x => !mayV x) v = some j from hf] at e; rw [Lp_j_of e]
  have h3 : (show List Val from v).any (fun x => !mayV x) = true := by rw [← List.findIdx?_isSome, hf]; rfl
  have h4 : (show List Val from v).all mayV = false := by
   rw [List.any_eq_true] at h3
   obtain ⟨x, hx, h3⟩ := h3
   rw [List.all_eq_false]; exact ⟨x, hx, by simpa using h3⟩
  rw [show List.all v mayV = false from h4]
  cases nameOk n <;> cases decide (t ≥ 0) <;> cases decide (t ≤ 1125899906842624) <;> cases decide ((v.length : Int) ≤ 6) <;> rfl
 | none =>
  rw [show List.findIdx? (fun x => !mayV x) v = none from hf] at e; rw [Lp_j_of e, Lp_j_of e]
  have h4 : (show List Val from v).all mayV = true := by
   rw [List.all_eq_true]
   intro x hx
   have := List.findIdx?_eq_none_iff.1 hf x hx
   simpa using this
  rw [show List.all v mayV = true from h4]
  cases nameOk n <;> cases decide (t ≥ 0) <;> cases decide (t ≤ 1125899906842624) <;> cases decide ((v.length : Int) ≤ 6) <;> rfl
end Go.Eng
