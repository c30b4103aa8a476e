/- What all queries ask, each once: the code's map keeps where each name's lie. -/
import Derived.Test.YtbjeikmkngcjlaaVZP44
set_option linter.unusedVariables false
set_option linter.unusedSimpArgs false
namespace Go.Eng
open Go Go.Eng
def asks (s : Step) : List Pred := (⟨s.name, s.ifs⟩ : Pred) :: (if s.guard = true then [(⟨s.notName, s.notIf⟩ : Pred)] else [])
def addP (m : List Pred) (p : Pred) : List Pred := if p ∈ m then m else m ++ [p]
def allP (l : List Query) : List Pred := (l.flatMap (fun q => q.steps.flatMap asks)).foldl addP []
abbrev MP := List (ByteArray × List Int)
def addM (σ : MP × List Pred) (p : Pred) : MP × List Pred := if p ∈ σ.2 then σ else (setL σ.1 p.name (lookL σ.1 p.name ++ [(σ.2.length : Int)]), σ.2 ++ [p])
def idxs (m : List Pred) (n : ByteArray) : List Int := ((List.range m.length).filter (fun i => decide ((m.getD i default).name = n))).map Int.ofNat
def okM (σ : MP × List Pred) : Prop := ∀ n, lookL σ.1 n = idxs σ.2 n
theorem lookL_set : ∀ (l : MP) (k n : ByteArray) (x : List Int), lookL (setL l k x) n = if k = n then x else lookL l n
 | [], k, n, x => by simp [setL, lookL]
 | q :: r, k, n, x => by
  unfold setL
  by_cases h : q.1 = k
  ·rw [if_pos h]; unfold lookL
   by_cases h2 : k = n
   ·simp [h2]
   ·have : ¬ q.1 = n := by rw [h]; exact h2
    simp [h2, this]
  ·rw [if_neg h]; unfold lookL
   rw [lookL_set r k n x]
   by_cases h2 : q.1 = n
   ·have : ¬ k = n := fun h3 => h (h2.trans h3.symm)
    simp [h2, this]
   ·simp [h2]
theorem idxs_add (m : List Pred) (p : Pred) (n : ByteArray) : idxs (m ++ [p]) n = idxs m n ++ (if p.name = n then [(m.length : Int)] else []) := by
 unfold idxs
 rw [List.length_append, List.length_singleton, List.range_succ, List.filter_append, List.map_append]
 congr 1
 ·congr 1
  refine List.filter_congr (fun i hi => ?_)
  have hi : i < m.length := List.mem_range.mp hi
  simp [List.getD_eq_getElem?_getD, List.getElem?_append_left hi]
 ·have e : (m ++ [p]).getD m.length default = p := by simp [List.getD_eq_getElem?_getD]
  by_cases h : p.name = n
  ·simp [List.filter, e, h]
  ·simp [List.filter, e, h]
theorem addM_snd (σ : MP × List Pred) (p : Pred) : (addM σ p).2 = addP σ.2 p := by
 unfold addM addP; split <;> rfl
theorem addM_ok {σ : MP × List Pred} (h : okM σ) (p : Pred) : okM (addM σ p) := by
 unfold addM
 split
 ·exact h
 ·intro n
  dsimp only
  rw [lookL_set, idxs_add]
  by_cases e : p.name = n
  ·rw [if_pos e, if_pos e, ← e, h]
  ·rw [if_neg e, if_neg e, List.append_nil, h]
theorem mem_idxs {m : List Pred} {n : ByteArray} {x : Int} (h : x ∈ idxs m n) : 0 ≤ x ∧ x < m.length := by
 unfold idxs at h
 simp only [List.mem_map, List.mem_filter, List.mem_range] at h
 obtain ⟨i, ⟨hi, _⟩, rfl⟩ := h
 refine ⟨?_, ?_⟩
 ·exact Int.natCast_nonneg i
 ·exact Int.ofNat_lt.mpr hi
theorem idxs_length (m : List Pred) (n : ByteArray) : (idxs m n).length ≤ m.length := by
 unfold idxs
 rw [List.length_map]
 exact Nat.le_trans (List.length_filter_le _ _) (by simp)
theorem idxs_any (m : List Pred) (n : ByteArray) (a : List Opn) : (idxs m n).any (fun x => decide (m.getD x.toNat default = (⟨n, a⟩ : Pred))) = decide ((⟨n, a⟩ : Pred) ∈ m) := by
 rw [Bool.eq_iff_iff, List.any_eq_true, decide_eq_true_eq]
 constructor
 ·rintro ⟨x, hx, he⟩
  obtain ⟨h0, h1⟩ := mem_idxs hx
  rw [decide_eq_true_eq] at he
  have hl : x.toNat < m.length := by omega
  rw [getD_of m _ _ hl] at he
  rw [← he]; exact List.getElem_mem hl
 ·intro h
  obtain ⟨i, hi, he⟩ := List.getElem_of_mem h
  refine ⟨(i : Int), ?_, ?_⟩
  ·unfold idxs
   simp only [List.mem_map, List.mem_filter, List.mem_range]
   refine ⟨i, ⟨hi, ?_⟩, rfl⟩
   rw [getD_of m _ _ hi, he]; simp
  ·rw [Int.toNat_natCast, getD_of m _ _ hi, he]; simp
theorem q_allsame (x : Int) (c : List (Ty .pred)) (n : ByteArray) (a : List (Ty .op)) (h0 : 0 ≤ x) (h1 : x < (c.length : Int)) (hw : ∀ p ∈ (show List Pred from c), p.ifs.length ≤ maxLen) : S.allsame x c n a = some ⟨decide ((show List Pred from c).getD x.toNat default = (⟨n, a⟩ : Pred))⟩ := by
 have hl : x.toNat < c.length := by omega
 have e : (show List Pred from c).getD x.toNat default = (show Pred from c[x.toNat]) := getD_of (α := Pred) c _ _ hl
 have k := q_iSame (show Pred from c[x.toNat]).name n (show Pred from c[x.toNat]).ifs a (hw _ (List.getElem_mem hl))
 unfold S.allsame S.allsame_R; dsimp only
 rw [getD_of c _ _ hl, e]
 simp only [DT.run_br, DT.run_leaf, DT.run_fail, xdec, h0, h1, decide_true, Bool.and_self, cond_true, S.zxqw_is, S.zxqw_o]
 rw [k]; rfl
theorem q_IdxFunc (xs : List (Ty .int)) (c : List (Ty .pred)) (n : ByteArray) (a : List (Ty .op)) (hl : xs.length ≤ maxLen) (hx : ∀ x ∈ (show List Int from xs), 0 ≤ x ∧ x < (c.length : Int)) (hw : ∀ p ∈ (show List Pred from c), p.ifs.length ≤ maxLen) :
    S.znwv xs c n a = some ⟨(show List Int from xs).any (fun x => decide ((show List Pred from c).getD x.toNat default = (⟨n, a⟩ : Pred)))⟩ := by
 have key := Lp_idx (r := S.zyqp_2_r xs c n a xs.length) (fun i => (⟨i⟩ : S.zyqp_2_V)) (α := Int) xs (fun x => decide ((show List Pred from c).getD x.toNat default = (⟨n, a⟩ : Pred))) (fun i h => by
  have h1 : ((i : Int) < (xs.length : Int)) := by omega
  have h2 : (0 : Int) ≤ (i : Int) := by omega
  obtain ⟨g0, g1⟩ := hx _ (List.getElem_mem h)
  have k := q_allsame xs[i] c n a g0 g1 hw
  unfold S.zyqp_2_r S.zyqp_2_R; dsimp only
  rw [Int.toNat_natCast, getD_of xs i _ h]
  simp only [DT.run_br, DT.run_leaf, DT.run_fail, xdec, xwrap, h1, h2, ix_wrap h hl, decide_true, Bool.and_self, cond_true, S.allsame_is, S.allsame_o]
  rw [k]
  dsimp only [Option.isSome_some, Option.getD_some]
  rw [cond_true]
  generalize decide ((show List Pred from c).getD (show Int from xs[i]).toNat default = (⟨n, a⟩ : Pred)) = b
  cases b <;> rfl) (by
  unfold S.zyqp_2_r S.zyqp_2_R; simp [DT.run_br, DT.run_leaf, xdec])
 have hi : ∃ r, S.zyqp xs c n a = some ⟨r⟩ ∧ decide (r ≥ 0) = (show List Int from xs).any (fun x => decide ((show List Pred from c).getD x.toNat default = (⟨n, a⟩ : Pred))) := by
  unfold S.zyqp S.zyqp_R; dsimp only
  simp only [DT.run_br, DT.run_leaf, DT.run_fail, S.zyqp_2_j, S.zyqp_2_v]
  rw [← List.findIdx?_isSome]
  cases hf : List.findIdx? (fun x => decide ((show List Pred from c).getD x.toNat default = (⟨n, a⟩ : Pred))) (show List Int from xs) with
  | some j => rw [show List.findIdx? (fun x => decide ((show List Pred from c).getD x.toNat default = (⟨n, a⟩ : Pred))) (show List Int from xs) = some j from hf] at key; rw [Lp_j_of key, Lp_v_of key]; exact ⟨_, rfl, by simp⟩
  | none => rw [show List.findIdx? (fun x => decide ((show List Pred from c).getD x.toNat default = (⟨n, a⟩ : Pred))) (show List Int from xs) = none from hf] at key; rw [Lp_j_of key, Lp_j_of key]; exact ⟨-1, rfl, by decide⟩
 obtain ⟨r, h1, h2⟩ := hi
 unfold S.znwv S.znwv_R
 simp only [DT.run_br, DT.run_leaf, S.zyqp_is, S.zyqp_o, h1, Option.isSome_some, Option.getD_some, cond_true, xdec, h2]
theorem q_Cont {σ : MP × List Pred} (hok : okM σ) (hw : ∀ p ∈ σ.2, p.ifs.length ≤ maxLen) (hm : σ.2.length ≤ maxLen) (n : ByteArray) (a : List (Ty .op)) :
    S.znwv (lookL σ.1 n) σ.2 n a = some ⟨decide ((⟨n, a⟩ : Pred) ∈ σ.2)⟩ := by
 rw [hok, q_IdxFunc (idxs σ.2 n) σ.2 n a (Nat.le_trans (idxs_length _ _) hm) (fun x hx => mem_idxs hx) hw]
 exact congrArg some (congrArg S.znwv_T.mk (idxs_any σ.2 n a))
theorem q_clone (a : List (Ty .op)) (h : a.length ≤ 1048576) : S.zmq7 a = some ⟨a, a.length⟩ := by
 unfold S.zmq7 S.zmq7_R; dsimp only
 simp [DT.run_br, DT.run_leaf, xdec, h]
theorem sub_all {α : Type} (l : List α) : sub l 0 (0 + l.length) = l := by simp [sub]
end Go.Eng
