/- index.All comes to what all queries ask, each once. -/
import Derived.Test.YtbjeikmkngcjlaaVZP45
set_option linter.unusedVariables false
set_option linter.unusedSimpArgs false
namespace Go.Eng
open Go Go.Eng
def ofM (i : Nat) (σ : MP × List Pred) : S.zdrt_4_V := ⟨(i : Int), σ.2.isEmpty, σ.2.length, σ.1, σ.2⟩
theorem addM_in {σ : MP × List Pred} {p : Pred} (h : p ∈ σ.2) : addM σ p = σ := by unfold addM; rw [if_pos h]
theorem addM_out {σ : MP × List Pred} {p : Pred} (h : ¬ p ∈ σ.2) : addM σ p = (setL σ.1 p.name (lookL σ.1 p.name ++ [(σ.2.length : Int)]), σ.2 ++ [p]) := by unfold addM; rw [if_neg h]
def shortP (m : List Pred) : Prop := ∀ p ∈ m, p.ifs.length ≤ 1048576
theorem addM_short {σ : MP × List Pred} {p : Pred} (h : shortP σ.2) (hp : p.ifs.length ≤ 1048576) : shortP (addM σ p).2 := by
 rw [addM_snd]; unfold addP
 split
 ·exact h
 ·intro x hx
  rcases List.mem_append.mp hx with hx | hx
  ·exact h x hx
  ·rw [List.mem_singleton.mp hx]; exact hp
theorem sub0 {α : Type} (l : List α) : sub l 0 l.length = l := by simp [sub]
theorem sub1 {α : Type} (l : List α) (x : α) : sub (l ++ [x]) 0 (l.length + 1) = l ++ [x] := by
 have := sub0 (l ++ [x]); rwa [List.length_append] at this
theorem take1 {α : Type} (l : List α) (x : α) : List.take (l.length + 1) (l ++ [x]) = l ++ [x] := List.take_of_length_le (by simp)
theorem len1 {α : Type} (l : List α) (x : α) : (l ++ [x]).length = l.length + 1 := by simp
theorem emp1 {α : Type} (l : List α) (x : α) : (l ++ [x]).isEmpty = false := by simp
theorem asks_t {s : Step} (h : s.guard = true) : asks s = [(⟨s.name, s.ifs⟩ : Pred), (⟨s.notName, s.notIf⟩ : Pred)] := by unfold asks; rw [if_pos h]
theorem asks_f {s : Step} (h : s.guard = false) : asks s = [(⟨s.name, s.ifs⟩ : Pred)] := by unfold asks; rw [if_neg (by rw [h]; exact Bool.false_ne_true)]
theorem all_round (l : List (Ty .step)) (i : Nat) (h : i < l.length) (hl : l.length ≤ maxLen) (σ : MP × List Pred) (hok : okM σ) (hw : shortP σ.2) (hm : σ.2.length + 2 ≤ 1048576)
    (h1 : (show Step from l[i]).ifs.length ≤ 1048576) (h2 : (show Step from l[i]).notIf.length ≤ 1048576) :
    S.zdrt_4_r l l.length (ofM i σ) = some (none, ofM (i + 1) ((asks (show Step from l[i])).foldl addM σ)) := by
 have g1 : ((i : Int) < (l.length : Int)) := by omega
 have g2 : (0 : Int) ≤ (i : Int) := by omega
 obtain ⟨mp, m⟩ := σ
 dsimp only at hw hm
 have bl : ∀ n, (lookL mp n).length ≤ m.length := fun n => by rw [hok n]; exact idxs_length m n
 have big : (1048576 : Nat) ≤ maxLen := by decide
 unfold S.zdrt_4_r S.zdrt_4_R ofM
 dsimp only
 rw [Int.toNat_natCast, getD_of l i _ h]
 generalize hs : (show Step from l[i]) = s at h1 h2 ⊢
 have hs' : l[i] = s := hs
 rw [hs']
 have k1 := q_Cont hok (fun p hp => Nat.le_trans (hw p hp) big) (show m.length ≤ maxLen by omega) s.name s.ifs
 have k2 := q_Cont hok (fun p hp => Nat.le_trans (hw p hp) big) (show m.length ≤ maxLen by omega) s.notName s.notIf
 dsimp only at k1 k2
 have b1 := bl s.name
 have b2 := bl s.notName
 have d1 : (lookL mp s.name).length + 1 ≤ 1048576 := by omega
 have d2 : (lookL mp s.notName).length + 1 ≤ 1048576 := by omega
 have d3 : m.length + 1 ≤ 1048576 := by omega
 have d4 : m.length + 2 ≤ 1048576 := by omega
 simp only [DT.run_br, DT.run_leaf, DT.run_fail, S.zmq7_is, S.zmq7_o, q_clone _ h1, q_clone _ h2, Option.isSome_some, Option.getD_some, cond_true, xdec, xwrap, xnot, g1, g2, ix_wrap h hl, sub_all, decide_true, Bool.and_self, Bool.true_and, Bool.and_true,
  Nat.zero_add, Nat.le_refl, sub0, sub1, take1, len1, List.length_set, List.length_replicate, List.take_length, S.znwv_is, S.znwv_o, d1, d2, d3]
 rw [k1, k2]
 dsimp only [Option.isSome_some, Option.getD_some]
 by_cases hp : (⟨s.name, s.ifs⟩ : Pred) ∈ m
 ·have e1 : addM (mp, m) ⟨s.name, s.ifs⟩ = (mp, m) := addM_in hp
  cases hg : s.guard with
  | false =>
   rw [show asks s = _ from asks_f hg, List.foldl_cons, e1, List.foldl_nil]
   simp only [hp, decide_true, Bool.not_true, cond_true, cond_false]
  | true =>
   by_cases hq : (⟨s.notName, s.notIf⟩ : Pred) ∈ m
   ·rw [show asks s = _ from asks_t hg, List.foldl_cons, e1, List.foldl_cons, List.foldl_nil, addM_in hq]
    simp only [hp, hq, decide_true, Bool.not_true, cond_true, cond_false]
   ·rw [show asks s = _ from asks_t hg, List.foldl_cons, e1, List.foldl_cons, List.foldl_nil, addM_out hq]
    simp only [hp, hq, decide_true, decide_false, Bool.not_true, Bool.not_false, cond_true, cond_false, d2, d3, len1, emp1, Nat.le_refl]
 ·have e1 := addM_out (σ := (mp, m)) hp
  have hok' := addM_ok hok ⟨s.name, s.ifs⟩
  have hw' := addM_short (σ := (mp, m)) (p := ⟨s.name, s.ifs⟩) hw h1
  rw [e1] at hok' hw'
  have k3 := q_Cont hok' (fun p hp => Nat.le_trans (hw' p hp) big) (show (m ++ [(⟨s.name, s.ifs⟩ : Pred)]).length ≤ maxLen by rw [len1]; omega) s.notName s.notIf
  have b3 := idxs_length (m ++ [(⟨s.name, s.ifs⟩ : Pred)]) s.notName
  rw [← hok' s.notName, len1] at b3
  dsimp only at k3 b3
  rw [k3]
  dsimp only [Option.isSome_some, Option.getD_some]
  have d5 : (lookL (setL mp s.name (lookL mp s.name ++ [(m.length : Int)])) s.notName).length + 1 ≤ 1048576 := by omega
  have d6 : m.length + 1 + 1 ≤ 1048576 := by omega
  cases hg : s.guard with
  | false =>
   rw [show asks s = _ from asks_f hg, List.foldl_cons, e1, List.foldl_nil]
   simp only [hp, decide_true, decide_false, Bool.not_true, Bool.not_false, cond_true, cond_false, d2, d3, len1, emp1, Nat.le_refl]
  | true =>
   by_cases hq : (⟨s.notName, s.notIf⟩ : Pred) ∈ m ++ [(⟨s.name, s.ifs⟩ : Pred)]
   ·rw [show asks s = _ from asks_t hg, List.foldl_cons, e1, List.foldl_cons, List.foldl_nil, addM_in hq]
    simp only [hp, hq, decide_true, decide_false, Bool.not_true, Bool.not_false, cond_true, cond_false, d2, d3, len1, emp1, Nat.le_refl, Bool.and_self, Bool.and_true, Bool.true_and]
   ·rw [show asks s = _ from asks_t hg, List.foldl_cons, e1, List.foldl_cons, List.foldl_nil, addM_out hq]
    simp only [hp, hq, decide_true, decide_false, Bool.not_true, Bool.not_false, cond_true, cond_false, d2, d3, d5, d6, len1, emp1, Nat.le_refl, Bool.and_self, Bool.and_true, Bool.true_and]
end Go.Eng
