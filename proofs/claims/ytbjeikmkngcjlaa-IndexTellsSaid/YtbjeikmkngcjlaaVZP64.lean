/- The stage's theorem of what is asked. -/
import Derived.Test.YtbjeikmkngcjlaaVZP63
import Derived.Test.YtbjeikmkngcjlaaVZP52
import Derived.Test.YtbjeikmkngcjlaaVZLI3
set_option linter.unusedVariables false
set_option linter.unusedSimpArgs false
namespace Go.Eng
open Go Go.Eng
theorem q_toldI (l : List (Ty .pred)) (n : ByteArray) (t : Int) (v : List (Ty .val)) (hl : l.length ≤ 1048576) : S.zerv l n t v = some ⟨l.map (tellP n t v)⟩ := by
 have key : Lp (S.zerv_3_r l.length l l.length n t v) (⟨0, List.replicate l.length (dflt ET.bool)⟩ : S.zerv_3_V) = some (0, ⟨l.length, l.map (tellP n t v)⟩) := by
  have := Lp_walk (r := S.zerv_3_r l.length l l.length n t v) (fun k => (⟨(k : Int), ((l.map (tellP n t v)).take k ++ List.replicate (l.length - k) (dflt ET.bool) : List Bool)⟩ : S.zerv_3_V)) l.length 0 (fun i h => by
   have h1 : ((i : Int) < (l.length : Int)) := by omega
   have h2 : (0 : Int) ≤ (i : Int) := by omega
   have h3 : 0 + i < ((l.map (tellP n t v)).take i ++ List.replicate (l.length - i) (dflt ET.bool) : List Bool).length := by simp; omega
   unfold S.zerv_3_r S.zerv_3_R; dsimp only
   rw [Int.toNat_natCast, getD_of l i _ h]
   simp only [DT.run_br, DT.run_leaf, DT.run_fail, xdec, xwrap, h1, h2, h3, ix_wrap h (Nat.le_trans hl (by decide)), decide_true, Bool.and_self, cond_true, S.zh5h_is, S.zh5h_o, q_iHolds, Option.isSome_some, Option.getD_some]
   rw [Nat.zero_add]
   have e := set_next (α := Pred) (tellP n t v) (dflt ET.bool) l i h
   rw [← e]; rfl) (by
   unfold S.zerv_3_r S.zerv_3_R; simp [DT.run_br, DT.run_leaf, xdec])
  have e : ((l.map (tellP n t v)).take l.length ++ List.replicate (l.length - l.length) (dflt ET.bool) : List Bool) = l.map (tellP n t v) := by rw [Nat.sub_self, List.replicate_zero, List.append_nil, List.take_of_length_le (by simp)]
  rw [e] at this
  simpa using this
 unfold S.zerv S.zerv_R; dsimp only
 have h0 : (0 : Int) ≤ (l.length : Int) := by omega
 have h1 : (l.length : Int) ≤ 1048576 := by omega
 rw [Int.toNat_natCast]
 simp only [DT.run_br, DT.run_leaf, DT.run_fail, xdec, e_xeqI, h0, h1, decide_true, Bool.and_self, cond_true, S.zerv_3_j, S.zerv_3_v]
 simp only [Lp_j_of key, Lp_v_of key]
 have hs : sub (l.map (tellP n t v)) 0 (0 + l.length) = l.map (tellP n t v) := by
  have := sub_all (l.map (tellP n t v)); rwa [List.length_map] at this
 have hl2 : 0 + l.length ≤ (l.map (tellP n t v)).length := by rw [List.length_map]; omega
 simp only [hs, hl2, decide_true]
 rfl
theorem q_r8sameD (a b : List Opn) (ha : a.length ≤ maxLen) : S.r8same a b = some ⟨decide (a = b)⟩ := by
 unfold S.r8same S.r8same_R; dsimp only
 by_cases hl : (a.length : Int) = b.length
 ·have hl' : a.length = b.length := by omega
  obtain ⟨v, hv⟩ := Lp_same (α := Opn) (r := S.r8same_4_r a b) (fun i => (⟨i⟩ : S.r8same_4_V)) a b hl' (fun i h h' => by
   have h1 : ((i : Int) < (a.length : Int)) := by omega
   have h2 : (0 : Int) ≤ (i : Int) := by omega
   have h3 : ((i : Int) < (b.length : Int)) := by omega
   have e1 : @List.getD (Ty ET.op) a i (dflt ET.op) = a[i] := getD_of (α := Opn) a i _ h
   have e2 : @List.getD (Ty ET.op) b i (dflt ET.op) = b[i] := getD_of (α := Opn) b i _ h'
   unfold S.r8same_4_r S.r8same_4_R; dsimp only
   rw [Int.toNat_natCast, e1, e2, op_eq]
   simp only [DT.run_br, DT.run_leaf, xdec, xwrap, h1, h2, h3, ix_wrap h ha, decide_true, Bool.and_self, cond_true]
   by_cases he : a[i] = b[i] <;> simp [he]) (by
   unfold S.r8same_4_r S.r8same_4_R; simp [DT.run_br, DT.run_leaf, xdec])
  simp only [DT.run_br, DT.run_leaf, DT.run_fail, e_xneI, ne_eq, hl, not_true, decide_false, cond_false, S.r8same_4_j]
  have hv' : Lp (S.r8same_4_r a b) (⟨0⟩ : S.r8same_4_V) = _ := hv
  rw [Lp_j_of hv', Lp_j_of hv']
  by_cases he : a = b <;> simp [he]
 ·have he : ¬ a = b := by intro h; rw [h] at hl; exact hl rfl
  simp only [DT.run_br, DT.run_leaf, e_xneI, ne_eq, hl, not_false_eq_true, decide_true, cond_true, he, decide_false]
theorem q_FindR (l : List Pred) (n : ByteArray) (a : List Opn) (hl : l.length ≤ maxLen) (hw : ∀ p ∈ l, p.ifs.length ≤ maxLen) : S.zcq4 l n a = some ⟨findL l ⟨n, a⟩⟩ := by
 have key := Lp_idx (r := S.zcq4_2_r l n a) (fun i => (⟨i⟩ : S.zcq4_2_V)) (α := Pred) l (fun x => decide (x = (⟨n, a⟩ : Pred))) (fun i h => by
  have h1 : ((i : Int) < (l.length : Int)) := by omega
  have h2 : (0 : Int) ≤ (i : Int) := by omega
  have e1 : @List.getD (Ty ET.pred) l i (dflt ET.pred) = l[i] := getD_of (α := Pred) l i _ h
  have k := q_r8sameD l[i].ifs a (hw _ (List.getElem_mem h))
  unfold S.zcq4_2_r S.zcq4_2_R; dsimp only
  rw [Int.toNat_natCast, e1]
  generalize l[i] = p at k ⊢
  obtain ⟨m, b⟩ := p
  dsimp only at k
  simp only [DT.run_br, DT.run_leaf, DT.run_fail, xdec, xwrap, h1, h2, ix_wrap h hl, decide_true, Bool.and_self, cond_true, S.r8same_is, S.r8same_o, k, Option.isSome_some, Option.getD_some, Pred.mk.injEq]
  by_cases e2 : b = a <;> by_cases e3 : m = n <;> simp [e2, e3]) (by
  unfold S.zcq4_2_r S.zcq4_2_R; simp [DT.run_br, DT.run_leaf, xdec])
 unfold S.zcq4 S.zcq4_R findL; dsimp only
 simp only [DT.run_br, DT.run_leaf, DT.run_fail, S.zcq4_2_j, S.zcq4_2_v]
 cases hf : List.findIdx? (fun x => decide (x = (⟨n, a⟩ : Pred))) l with
 | some j => rw [hf] at key; have key' : Lp (S.zcq4_2_r l n a) (⟨0⟩ : S.zcq4_2_V) = _ := key; rw [Lp_j_of key', Lp_v_of key']; rfl
 | none => rw [hf] at key; have key' : Lp (S.zcq4_2_r l n a) (⟨0⟩ : S.zcq4_2_V) = _ := key; rw [Lp_j_of key', Lp_j_of key']; rfl
theorem findL_neg (m : List Pred) (p : Pred) : decide (findL m p < 0) = !decide (p ∈ m) := by
 by_cases h : p ∈ m
 ·obtain ⟨i, hi, h1, _⟩ := findL_mem h
  rw [h1]
  have : ¬ ((i : Int) < 0) := by omega
  simp [this, h]
 ·have : m.findIdx? (fun x => decide (x = p)) = none := by
    rw [List.findIdx?_eq_none_iff]
    intro x hx
    simp only [decide_eq_false_iff_not]
    intro e; exact h (e ▸ hx)
  unfold findL
  rw [this]
  simp [h]
def ofR (i : Nat) (m : List Pred) : S.zecp_6_V := ⟨m.isEmpty, m.length, (i : Int), m⟩
theorem refAll_round (Q : List Query) (qi : Nat) (hq : qi < Q.length) (l : List Step) (hQ : Q[qi].steps = l) (i : Nat) (h : i < l.length) (hl : l.length ≤ maxLen) (m : List Pred) (hw : shortP m) (hm : m.length + 2 ≤ 1048576)
    (s1 : l[i].ifs.length ≤ 1048576) : S.zecp_6_r Q qi (ofR i m) = some (none, ofR (i + 1) ((asks l[i]).foldl addP m)) := by
 have g1 : ((i : Int) < (l.length : Int)) := by omega
 have g2 : (0 : Int) ≤ (i : Int) := by omega
 have g3 : ((qi : Int) < (Q.length : Int)) := by omega
 have g4 : (0 : Int) ≤ (qi : Int) := by omega
 have big : (1048576 : Nat) ≤ maxLen := by decide
 have eq : @List.getD (Ty ET.query) Q qi (dflt ET.query) = Q[qi] := getD_of (α := Query) Q qi _ hq
 have es : @List.getD (Ty ET.step) l i (dflt ET.step) = l[i] := getD_of (α := Step) l i _ h
 unfold S.zecp_6_r S.zecp_6_R ofR
 dsimp only
 rw [Int.toNat_natCast, Int.toNat_natCast, eq, hQ, es]
 generalize l[i] = s at s1 ⊢
 have f1 := fun n a => q_FindR m n a (by omega) (fun p hp => Nat.le_trans (hw p hp) big)
 have d3 : m.length + 1 ≤ 1048576 := by omega
 have d6 : m.length + 1 + 1 ≤ 1048576 := by omega
 simp only [DT.run_br, DT.run_leaf, DT.run_fail, xdec, xwrap, g1, g2, g3, g4, ix_wrap h hl, sub_all, decide_true, Bool.and_self, Bool.true_and, Bool.and_true, cond_true,
  Nat.zero_add, Nat.le_refl, sub0, sub1, take1, len1, List.length_set, List.length_replicate, List.take_length, S.zcq4_is, S.zcq4_o, f1, Option.isSome_some, Option.getD_some, findL_neg, d3]
 by_cases hp : (⟨s.name, s.ifs⟩ : Pred) ∈ m
 ·have e1 : addP m ⟨s.name, s.ifs⟩ = m := by unfold addP; rw [if_pos hp]
  cases hg : s.guard with
  | false =>
   rw [show asks s = _ from asks_f hg, List.foldl_cons, e1, List.foldl_nil]
   simp only [hp, decide_true, Bool.not_true, cond_true, cond_false]
  | true =>
   by_cases hq : (⟨s.notName, s.notIf⟩ : Pred) ∈ m
   ·have e2 : addP m ⟨s.notName, s.notIf⟩ = m := by unfold addP; rw [if_pos hq]
    rw [show asks s = _ from asks_t hg, List.foldl_cons, e1, List.foldl_cons, List.foldl_nil, e2]
    simp only [hp, hq, decide_true, Bool.not_true, cond_true, cond_false]
   ·have e2 : addP m ⟨s.notName, s.notIf⟩ = m ++ [⟨s.notName, s.notIf⟩] := by unfold addP; rw [if_neg hq]
    rw [show asks s = _ from asks_t hg, List.foldl_cons, e1, List.foldl_cons, List.foldl_nil, e2]
    simp only [hp, hq, decide_true, decide_false, Bool.not_true, Bool.not_false, cond_true, cond_false, d3, len1, emp1, Nat.le_refl]
 ·have e1 : addP m ⟨s.name, s.ifs⟩ = m ++ [⟨s.name, s.ifs⟩] := by unfold addP; rw [if_neg hp]
  have hw' : shortP (m ++ [(⟨s.name, s.ifs⟩ : Pred)]) := by
   intro p hp2
   rcases List.mem_append.mp hp2 with hp2 | hp2
   ·exact hw p hp2
   ·rw [List.mem_singleton.mp hp2]; exact s1
  have f2 := fun n a => q_FindR (m ++ [(⟨s.name, s.ifs⟩ : Pred)]) n a (by rw [len1]; omega) (fun p hp => Nat.le_trans (hw' p hp) big)
  cases hg : s.guard with
  | false =>
   rw [show asks s = _ from asks_f hg, List.foldl_cons, e1, List.foldl_nil]
   simp only [hp, decide_true, decide_false, Bool.not_true, Bool.not_false, cond_true, cond_false, d3, len1, emp1, Nat.le_refl]
  | true =>
   simp only [f2, Option.isSome_some, Option.getD_some, findL_neg, cond_true]
   by_cases hq : (⟨s.notName, s.notIf⟩ : Pred) ∈ m ++ [(⟨s.name, s.ifs⟩ : Pred)]
   ·have e2 : addP (m ++ [(⟨s.name, s.ifs⟩ : Pred)]) ⟨s.notName, s.notIf⟩ = m ++ [(⟨s.name, s.ifs⟩ : Pred)] := by unfold addP; rw [if_pos hq]
    rw [show asks s = _ from asks_t hg, List.foldl_cons, e1, List.foldl_cons, List.foldl_nil, e2]
    simp only [hp, hq, decide_true, decide_false, Bool.not_true, Bool.not_false, cond_true, cond_false, d3, len1, emp1, Nat.le_refl, Bool.and_self, Bool.and_true, Bool.true_and]
   ·have e2 : addP (m ++ [(⟨s.name, s.ifs⟩ : Pred)]) ⟨s.notName, s.notIf⟩ = m ++ [(⟨s.name, s.ifs⟩ : Pred)] ++ [⟨s.notName, s.notIf⟩] := by unfold addP; rw [if_neg hq]
    rw [show asks s = _ from asks_t hg, List.foldl_cons, e1, List.foldl_cons, List.foldl_nil, e2]
    simp only [hp, hq, decide_true, decide_false, Bool.not_true, Bool.not_false, cond_true, cond_false, d3, d6, len1, emp1, Nat.le_refl, Bool.and_self, Bool.and_true, Bool.true_and]
end Go.Eng
