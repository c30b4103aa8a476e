/- The law of what is asked: shared. -/
import Derived.Test.YtbjeikmkngcjlaaVZP49
import Derived.Test.YtbjeikmkngcjlaaVZLI4
set_option linter.unusedVariables false
set_option linter.unusedSimpArgs false
namespace Go.Eng
open Go Go.Eng
theorem addP_mem {m : List Pred} {p x : Pred} : x ∈ addP m p ↔ x ∈ m ∨ x = p := by
 unfold addP
 split
 ·rename_i h
  exact ⟨Or.inl, fun h2 => h2.elim id (fun e => e ▸ h)⟩
 ·rw [List.mem_append, List.mem_singleton]
theorem foldP_mem : ∀ (ps : List Pred) {m : List Pred} {x : Pred}, x ∈ ps.foldl addP m ↔ x ∈ m ∨ x ∈ ps
 | [], m, x => by simp
 | p :: ps, m, x => by rw [List.foldl_cons, foldP_mem ps, addP_mem, List.mem_cons, or_assoc]
theorem addP_nodup {m : List Pred} (h : m.Nodup) (p : Pred) : (addP m p).Nodup := by
 unfold addP
 split
 ·exact h
 ·rename_i hp
  rw [List.nodup_append]
  refine ⟨h, by simp, fun a ha b hb => ?_⟩
  rw [List.mem_singleton.mp hb]
  intro e; exact hp (e ▸ ha)
theorem foldP_nodup : ∀ (ps : List Pred) {m : List Pred}, m.Nodup → (ps.foldl addP m).Nodup
 | [], _, h => h
 | p :: ps, _, h => foldP_nodup ps (addP_nodup h p)
theorem allP_nodup (l : List Query) : (allP l).Nodup := foldP_nodup _ List.nodup_nil
theorem allP_mem {l : List Query} {p : Pred} : p ∈ allP l ↔ ∃ q ∈ l, ∃ s ∈ q.steps, p ∈ asks s := by
 unfold allP
 rw [foldP_mem]
 simp only [List.not_mem_nil, false_or, List.mem_flatMap]
theorem allP_len {l : List Query} (h : fewQ l) : (allP l).length ≤ 96 := by
 have a1 := foldP_len (l.flatMap (fun q => q.steps.flatMap asks)) ([] : List Pred)
 have a2 := asksQ_len l (fun q hq => (h.2 q hq).1)
 have a3 := h.1
 unfold allP
 simp only [List.length_nil] at a1
 omega
theorem allP_short {l : List Query} (h : fewQ l) : ∀ p ∈ allP l, p.ifs.length ≤ maxLen := by
 have := asksQ_short (l := l) (fun q hq => (h.2 q hq).short)
 intro p hp
 unfold allP at hp
 rw [foldP_mem] at hp
 rcases hp with hp | hp
 ·cases hp
 ·exact Nat.le_trans (this p hp) (by decide)
theorem findL_mem {m : List Pred} {p : Pred} (h : p ∈ m) : ∃ (i : Nat) (hi : i < m.length), findL m p = i ∧ m[i] = p := by
 have h1 : (m.findIdx? (fun x => decide (x = p))).isSome = true := by
  rw [List.findIdx?_isSome, List.any_eq_true]; exact ⟨p, h, by simp⟩
 obtain ⟨i, hi⟩ := Option.isSome_iff_exists.mp h1
 obtain ⟨hl, hp, _⟩ := List.findIdx?_eq_some_iff_getElem.mp hi
 refine ⟨i, hl, ?_, by simpa using hp⟩
 unfold findL; rw [hi]
theorem findL_get {m : List Pred} (hn : m.Nodup) (k : Nat) (hk : k < m.length) : findL m m[k] = k := by
 obtain ⟨i, hi, h1, h2⟩ := findL_mem (List.getElem_mem hk)
 rw [h1]
 have hp := List.pairwise_iff_getElem.mp hn
 rcases Nat.lt_trichotomy i k with h | h | h
 ·exact absurd h2 (hp i k hi hk h)
 ·rw [h]
 ·exact absurd h2.symm (hp k i hk hi h)
theorem law_IndexShares (l : List Query) (n : ByteArray) (t : Int) (v : List (Ty .val)) (at_ step : Int) : S.z4nn l n t v at_ step = some ⟨true⟩ := by
 unfold S.z4nn S.z4nn_R; dsimp only
 rw [q_awake10_is, q_awake10_o, q_few10_is, q_few06_is]
 cases hf : (S.zzvx_o l).x0 with
 | false => rfl
 | true =>
 have hq := q_few10_o l hf
 cases hg : (S.z6c2_o n v).x0 with
 | false => rfl
 | true =>
 by_cases c1 : at_ < 0
 ·simp [DT.run_br, DT.run_leaf, DT.run_fail, xdec, xnot, c1]
 by_cases c2 : at_ ≥ (l.length : Int)
 ·simp [DT.run_br, DT.run_leaf, DT.run_fail, xdec, xnot, c1, c2]
 by_cases c3 : step < 0
 ·simp [DT.run_br, DT.run_leaf, DT.run_fail, xdec, xnot, c1, c2, c3]
 have hat : at_.toNat < l.length := by omega
 have e1 : @List.getD (Ty ET.query) l at_.toNat (dflt ET.query) = l[at_.toNat] := getD_of (α := Query) l _ _ hat
 rw [e1]
 have hq1 : l[at_.toNat] ∈ l := List.getElem_mem hat
 generalize l[at_.toNat] = q at hq1 ⊢
 have a1 : 0 ≤ at_ := by omega
 have a2 : at_ < (l.length : Int) := by omega
 by_cases c4 : step ≥ (q.steps.length : Int)
 ·simp only [DT.run_br, DT.run_leaf, DT.run_fail, xdec, xnot, c1, c2, c3, c4, a1, a2, decide_true, decide_false, Bool.not_true, Bool.and_self, cond_true, cond_false]
 have hst : step.toNat < q.steps.length := by omega
 have e2 : q.steps.getD step.toNat (dflt ET.step) = q.steps[step.toNat] := getD_of (α := Step) q.steps _ _ hst
 rw [e2]
 have hs1 : q.steps[step.toNat] ∈ q.steps := List.getElem_mem hst
 generalize q.steps[step.toNat] = s at hs1 ⊢
 have a3 : 0 ≤ step := by omega
 have a4 : step < (q.steps.length : Int) := by omega
 have hA := q_All l hq
 have hlen := allP_len hq
 have hsh := allP_short hq
 have hnd := allP_nodup l
 have hT := q_toldO (allP l) n t v (by omega)
 have p1 : (⟨s.name, s.ifs⟩ : Pred) ∈ allP l := allP_mem.mpr ⟨q, hq1, s, hs1, List.mem_cons_self⟩
 have p2 : s.guard = true → (⟨s.notName, s.notIf⟩ : Pred) ∈ allP l := fun hg => allP_mem.mpr ⟨q, hq1, s, hs1, by rw [asks_t hg]; simp⟩
 have hF : ∀ nm a, S.zgkp (allP l) nm a = some ⟨findL (allP l) ⟨nm, a⟩⟩ := fun nm a => q_Find (allP l) nm a (Nat.le_trans hlen (by decide)) (fun i h => hsh _ (List.getElem_mem h))
 simp only [S.zdrt_is, S.zdrt_o, hA, Option.isSome_some, Option.getD_some, sub_all]
 have key := Lp_walk (r := S.z4nn_13_r (allP l).length (allP l)) (fun k => (⟨(k : Int)⟩ : S.z4nn_13_V)) (allP l).length 1 (fun i h => by
  have h1 : ((i : Int) < ((allP l).length : Int)) := by omega
  have h2 : (0 : Int) ≤ (i : Int) := by omega
  have k := hF (allP l)[i].name (allP l)[i].ifs
  have k2 := findL_get hnd i h
  have k3 : (⟨(allP l)[i].name, (allP l)[i].ifs⟩ : Pred) = (allP l)[i] := rfl
  rw [k3, k2] at k
  unfold S.z4nn_13_r S.z4nn_13_R; dsimp only
  rw [sub_all, Nat.zero_add, Nat.zero_add, Int.toNat_natCast]
  have e3 : @List.getD (Ty ET.pred) (allP l) i (dflt ET.pred) = (allP l)[i] := getD_of (α := Pred) _ i _ h
  rw [e3]
  simp only [DT.run_br, DT.run_leaf, DT.run_fail, xdec, xwrap, e_xneI, ne_eq, not_true, h, h1, h2, ix_wrap h (Nat.le_trans hlen (by decide)), Nat.le_refl, decide_true, decide_false, Bool.and_self, cond_true, cond_false, S.zgkp_is, S.zgkp_o, k, Option.isSome_some, Option.getD_some]) (by
  unfold S.z4nn_13_r S.z4nn_13_R; simp [DT.run_br, DT.run_leaf, xdec])
 have e0 : (⟨((0 : Nat) : Int)⟩ : S.z4nn_13_V) = ⟨0⟩ := rfl
 rw [e0] at key
 simp only [S.zxuk_is, S.zxuk_o, hT, S.zgkp_is, S.zgkp_o, hF, Option.isSome_some, Option.getD_some, S.z4nn_13_j]
 simp only [Lp_j_of key]
 obtain ⟨i, hi, f1, f2⟩ := findL_mem p1
 rw [f1]
 have b1 : ¬ (i : Int) < 0 := by omega
 have b2 : ¬ (i : Int) ≥ ((allP l).length : Int) := by omega
 have b3 : (i : Int) < ((allP l).length : Int) := by omega
 have b4 : (0 : Int) ≤ (i : Int) := by omega
 have b5 : i < ((allP l).map (tellP n t v)).length := by rw [List.length_map]; exact hi
 have e4 : @List.getD (Ty ET.bool) ((allP l).map (tellP n t v)) i (dflt ET.bool) = ((allP l).map (tellP n t v))[i] := getD_of (α := Bool) _ i _ b5
 have e5 : ((allP l).map (tellP n t v))[i] = (decide (s.name = n) && (S.zvnj_o n t v s.ifs).x0) := by
  rw [List.getElem_map, f2]; rfl
 rw [Nat.zero_add, Nat.zero_add, Int.toNat_natCast, e4, e5]
 have hH : ∀ a, S.zvnj_is n t v a = true := fun a => q_holds_is n t v a
 simp only [DT.run_br, DT.run_leaf, DT.run_fail, xdec, xnot, e_xneI, ne_eq, not_true, c1, c2, c3, c4, a1, a2, a3, a4, b1, b2, b3, b4, b5, hH, Nat.le_refl, decide_true, decide_false, Bool.not_true, Bool.not_false, Bool.and_self, Bool.true_and, Bool.false_and, cond_true, cond_false]
 cases hg2 : s.guard with
 | false =>
  by_cases hn : s.name = n
  ·simp [hn]
  ·simp [hn]
 | true =>
  obtain ⟨j, hj, g1, g2⟩ := findL_mem (p2 hg2)
  rw [g1]
  have d1 : (j : Int) ≥ 0 := by omega
  have d2 : (j : Int) < ((allP l).length : Int) := by omega
  have d3 : (0 : Int) ≤ (j : Int) := by omega
  have d4 : j < ((allP l).map (tellP n t v)).length := by rw [List.length_map]; exact hj
  have e6 : @List.getD (Ty ET.bool) ((allP l).map (tellP n t v)) j (dflt ET.bool) = ((allP l).map (tellP n t v))[j] := getD_of (α := Bool) _ j _ d4
  have e7 : ((allP l).map (tellP n t v))[j] = (decide (s.notName = n) && (S.zvnj_o n t v s.notIf).x0) := by
   rw [List.getElem_map, g2]; rfl
  rw [Int.toNat_natCast, Nat.zero_add, e6, e7]
  simp only [d1, d2, d3, d4, decide_true, Bool.and_self, cond_true, Bool.not_true, cond_false]
  by_cases hn : s.name = n <;> by_cases hm : s.notName = n <;> simp [hn, hm]
end Go.Eng
