/- index.All: all rounds. -/
import Derived.Test.YtbjeikmkngcjlaaVZP46
set_option linter.unusedVariables false
set_option linter.unusedSimpArgs false
namespace Go.Eng
open Go Go.Eng
theorem fold_ok : ∀ (ps : List Pred) {σ : MP × List Pred}, okM σ → okM (ps.foldl addM σ)
 | [], _, h => h
 | p :: ps, _, h => fold_ok ps (addM_ok h p)
theorem fold_short : ∀ (ps : List Pred) {σ : MP × List Pred}, shortP σ.2 → shortP ps → shortP (ps.foldl addM σ).2
 | [], _, h, _ => h
 | p :: ps, _, h, hp => fold_short ps (addM_short h (hp p List.mem_cons_self)) (fun x hx => hp x (List.mem_cons_of_mem _ hx))
theorem addP_len (m : List Pred) (p : Pred) : (addP m p).length ≤ m.length + 1 := by
 unfold addP; split
 ·omega
 ·simp
theorem foldP_len : ∀ (ps : List Pred) (m : List Pred), (ps.foldl addP m).length ≤ m.length + ps.length
 | [], m => by simp
 | p :: ps, m => by
  have h1 := foldP_len ps (addP m p)
  have h2 := addP_len m p
  simp only [List.foldl_cons, List.length_cons]; omega
theorem fold_snd : ∀ (ps : List Pred) (σ : MP × List Pred), (ps.foldl addM σ).2 = ps.foldl addP σ.2
 | [], _ => rfl
 | p :: ps, σ => by rw [List.foldl_cons, fold_snd ps, addM_snd]; rfl
theorem asks_len (s : Step) : (asks s).length ≤ 2 := by unfold asks; split <;> simp
theorem asksL_len : ∀ (l : List Step), (l.flatMap asks).length ≤ 2 * l.length
 | [] => by simp
 | s :: l => by
  have h1 := asks_len s
  have h2 := asksL_len l
  simp only [List.flatMap_cons, List.length_append, List.length_cons]; omega
def shortS (l : List Step) : Prop := ∀ s ∈ l, s.ifs.length ≤ 1048576 ∧ s.notIf.length ≤ 1048576
theorem asks_short {l : List Step} (h : shortS l) : shortP (l.flatMap asks) := by
 intro p hp
 obtain ⟨s, hs, hp⟩ := List.mem_flatMap.mp hp
 obtain ⟨h1, h2⟩ := h s hs
 unfold asks at hp
 rcases List.mem_cons.mp hp with rfl | hp
 ·exact h1
 ·split at hp
  ·rw [List.mem_singleton.mp hp]; exact h2
  ·cases hp
theorem all_steps (l : List Step) (hl : l.length ≤ maxLen) (σ : MP × List Pred) (hok : okM σ) (hw : shortP σ.2) (hm : σ.2.length + 2 * l.length ≤ 1048576) (hs : shortS l) :
    Lp (S.zdrt_4_r l l.length) (ofM 0 σ) = some (0, ofM l.length ((l.flatMap asks).foldl addM σ)) := by
 have := Lp_walk (r := S.zdrt_4_r l l.length) (fun k => ofM k (((l.take k).flatMap asks).foldl addM σ)) l.length 0 (fun i h => by
  have hst : shortS (l.take i) := fun s h => hs s (List.mem_of_mem_take h)
  have k1 := all_round l i h hl (((l.take i).flatMap asks).foldl addM σ) (fold_ok _ hok) (fold_short _ hw (asks_short hst)) (by
   rw [fold_snd]
   have a1 := foldP_len ((l.take i).flatMap asks) σ.2
   have a2 := asksL_len (l.take i)
   have a3 : (l.take i).length ≤ i := by rw [List.length_take]; exact Nat.min_le_left _ _
   omega) (hs _ (List.getElem_mem h)).1 (hs _ (List.getElem_mem h)).2
  rw [k1, ← List.foldl_append]
  congr 4
  rw [List.take_succ_eq_append_getElem h, List.flatMap_append]
  simp) (by
  unfold S.zdrt_4_r S.zdrt_4_R ofM; simp [DT.run_br, DT.run_leaf, xdec])
 rw [List.take_zero, List.take_of_length_le (Nat.le_refl _)] at this
 exact this
def of1 (i : Nat) (σ : MP × List Pred) : S.zdrt_1_V := ⟨(i : Int), σ.2.isEmpty, σ.2.length, σ.1, σ.2⟩
def fewS (l : List Step) : Prop := l.length ≤ 8 ∧ ∀ s ∈ l, s.ifs.length ≤ 20 ∧ s.notIf.length ≤ 20
def fewQ (l : List Query) : Prop := l.length ≤ 6 ∧ ∀ q ∈ l, fewS q.steps
theorem fewS.short {l : List Step} (h : fewS l) : shortS l := fun s hs => by have := h.2 s hs; omega
theorem asksQ_len : ∀ (l : List Query), (∀ q ∈ l, q.steps.length ≤ 8) → (l.flatMap (fun q => q.steps.flatMap asks)).length ≤ 16 * l.length
 | [], _ => by simp
 | q :: l, h => by
  have h1 := asksL_len q.steps
  have h2 := asksQ_len l (fun x hx => h x (List.mem_cons_of_mem _ hx))
  have h3 := h q List.mem_cons_self
  simp only [List.flatMap_cons, List.length_append, List.length_cons]; omega
theorem asksQ_short {l : List Query} (h : ∀ q ∈ l, shortS q.steps) : shortP (l.flatMap (fun q => q.steps.flatMap asks)) := by
 intro p hp
 obtain ⟨q, hq, hp⟩ := List.mem_flatMap.mp hp
 exact asks_short (h q hq) p hp
theorem q_All (l : List Query) (hf : fewQ l) : S.zdrt l = some ⟨allP l, (allP l).isEmpty, (allP l).length⟩ := by
 have ok0 : okM (([], []) : MP × List Pred) := fun n => rfl
 have sh0 : shortP (([], []) : MP × List Pred).2 := fun p h => by cases h
 have big : (1048576 : Nat) ≤ maxLen := by decide
 have hl : l.length ≤ 6 := hf.1
 have key := Lp_walk (r := S.zdrt_1_r l l.length) (fun k => of1 k (((l.take k).flatMap (fun q => q.steps.flatMap asks)).foldl addM ([], []))) l.length 0 (fun i h => by
  have g1 : ((i : Int) < (l.length : Int)) := by omega
  have g2 : (0 : Int) ≤ (i : Int) := by omega
  generalize hσ : ((l.take i).flatMap (fun q => q.steps.flatMap asks)).foldl addM (([], []) : MP × List Pred) = σ
  have i1 : okM σ := by rw [← hσ]; exact fold_ok _ ok0
  have i2 : shortP σ.2 := by rw [← hσ]; exact fold_short _ sh0 (asksQ_short fun q hq => (hf.2 q (List.mem_of_mem_take hq)).short)
  have i3 : σ.2.length ≤ 96 := by
   rw [← hσ, fold_snd]
   have a1 := foldP_len ((l.take i).flatMap (fun q => q.steps.flatMap asks)) ([] : List Pred)
   have a2 := asksQ_len (l.take i) (fun q hq => (hf.2 q (List.mem_of_mem_take hq)).1)
   have a3 : (l.take i).length ≤ i := by rw [List.length_take]; exact Nat.min_le_left _ _
   simp only [List.length_nil] at a1
   dsimp only
   omega
  have fq := hf.2 _ (List.getElem_mem h)
  have k1 := all_steps l[i].steps (by have := fq.1; omega) σ i1 i2 (by have := fq.1; omega) fq.short
  unfold S.zdrt_1_r S.zdrt_1_R of1
  dsimp only
  rw [Int.toNat_natCast, getD_of l i _ h]
  have k2 : (⟨0, σ.2.isEmpty, σ.2.length, σ.1, σ.2⟩ : S.zdrt_4_V) = ofM 0 σ := rfl
  rw [k2]
  simp only [DT.run_br, DT.run_leaf, DT.run_fail, xdec, xwrap, g1, g2, ix_wrap h (by omega), decide_true, Bool.and_self, cond_true, S.zdrt_4_j, S.zdrt_4_v]
  rw [Lp_j_of k1, Lp_v_of k1]
  have e : ((l.take (i + 1)).flatMap (fun q => q.steps.flatMap asks)).foldl addM (([], []) : MP × List Pred) = (l[i].steps.flatMap asks).foldl addM σ := by
   rw [← hσ, ← List.foldl_append, List.take_succ_eq_append_getElem h, List.flatMap_append]
   simp
  rw [e]; rfl) (by
  unfold S.zdrt_1_r S.zdrt_1_R of1; simp [DT.run_br, DT.run_leaf, xdec])
 rw [List.take_zero, List.take_of_length_le (Nat.le_refl _)] at key
 have e0 : of1 0 (([] : List Query).flatMap (fun q => q.steps.flatMap asks) |>.foldl addM (([], []) : MP × List Pred)) = (⟨0, true, 0, [], []⟩ : S.zdrt_1_V) := rfl
 rw [e0] at key
 unfold S.zdrt S.zdrt_R; dsimp only
 simp only [DT.run_br, DT.run_leaf, DT.run_fail, S.zdrt_1_j, S.zdrt_1_v]
 rw [Lp_j_of key, Lp_v_of key]
 unfold of1
 rw [fold_snd]; rfl
end Go.Eng
