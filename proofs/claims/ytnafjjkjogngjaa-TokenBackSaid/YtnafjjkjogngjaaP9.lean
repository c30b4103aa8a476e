/- Plain facts on sessions. -/
import Derived.Test.YtnafjjkjogngjaaP8
set_option linter.unusedVariables false
set_option linter.unusedSimpArgs false
namespace Go.Eng
open Go Go.Eng
theorem w25 : IntKind.i64.wrap 25 = 25 := t_wrap (by omega) (by omega)
theorem aw1 : issueL [] 7 1 3 = ⟨[⟨7, 1, 3, 0⟩], 0⟩ := by simp [issueL, MayL, fI]
theorem aw2 : leaveL [⟨7, 1, 3, 0⟩] 3 5 = [⟨7, 1, -1, 5⟩] := by simp [leaveL, pConn, updP, clampT]
theorem aw3 : joinL [⟨7, 1, -1, 5⟩] 7 4 24 = ⟨[⟨7, 1, 4, 0⟩], 1, 0⟩ := by simp [joinL, MayL, ok1, nw, fI, pConn, pTok, pTime, updP, w25]
theorem aw4 : joinL [⟨7, 1, -1, 5⟩] 7 4 25 = ⟨[], 0, 10⟩ := by simp [joinL, MayL, ok1, nw, fI, pConn, pTok, pTime, updP, w25]
theorem aw5 : [(⟨7, 1, -1, 5⟩ : Pass)].filter (pTime 25) = [⟨7, 1, -1, 5⟩] := by simp [pTime, w25]
theorem aw6 : MayL [⟨7, 1, -1, 5⟩] := by simp [MayL, ok1]
theorem aw7 : fI [⟨7, 1, -1, 5⟩] (pConn 3) = -1 := by simp [fI, pConn]
theorem t_awake : S.law16_awake = some ⟨true⟩ := by
  have h1 : S.token_Issue_o [] 7 1 3 = ⟨[⟨7, 1, 3, 0⟩], 0⟩ := (t_Issue_o _ _ _ _ (by decide)).trans aw1
  have h2 : (S.token_Leave_o [⟨7, 1, 3, 0⟩] 3 5).x0 = [⟨7, 1, -1, 5⟩] := (t_Leave_o _ _ _ (by decide)).trans aw2
  have h3 : S.token_Join_o [⟨7, 1, -1, 5⟩] 7 4 24 = ⟨[⟨7, 1, 4, 0⟩], 1, 0⟩ := (t_Join_o _ _ _ _ (by decide)).trans aw3
  have h4 : S.token_Join_o [⟨7, 1, -1, 5⟩] 7 4 25 = ⟨[], 0, 10⟩ := (t_Join_o _ _ _ _ (by decide)).trans aw4
  have h5 : (S.token_Sweep_o [⟨7, 1, -1, 5⟩] 25).x1.length = 1 := by rw [t_Sweep_o _ _ (by decide)]; show (List.map _ (List.filter (pTime 25) [(⟨7, 1, -1, 5⟩ : Pass)])).length = 1; rw [aw5]; rfl
  have h6 : (S.token_May_o [⟨7, 1, -1, 5⟩]).x0 = true := by rw [t_May_o _ (by decide)]; exact decide_eq_true aw6
  have h7 : (S.token_Find_o [⟨7, 1, -1, 5⟩] 3).x0 = -1 := (t_Find_o _ _ (by decide)).trans aw7
  have j1 : S.token_Issue_is [] 7 1 3 = true := t_Issue_is _ _ _ _ (by decide)
  have j2 : S.token_Leave_is [⟨7, 1, 3, 0⟩] 3 5 = true := t_Leave_is _ _ _ (by decide)
  have j3 : S.token_Join_is [⟨7, 1, -1, 5⟩] 7 4 24 = true := t_Join_is _ _ _ _ (by decide)
  have j4 : S.token_Join_is [⟨7, 1, -1, 5⟩] 7 4 25 = true := t_Join_is _ _ _ _ (by decide)
  have j5 : S.token_Sweep_is [⟨7, 1, -1, 5⟩] 25 = true := t_Sweep_is _ _ (by decide)
  have j6 : S.token_May_is [⟨7, 1, -1, 5⟩] = true := t_May_is _ (by decide)
  have j7 : S.token_Find_is [⟨7, 1, -1, 5⟩] 3 = true := t_Find_is _ _ (by decide)
  unfold S.law16_awake S.law16_awake_R
  dsimp only
  rw [h1]
  dsimp only
  rw [h2, h3, h4, h5, h6, h7, j1, j2, j3, j4, j5, j6, j7]
  rfl
theorem t_awake_is : S.law16_awake_is = true := by simp [S.law16_awake_is, t_awake]
theorem t_awake_o : S.law16_awake_o.x0 = true := by simp [S.law16_awake_o, t_awake]
theorem MayL_filter {l : PP} (f : Pass → Bool) (h : MayL l) : MayL (l.filter f) :=
  ⟨fun p hp => h.1 p ((List.mem_filter.1 hp).1), h.2.1.filter f, Nat.le_trans (List.length_filter_le _ _) h.2.2⟩
theorem MayL_set {l : PP} {j : Nat} (hj : j < l.length) {p : Pass} (h : MayL l) (h1 : p.token = l[j].token) (h2 : p.sess = l[j].sess) (h3 : ok1 p) (h4 : p.conn ≠ -1 → ∀ q ∈ l, q.conn ≠ p.conn) : MayL (l.set j p) := by
  obtain ⟨g1, g2, g3⟩ := h
  rw [List.pairwise_iff_getElem] at g2
  refine ⟨fun q hq => ?_, ?_, by simpa using g3⟩
  · rcases List.mem_or_eq_of_mem_set hq with hq | rfl
    · exact g1 q hq
    · exact h3
  · rw [List.pairwise_iff_getElem]
    intro a b ha hb hab
    simp only [List.length_set] at ha hb
    have g := g2 a b ha hb hab
    simp only [List.getElem_set]
    by_cases e1 : j = a
    · subst e1
      have e2 : ¬ j = b := by omega
      simp only [if_true, e2, if_false]
      refine ⟨by rw [h1]; exact g.1, by rw [h2]; exact g.2.1, fun hc => ?_⟩
      by_cases hp : p.conn = -1
      · rw [hp]; exact fun hh => hc hh.symm
      · exact fun hh => h4 hp _ (List.getElem_mem hb) hh.symm
    · by_cases e2 : j = b
      · subst e2
        simp only [if_true, e1, if_false]
        exact ⟨by rw [h1]; exact g.1, by rw [h2]; exact g.2.1, fun hc => h4 hc _ (List.getElem_mem ha)⟩
      · simp only [e1, e2, if_false]
        exact g
theorem clamp_ok (now : Int) : 0 ≤ clampT now ∧ clampT now ≤ 1125899906842624 := by
  unfold clampT
  split <;> split <;> omega
theorem MayL_leave {l : PP} (c now : Int) (h : MayL l) : MayL (leaveL l c now) := by
  unfold leaveL
  cases hf : l.findIdx? (pConn c) with
  | none => exact h
  | some j =>
    obtain ⟨h1, h2, _⟩ := List.findIdx?_eq_some_iff_getElem.1 hf
    simp only [getD_of l j _ h1]
    refine MayL_set h1 h rfl rfl ⟨(h.1 _ (List.getElem_mem h1)).1, by simp [updP], (clamp_ok now).1, (clamp_ok now).2, fun hh => absurd rfl hh⟩ (fun hh => absurd rfl hh)
theorem conn_none {l : PP} {c : Int} (hc : 0 ≤ c) (h : fI l (pConn c) = -1) : ∀ q ∈ l, q.conn ≠ c := by
  intro q hq hh
  have := fI_neg.1 h q hq
  simp [pConn, hc, hh] at this
theorem MayL_join {l : PP} {t c now : Int} (h : MayL l) (h0 : (joinL l t c now).x2 = 0) : MayL (joinL l t c now).x0 := by
  unfold joinL at h0 ⊢
  split at h0
  · rename_i hh
    rw [if_pos hh]
    cases hf : l.findIdx? (pTok t) with
    | none => simp [hf] at h0
    | some j =>
      simp only [hf] at h0 ⊢
      obtain ⟨h1, h2, _⟩ := List.findIdx?_eq_some_iff_getElem.1 hf
      simp only [getD_of l j _ h1] at h0 ⊢
      split at h0
      · rename_i h3
        rw [if_pos h3]
        exact MayL_set h1 h rfl rfl ⟨(h.1 _ (List.getElem_mem h1)).1, by show -1 ≤ c; omega, by simp [updP], by simp [updP], fun _ => rfl⟩ (fun _ => conn_none hh.2.1 hh.2.2.2)
      · simp at h0
  · simp at h0
theorem MayL_issue {l : PP} {t s c : Int} (h : MayL l) (h0 : (issueL l t s c).x1 = 0) : MayL (issueL l t s c).x0 := by
  unfold issueL at h0 ⊢
  split at h0
  · rename_i hh
    rw [if_pos hh]
    split at h0
    · rename_i ht
      rw [if_pos ht]
      split at h0
      · simp at h0
      · rename_i h4
        rw [if_neg h4]
        obtain ⟨_, hs, hc, hfc, hfs⟩ := hh
        refine ⟨fun p hp => ?_, ?_, ?_⟩
        · rcases List.mem_append.1 hp with hp | hp
          · exact h.1 p hp
          · obtain rfl := List.mem_singleton.1 hp
            exact ⟨hs, by show -1 ≤ c; omega, Int.le_refl 0, by simp, fun _ => rfl⟩
        · rw [List.pairwise_append]
          refine ⟨h.2.1, List.pairwise_singleton _ _, fun q hq p hp => ?_⟩
          obtain rfl := List.mem_singleton.1 hp
          refine ⟨?_, ?_, fun _ => conn_none hc hfc q hq⟩
          · have := fI_neg.1 ht q hq; simpa [pTok] using this
          · have := fI_neg.1 hfs q hq; simpa [pSess] using this
        · have := h.2.2; simp; omega
    · simp at h0
  · simp at h0
end Go.Eng
