/- Token's laws: who comes back. -/
import Derived.Test.YtnafjjkjogngjaaP11
set_option linter.unusedVariables false
set_option linter.unusedSimpArgs false
namespace Go.Eng
open Go Go.Eng
theorem tok_idx {l : PP} (h : MayL l) {k : Nat} (hk : k < l.length) {t : Int} (ht : l[k].token = t) : l.findIdx? (pTok t) = some k := by
  rw [List.findIdx?_eq_some_iff_getElem]
  refine ⟨hk, by simp [pTok, ht], fun i hi hh => ?_⟩
  simp only [pTok, decide_eq_true_eq] at hh
  have := tok_uniq h (i := i) (by omega) hk (by rw [hh, ht])
  omega
theorem conn_idx {l : PP} (h : MayL l) {k : Nat} (hk : k < l.length) {c : Int} (h0 : 0 ≤ c) (ht : l[k].conn = c) : l.findIdx? (pConn c) = some k := by
  rw [List.findIdx?_eq_some_iff_getElem]
  refine ⟨hk, by simp [pConn, ht, h0], fun i hi hh => ?_⟩
  simp only [pConn, Bool.and_eq_true, decide_eq_true_eq] at hh
  have := conn_uniq h (i := i) (by omega) hk (by omega) (by rw [hh.2, ht])
  omega
theorem TokenBack_lp (l : PP) (t : Int) (hb : l.length ≤ 10) : Lp (S.law16_TokenBack_13_r l t) (⟨0⟩ : S.law16_TokenBack_13_V) = match l.findIdx? (pTok t) with
    | some j => some (0, ⟨j⟩)
    | none => some (1, ⟨l.length⟩) := by
  refine Lp_idx (fun i => (⟨i⟩ : S.law16_TokenBack_13_V)) l (pTok t) (fun i h => ?_) ?_
  · have h1 : ((i : Int) < (l.length : Int)) := by omega
    have h2 : (0 : Int) ≤ (i : Int) := by omega
    unfold S.law16_TokenBack_13_r S.law16_TokenBack_13_R
    simp only [DT.run_br, DT.run_leaf, DT.run_fail, xdec, xwrap, h1, h2, decide_true, Bool.and_self, cond_true, Int.toNat_natCast, getD_of l i _ h, t_wrap1 (show i ≤ 1048576 by omega), t_xeqI]
    show (bif pTok t l[i] then _ else _) = if pTok t l[i] = true then _ else _
    cases pTok t l[i] <;> rfl
  · unfold S.law16_TokenBack_13_r S.law16_TokenBack_13_R
    simp [DT.run_br, DT.run_leaf, xdec]
theorem law_TokenBack (l : PP) (at' t conn left now : Int) : S.law16_TokenBack l at' t conn left now = some ⟨true⟩ := by
  unfold S.law16_TokenBack S.law16_TokenBack_R
  dsimp only
  simp only [DT.run_br, DT.run_leaf, DT.run_fail, t_awake_is, t_awake_o, xnot, Bool.not_true, cond_true, cond_false, xdec]
  by_cases hb : (l.length : Int) > 10
  · simp [hb]
  have b1 : l.length ≤ 1048576 := by omega
  simp only [hb, decide_false, cond_false, t_May_is _ b1, t_May_o _ b1, cond_true]
  by_cases hm : MayL l
  case neg => simp [hm]
  simp only [hm, decide_true, Bool.not_true, cond_false, cond_true]
  by_cases g1 : at' < 0
  · simp [g1]
  by_cases g2 : at' ≥ l.length
  · simp [g1, g2]
  obtain ⟨k, rfl⟩ : ∃ k : Nat, at' = k := ⟨at'.toNat, by omega⟩
  have hk : k < l.length := by omega
  have g3 : (0 : Int) ≤ (k : Int) := by omega
  have g4 : (k : Int) < (l.length : Int) := by omega
  simp only [g1, g2, g3, g4, decide_false, decide_true, cond_false, cond_true, Bool.and_self, Int.toNat_natCast, getD_of l k _ hk, t_Find_is _ _ b1, t_Find_o _ _ b1]
  by_cases g5 : l[k].conn < 0
  · simp [g5]
  by_cases g6 : conn < 0
  · simp [g5, g6]
  by_cases g7 : fI l (pConn conn) ≥ 0
  · simp [g5, g6, g7]
  by_cases g8 : left < 0
  · simp [g5, g6, g7, g8]
  by_cases g9 : left > 1125899906842624
  · simp [g5, g6, g7, g8, g9]
  by_cases g10 : now < left
  · simp [g5, g6, g7, g8, g9, g10]
  have f0 : fI l (pConn conn) = -1 := by
    rcases fI_cases l (pConn conn) with h | ⟨j, _, h, _⟩
    · exact h
    · omega
  have hc : 0 ≤ conn := by omega
  have hn : 0 ≤ now := by omega
  have e1 : (joinL l l[k].token conn now).x2 = 10 := by
    unfold joinL
    rw [if_pos ⟨hm, hc, hn, f0⟩]
    simp only [tok_idx hm hk rfl, getD_of l k _ hk]
    rw [if_neg (fun h => by omega)]
  have cl : clampT left = left := by unfold clampT; rw [if_neg (show ¬ (0 : Int) > left by omega), if_neg (by omega)]
  have ex : leaveL l l[k].conn left = l.set k (updP (-1) left l[k]) := by
    unfold leaveL
    simp only [conn_idx hm hk (c := l[k].conn) (by omega) rfl, getD_of l k _ hk, cl]
  have mx := MayL_leave l[k].conn left hm
  rw [ex] at mx
  have hkx : k < (l.set k (updP (-1) left l[k])).length := by simpa using hk
  have ek : (l.set k (updP (-1) left l[k]))[k]'hkx = updP (-1) left l[k] := by simp
  have fx : fI (l.set k (updP (-1) left l[k])) (pConn conn) = -1 := by
    rw [fI_neg]
    intro q hq
    rcases List.mem_or_eq_of_mem_set hq with hq | rfl
    · exact fI_neg.1 f0 q hq
    · have e : (updP (-1) left l[k]).conn = -1 := rfl
      unfold pConn
      rw [e]
      simp only [Bool.and_eq_false_iff, decide_eq_false_iff_not]
      right; omega
  have bx : (l.set k (updP (-1) left l[k])).length ≤ 1048576 := by simpa using b1
  have jx : joinL (l.set k (updP (-1) left l[k])) l[k].token conn now = if now < left + 20 then ⟨l.set k (updP conn 0 l[k]), l[k].sess, 0⟩ else ⟨[], 0, 10⟩ := by
    unfold joinL
    rw [if_pos ⟨mx, hc, hn, fx⟩]
    have := tok_idx mx hkx (t := l[k].token) (by rw [ek]; rfl)
    simp only [this, getD_of _ k _ hkx, ek]
    have w : IntKind.i64.wrap (left + 20) = left + 20 := t_wrap (by omega) (by omega)
    by_cases h : now < left + 20
    · rw [if_pos h, if_pos]
      · simp [updP]
      · refine ⟨rfl, ?_⟩
        simp only [pTime, updP, w, Bool.and_eq_false_iff, decide_eq_false_iff_not]; right; omega
    · rw [if_neg h, if_neg]
      rintro ⟨_, h2⟩
      simp only [pTime, updP, w, Bool.and_eq_false_iff, decide_eq_false_iff_not] at h2
      rcases h2 with h2 | h2
      · exact h2 trivial
      · omega
  have w : IntKind.i64.wrap (left + 20) = left + 20 := t_wrap (by omega) (by omega)
  have lp := TokenBack_lp l t (by omega)
  have jt : l.findIdx? (pTok t) = none → (joinL (l.set k (updP (-1) left l[k])) t conn now).x2 = 10 := by
    intro h
    unfold joinL
    rw [if_pos ⟨mx, hc, hn, fx⟩]
    have : (l.set k (updP (-1) left l[k])).findIdx? (pTok t) = none := by
      rw [List.findIdx?_eq_none_iff] at h ⊢
      intro q hq
      rcases List.mem_or_eq_of_mem_set hq with hq | rfl
      · exact h q hq
      · show pTok t l[k] = false
        exact h _ (List.getElem_mem hk)
    simp only [this]
  have my : now < left + 20 → MayL (l.set k (updP conn 0 l[k])) := by
    intro h
    have := MayL_join (l := l.set k (updP (-1) left l[k])) (t := l[k].token) (c := conn) (now := now) mx (by rw [jx, if_pos h])
    rwa [jx, if_pos h] at this
  have by' : (l.set k (updP conn 0 l[k])).length ≤ 1048576 := by simpa using b1
  have ly : (l.set k (updP conn 0 l[k])).length = l.length := by simp
  have fy : now < left + 20 → fI (l.set k (updP conn 0 l[k])) (pConn conn) = k := by
    intro h
    refine fI_of (conn_idx (my h) (by simpa using hk) hc ?_)
    simp [updP]
  simp only [g5, g6, g7, g8, g9, g10, decide_false, cond_false, t_Join_is _ _ _ _ b1, t_Join_o _ _ _ _ b1, t_Leave_is _ _ _ b1, t_Leave_o _ _ _ b1, ex, t_Join_is _ _ _ _ bx, t_Join_o _ _ _ _ bx, jx, e1, cond_true, t_xneI, t_xeqI, xwrap, w, ne_eq, not_true]
  by_cases h : now < left + 20
  · simp only [h, if_true, decide_true, not_true, decide_false, beq_self_eq_true, cond_true, cond_false, t_Find_is _ _ by', t_Find_o _ _ by', fy h, ly, S.law16_TokenBack_13_j]
    cases ht : l.findIdx? (pTok t) with
    | none =>
      rw [ht] at lp
      simp [Lp_j_of lp, jt ht]
    | some j =>
      rw [ht] at lp
      simp [Lp_j_of lp]
  · simp only [h, if_false, decide_false, cond_false, S.law16_TokenBack_13_j]
    cases ht : l.findIdx? (pTok t) with
    | none =>
      rw [ht] at lp
      simp [Lp_j_of lp, jt ht]
    | some j =>
      rw [ht] at lp
      simp [Lp_j_of lp]
end Go.Eng
