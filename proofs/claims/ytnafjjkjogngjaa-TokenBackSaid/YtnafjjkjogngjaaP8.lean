/- What token's functions come to: without some, and swept. -/
import Derived.Test.YtnafjjkjogngjaaP7
set_option linter.unusedVariables false
set_option linter.unusedSimpArgs false
namespace Go.Eng
open Go Go.Eng
/-- a loop that goes from 0 to n -/
theorem Lp_walk {V : Type} {r : V → Option (Option Nat × V)} (mk : Nat → V) (n e : Nat) (h1 : ∀ i, i < n → r (mk i) = some (none, mk (i + 1))) (h2 : r (mk n) = some (some e, mk n)) : Lp r (mk 0) = some (e, mk n) := by
  have key : ∀ k i, i + k = n → Lp r (mk i) = some (e, mk n) := by
    intro k
    induction k with
    | zero => intro i hi; have : i = n := by omega
              subst this; exact Lp_exit h2
    | succ k ih => intro i hi; rw [Lp_cont (h1 i (by omega))]; exact ih (i + 1) (by omega)
  exact key n 0 (by omega)
/-- what is so is taken out, the rest moved ahead -/
theorem Lp_del {V α : Type} {r : V → Option (Option Nat × V)} (mk : Nat → Nat → List α → V) (n : Nat) (p : α → Bool)
    (h1 : ∀ (i j : Nat) (a : List α) (h : j < a.length), i ≤ j → a.length = n → r (mk i j a) = if p a[j] = true then some (none, mk i (j + 1) a) else some (none, mk (i + 1) (j + 1) (a.set i a[j])))
    (h2 : ∀ i a, r (mk i n a) = some (some 0, mk i n a)) : ∀ (k i j : Nat) (a : List α), j + k = n → i ≤ j → a.length = n →
      ∃ i' a', Lp r (mk i j a) = some (0, mk i' n a') ∧ a'.length = n ∧ i' ≤ n ∧ a'.take i' = a.take i ++ (a.drop j).filter (fun x => !p x)
  | 0, i, j, a, hk, hij, ha => by
    have : j = n := by omega
    subst this
    refine ⟨i, a, Lp_exit (h2 i a), ha, hij, ?_⟩
    rw [List.drop_eq_nil_of_le (by omega)]; simp
  | k + 1, i, j, a, hk, hij, ha => by
    have hj : j < a.length := by omega
    have hr := h1 i j a hj hij ha
    rw [List.drop_eq_getElem_cons hj, List.filter_cons]
    by_cases hp : p a[j] = true
    · rw [if_pos hp] at hr
      obtain ⟨i', a', g1, g2, g3, g4⟩ := Lp_del mk n p h1 h2 k i (j + 1) a (by omega) (by omega) ha
      refine ⟨i', a', by rw [Lp_cont hr, g1], g2, g3, ?_⟩
      rw [g4, if_neg (by simp [hp])]
    · rw [if_neg hp] at hr
      obtain ⟨i', a', g1, g2, g3, g4⟩ := Lp_del mk n p h1 h2 k (i + 1) (j + 1) (a.set i a[j]) (by omega) (by omega) (by simpa using ha)
      refine ⟨i', a', by rw [Lp_cont hr, g1], g2, g3, ?_⟩
      rw [g4, if_pos (by simpa using hp)]
      have hi : i < a.length := by omega
      have e1 : (a.set i a[j]).drop (j + 1) = a.drop (j + 1) := by
        rw [List.drop_set_of_lt (by omega)]
      have e2 : (a.set i a[j]).take (i + 1) = a.take i ++ [a[j]] := by
        rw [List.take_succ_eq_append_getElem (by simpa using hi), List.take_set_of_le (Nat.le_refl i)]
        simp
      rw [e1, e2]
      simp
theorem filter_idx {α : Type} (l : List α) (p : α → Bool) : l.filter (fun x => !p x) = match l.findIdx? p with
    | none => l
    | some j => l.take j ++ (l.drop (j + 1)).filter (fun x => !p x) := by
  cases h : l.findIdx? p with
  | none =>
    have := List.findIdx?_eq_none_iff.1 h
    exact List.filter_eq_self.2 (fun x hx => by simp [this x hx])
  | some j =>
    obtain ⟨h1, h2, h3⟩ := List.findIdx?_eq_some_iff_getElem.1 h
    conv => lhs; rw [← List.take_append_drop j l]
    rw [List.filter_append, List.drop_eq_getElem_cons h1, List.filter_cons, if_neg (by simp [h2])]
    congr 1
    refine List.filter_eq_self.2 (fun x hx => ?_)
    rw [List.mem_take_iff_getElem] at hx
    obtain ⟨i, hi, rfl⟩ := hx
    simpa using h3 i (by omega)
theorem t_without_time_lp (n : Nat) (c : Int) (hn : n ≤ 1048575) (i j : Nat) (a : PP) (hj : j ≤ n) (hij : i ≤ j) (ha : a.length = n) :
    ∃ (i' : Nat) (a' : PP), Lp (S.without_time_5_r n c) (⟨i, j, a⟩ : S.without_time_5_V) = some (0, (⟨i', n, a'⟩ : S.without_time_5_V)) ∧ a'.length = n ∧ i' ≤ n ∧ a'.take i' = a.take i ++ (a.drop j).filter (fun x => !pTime c x) := by
  refine Lp_del (fun (i j : Nat) a => (⟨i, j, a⟩ : S.without_time_5_V)) n (pTime c) (fun i j a h hij ha => ?_) (fun i a => ?_) (n - j) i j a (by omega) hij ha
  · have h1 : ((j : Int) < (n : Int)) := by omega
    have h2 : (0 : Int) ≤ (j : Int) := by omega
    have h3 : ((i : Int) < (n : Int)) := by omega
    have h4 : (0 : Int) ≤ (i : Int) := by omega
    have h5 : i < a.length := by omega
    unfold S.without_time_5_r S.without_time_5_R
    simp only [DT.run_br, DT.run_leaf, DT.run_fail, xdec, xwrap, xnot, h1, h2, h3, h4, h5, h, decide_true, Bool.and_self, cond_true, Nat.zero_add, Int.toNat_natCast, getD_of a j _ h, t_byTime_1_is, t_byTime_1_o, t_wrap1 (show j ≤ 1048576 by omega), t_wrap1 (show i ≤ 1048576 by omega)]
    show (bif !(pTime c a[j]) then _ else _) = if pTime c a[j] = true then _ else _
    cases pTime c a[j] <;> rfl
  · unfold S.without_time_5_r S.without_time_5_R
    simp [DT.run_br, DT.run_leaf, xdec]
theorem t_without_time (l : PP) (c : Int) (hb : l.length ≤ 1048575) : S.without_time l c = some ⟨l.filter (fun x => !pTime c x)⟩ := by
  have hb' : l.length ≤ 1048576 := by omega
  have el := sub_len l l.length rfl
  unfold S.without_time S.without_time_R
  simp only [DT.run_br, DT.run_leaf, DT.run_fail, t_Clone_is l hb', t_Clone_o l hb', cond_true, xdec, Nat.zero_add, Nat.le_refl, decide_true, Bool.and_self, el, t_idx_time_is l c hb', t_idx_time_o l c hb', t_xeqI]
  rw [filter_idx]
  cases h : l.findIdx? (pTime c) with
  | none => simp [fI, h]
  | some j =>
    obtain ⟨h1, h2, _⟩ := List.findIdx?_eq_some_iff_getElem.1 h
    have h3 : ¬ (j : Int) = -1 := by omega
    obtain ⟨i', a', g1, g2, g3, g4⟩ := t_without_time_lp l.length c hb j (j + 1) l (by omega) (by omega) rfl
    have h4 : (i' : Int) ≤ Int.ofNat l.length := by have := Int.ofNat_eq_natCast l.length; omega
    simp only [fI, h, h3, decide_false, cond_false, xwrap, t_wrap1 (show j ≤ 1048576 by omega), S.without_time_5_j, S.without_time_5_v, Lp_j_of g1, Lp_v_of g1, beq_self_eq_true, cond_true, Int.natCast_nonneg, h4, decide_true, Bool.and_self, Option.getD_some, Int.toNat_natCast, g2]
    have h5 : i' + (l.length - i') = l.length := by omega
    have h6 : (List.take i' a').length = i' := by simp; omega
    simp only [h5, Nat.le_refl, decide_true, cond_true, List.length_append, h6, List.length_replicate, g2, List.length_drop]
    have h7 : i' ≤ l.length + (l.length - l.length) := by omega
    simp only [h7, decide_true, cond_true, Bool.and_self]
    rw [sub0, List.append_assoc, List.take_append_of_le_length (by omega), List.take_take, Nat.min_self, g4]
theorem t_without_time_is (l : PP) (c : Int) (hb : l.length ≤ 1048575) : S.without_time_is l c = true := by simp [S.without_time_is, t_without_time l c hb]
theorem t_without_time_o (l : PP) (c : Int) (hb : l.length ≤ 1048575) : (S.without_time_o l c).x0 = l.filter (fun x => !pTime c x) := by simp [S.without_time_o, t_without_time l c hb]
theorem t_without_sess_lp (n : Nat) (c : Int) (hn : n ≤ 1048575) (i j : Nat) (a : PP) (hj : j ≤ n) (hij : i ≤ j) (ha : a.length = n) :
    ∃ (i' : Nat) (a' : PP), Lp (S.without_sess_5_r n c) (⟨i, j, a⟩ : S.without_sess_5_V) = some (0, (⟨i', n, a'⟩ : S.without_sess_5_V)) ∧ a'.length = n ∧ i' ≤ n ∧ a'.take i' = a.take i ++ (a.drop j).filter (fun x => !pSess c x) := by
  refine Lp_del (fun (i j : Nat) a => (⟨i, j, a⟩ : S.without_sess_5_V)) n (pSess c) (fun i j a h hij ha => ?_) (fun i a => ?_) (n - j) i j a (by omega) hij ha
  · have h1 : ((j : Int) < (n : Int)) := by omega
    have h2 : (0 : Int) ≤ (j : Int) := by omega
    have h3 : ((i : Int) < (n : Int)) := by omega
    have h4 : (0 : Int) ≤ (i : Int) := by omega
    have h5 : i < a.length := by omega
    unfold S.without_sess_5_r S.without_sess_5_R
    simp only [DT.run_br, DT.run_leaf, DT.run_fail, xdec, xwrap, xnot, h1, h2, h3, h4, h5, h, decide_true, Bool.and_self, cond_true, Nat.zero_add, Int.toNat_natCast, getD_of a j _ h, t_bySess_1_is, t_bySess_1_o, t_wrap1 (show j ≤ 1048576 by omega), t_wrap1 (show i ≤ 1048576 by omega)]
    show (bif !(pSess c a[j]) then _ else _) = if pSess c a[j] = true then _ else _
    cases pSess c a[j] <;> rfl
  · unfold S.without_sess_5_r S.without_sess_5_R
    simp [DT.run_br, DT.run_leaf, xdec]
theorem t_without_sess (l : PP) (c : Int) (hb : l.length ≤ 1048575) : S.without_sess l c = some ⟨l.filter (fun x => !pSess c x)⟩ := by
  have hb' : l.length ≤ 1048576 := by omega
  have el := sub_len l l.length rfl
  unfold S.without_sess S.without_sess_R
  simp only [DT.run_br, DT.run_leaf, DT.run_fail, t_Clone_is l hb', t_Clone_o l hb', cond_true, xdec, Nat.zero_add, Nat.le_refl, decide_true, Bool.and_self, el, t_idx_sess_is l c hb', t_idx_sess_o l c hb', t_xeqI]
  rw [filter_idx]
  cases h : l.findIdx? (pSess c) with
  | none => simp [fI, h]
  | some j =>
    obtain ⟨h1, h2, _⟩ := List.findIdx?_eq_some_iff_getElem.1 h
    have h3 : ¬ (j : Int) = -1 := by omega
    obtain ⟨i', a', g1, g2, g3, g4⟩ := t_without_sess_lp l.length c hb j (j + 1) l (by omega) (by omega) rfl
    have h4 : (i' : Int) ≤ Int.ofNat l.length := by have := Int.ofNat_eq_natCast l.length; omega
    simp only [fI, h, h3, decide_false, cond_false, xwrap, t_wrap1 (show j ≤ 1048576 by omega), S.without_sess_5_j, S.without_sess_5_v, Lp_j_of g1, Lp_v_of g1, beq_self_eq_true, cond_true, Int.natCast_nonneg, h4, decide_true, Bool.and_self, Option.getD_some, Int.toNat_natCast, g2]
    have h5 : i' + (l.length - i') = l.length := by omega
    have h6 : (List.take i' a').length = i' := by simp; omega
    simp only [h5, Nat.le_refl, decide_true, cond_true, List.length_append, h6, List.length_replicate, g2, List.length_drop]
    have h7 : i' ≤ l.length + (l.length - l.length) := by omega
    simp only [h7, decide_true, cond_true, Bool.and_self]
    rw [sub0, List.append_assoc, List.take_append_of_le_length (by omega), List.take_take, Nat.min_self, g4]
theorem t_without_sess_is (l : PP) (c : Int) (hb : l.length ≤ 1048575) : S.without_sess_is l c = true := by simp [S.without_sess_is, t_without_sess l c hb]
theorem t_without_sess_o (l : PP) (c : Int) (hb : l.length ≤ 1048575) : (S.without_sess_o l c).x0 = l.filter (fun x => !pSess c x) := by simp [S.without_sess_o, t_without_sess l c hb]

theorem t_Drop (l : PP) (s : Int) (hb : l.length ≤ 1048575) : S.token_Drop l s = some ⟨l.filter (fun p => !pSess s p)⟩ := by
  unfold S.token_Drop S.token_Drop_R
  simp only [DT.run_br, DT.run_leaf, DT.run_fail, t_bySess_o, t_without_sess_is l _ hb, t_without_sess_o l _ hb, cond_true]
theorem t_Drop_is (l : PP) (s : Int) (hb : l.length ≤ 1048575) : S.token_Drop_is l s = true := by simp [S.token_Drop_is, t_Drop l s hb]
theorem t_Drop_o (l : PP) (s : Int) (hb : l.length ≤ 1048575) : (S.token_Drop_o l s).x0 = l.filter (fun p => !pSess s p) := by simp [S.token_Drop_o, t_Drop l s hb]
def gone (l : PP) (now : Int) (i : Nat) : List Int := ((l.take i).filter (pTime now)).map (·.sess)
theorem gone_succ (l : PP) (now : Int) (i : Nat) (h : i < l.length) : gone l now (i + 1) = if pTime now l[i] = true then gone l now i ++ [l[i].sess] else gone l now i := by
  unfold gone
  rw [List.take_succ_eq_append_getElem h, List.filter_append]
  by_cases hp : pTime now l[i] = true <;> simp [hp]
theorem gone_len (l : PP) (now : Int) (i : Nat) : (gone l now i).length ≤ l.length := by
  unfold gone
  rw [List.length_map]
  exact Nat.le_trans (List.length_filter_le _ _) (by simp; omega)
theorem t_Sweep_lp (l : PP) (now : Int) (hb : l.length ≤ 1048575) : Lp (S.token_Sweep_4_r l l.length now) (⟨true, 0, 0, []⟩ : S.token_Sweep_4_V) = some (0, ⟨(gone l now l.length).isEmpty, (gone l now l.length).length, l.length, gone l now l.length⟩) := by
  refine Lp_walk (fun i => (⟨(gone l now i).isEmpty, (gone l now i).length, i, gone l now i⟩ : S.token_Sweep_4_V)) l.length 0 (fun i hi => ?_) ?_
  · have h1 : ((i : Int) < (l.length : Int)) := by omega
    have h2 : (0 : Int) ≤ (i : Int) := by omega
    have h3 : (gone l now i).length + 1 ≤ 1048576 := by have := gone_len l now i; omega
    unfold S.token_Sweep_4_r S.token_Sweep_4_R
    simp only [DT.run_br, DT.run_leaf, DT.run_fail, xdec, xwrap, h1, h2, h3, decide_true, Bool.and_self, cond_true, Int.toNat_natCast, getD_of l i _ hi, t_byTime_1_is, t_byTime_1_o, t_wrap1 (show i ≤ 1048576 by omega), Nat.le_refl, List.take_length, gone_succ l now i hi]
    show (bif pTime now l[i] then _ else _) = _
    by_cases hp : pTime now l[i] = true
    · simp only [hp, cond_true, if_true]
      simp
    · have hp' : pTime now l[i] = false := by simpa using hp
      simp only [hp', cond_false, Bool.false_eq_true, if_false]
  · unfold S.token_Sweep_4_r S.token_Sweep_4_R
    simp [DT.run_br, DT.run_leaf, xdec]
theorem t_Sweep (l : PP) (now : Int) (hb : l.length ≤ 1048575) : S.token_Sweep l now = some ⟨l.filter (fun p => !pTime now p), (l.filter (pTime now)).map (·.sess)⟩ := by
  have e := t_Sweep_lp l now hb
  unfold S.token_Sweep S.token_Sweep_R
  simp only [DT.run_br, DT.run_leaf, DT.run_fail, t_byTime_o, t_without_time_is l _ hb, t_without_time_o l _ hb, S.token_Sweep_4_j, S.token_Sweep_4_v, Lp_j_of e, Lp_v_of e, cond_true, Nat.zero_add, sub_len, xdec, Nat.le_refl]
  simp [gone]
theorem t_Sweep_is (l : PP) (now : Int) (hb : l.length ≤ 1048575) : S.token_Sweep_is l now = true := by simp [S.token_Sweep_is, t_Sweep l now hb]
theorem t_Sweep_o (l : PP) (now : Int) (hb : l.length ≤ 1048575) : S.token_Sweep_o l now = ⟨l.filter (fun p => !pTime now p), (l.filter (pTime now)).map (·.sess)⟩ := by simp [S.token_Sweep_o, t_Sweep l now hb]
theorem t_Same (a b : PP) (hb : a.length ≤ 1048575) : S.ref16_Same a b = some ⟨decide (a = b)⟩ := by
  unfold S.ref16_Same S.ref16_Same_R
  by_cases hl : a.length = b.length
  · have hl' : (a.length : Int) = (b.length : Int) := by omega
    obtain ⟨v, e⟩ : ∃ v, Lp (S.ref16_Same_4_r a b) (⟨0⟩ : S.ref16_Same_4_V) = some (if a = b then 1 else 0, v) := by
      refine Lp_same (fun i => (⟨i⟩ : S.ref16_Same_4_V)) a b hl (fun i h h' => ?_) ?_
      · have h1 : ((i : Int) < (a.length : Int)) := by omega
        have h3 : ((i : Int) < (b.length : Int)) := by omega
        have h2 : (0 : Int) ≤ (i : Int) := by omega
        unfold S.ref16_Same_4_r S.ref16_Same_4_R
        simp only [DT.run_br, DT.run_leaf, DT.run_fail, xdec, xwrap, h1, h2, h3, decide_true, Bool.and_self, cond_true, Int.toNat_natCast, getD_of a i _ h, getD_of b i _ h', t_wrap1 (show i ≤ 1048576 by omega), t_xeqI]
        have ex : (decide (a[i].token = b[i].token) && (decide (a[i].sess = b[i].sess) && (decide (a[i].conn = b[i].conn) && decide (a[i].off = b[i].off)))) = decide (a[i] = b[i]) := by
          rw [Bool.eq_iff_iff]
          simp only [Bool.and_eq_true, decide_eq_true_eq]
          generalize a[i] = x
          generalize b[i] = y
          cases x; cases y; simp
        rw [ex]
        by_cases h4 : a[i] = b[i] <;> simp [h4]
      · unfold S.ref16_Same_4_r S.ref16_Same_4_R
        simp [DT.run_br, DT.run_leaf, xdec]
    simp only [DT.run_br, DT.run_leaf, DT.run_fail, S.ref16_Same_4_j, Lp_j_of e, t_xneI, hl', ne_eq, not_true, decide_false, cond_false]
    by_cases h : a = b <;> simp [h]
  · have hl' : ¬ (a.length : Int) = (b.length : Int) := by omega
    have : a ≠ b := fun h => hl (by rw [h])
    simp [DT.run_br, DT.run_leaf, t_xneI, hl', this]
theorem t_Same_is (a b : PP) (hb : a.length ≤ 1048575) : S.ref16_Same_is a b = true := by simp [S.ref16_Same_is, t_Same a b hb]
theorem t_Same_o (a b : PP) (hb : a.length ≤ 1048575) : (S.ref16_Same_o a b).x0 = decide (a = b) := by simp [S.ref16_Same_o, t_Same a b hb]
end Go.Eng
