/- The chapter's example of subscriptions. -/
import Derived.Test.YtbjeikmkngcjlaaZP17
set_option linter.unusedVariables false
set_option linter.unusedSimpArgs false
namespace Go.Eng
open Go Go.Eng
def qOne : Query := ⟨[stA], 0, 0, 0, 0⟩
theorem q_One : S.law09_One = some ⟨[stA], 0, 0, 0, 0⟩ := by
  unfold S.law09_One S.law09_One_R
  simp [DT.run_br, DT.run_leaf, xdec, sub]
  rfl
theorem q_One_is : S.law09_One_is = true := by simp [S.law09_One_is, q_One]
theorem q_One_o : S.law09_One_o = ⟨[stA], 0, 0, 0, 0⟩ := by unfold S.law09_One_o; rw [q_One]; rfl
def eA : Evt := ⟨bA, 0, []⟩
theorem begin_one (at' : Int) : beginL HB qOne eA at' = (⟨at', 0, 0, 1, 1, 1, false⟩, 2) := by
  have e : stp qOne.steps 0 = stA := rfl
  have h1 : w64 (0 + 1) = 1 := by decide
  have ht : takesL HB stA eA = true := by show HB bA [] _ = true; rw [HB_Plain bA]; rfl
  unfold beginL
  rw [if_neg (by simp [qOne]), e, ht, if_neg (by decide)]
  have : toldL qOne ⟨at', eA.at_, 0, 1, 0, 0, false⟩ eA.v = ⟨at', 0, 0, 1, 1, 1, false⟩ := by
    unfold toldL
    rw [if_neg (by simp [qOne]), if_pos (show qOne.agg = 0 from rfl)]
    show Run.mk at' 0 0 1 (w64 (0 + 1)) (w64 (0 + 1)) false = _
    rw [h1]
  dsimp only
  rw [this]
  rfl
def sOne : StoreL := ⟨qOne, [], -1⟩
theorem may_one : mayS sOne := ⟨by decide, fun r hr => (by cases hr), .inl rfl⟩
theorem feed_one (at' : Int) : feedL HB sOne eA at' = (sOne, [⟨at', at', 1, false⟩]) := by
  have hb := begin_one at'
  unfold feedL
  rw [if_neg (show ¬ (¬ mayS sOne ∨ sOne.over ≠ -1) by intro h; rcases h with h | h; exact h may_one; exact h rfl), if_pos (by show (beginL HB qOne eA at').2 = 2; rw [hb])]
  show (StoreL.mk qOne (leftOf HB qOne eA []) (-1), doneOf HB qOne eA at' [] ++ [doneM at' (beginL HB qOne eA at').1]) = _
  rw [hb]; rfl
def ms : Nat → List Mat
  | 0 => []
  | i + 1 => ms i ++ [⟨i, i, 1, false⟩]
theorem ms_len : ∀ i, (ms i).length = i
  | 0 => rfl
  | i + 1 => by rw [ms, List.length_append, ms_len i]; rfl
def uAt (i : Nat) : SubL := ⟨3, 1, sOne, 0, 0, ms i, false, 0, false⟩
theorem may_uAt {i : Nat} (h : i ≤ 6) : mayU (uAt i) := by
  refine ⟨by show (0 : Int) ≤ 3; decide, by show (0 : Int) ≤ 1; decide, may_one, ⟨Int.le_refl 0, ?_, ?_, Int.le_refl 0, ?_⟩, .inl ⟨rfl, rfl, rfl⟩⟩
  · show ((ms i).length : Int) ≤ 6; rw [ms_len]; omega
  · show (0 : Int) + ((ms i).length : Int) ≤ _; rw [ms_len]; omega
  · show (0 : Int) ≤ 0 + ((ms i).length : Int); rw [ms_len]; omega
theorem feed_uAt {i : Nat} (h : i < 6) : feedU HB (uAt i) eA i = uAt (i + 1) := by
  have hf := feed_one (i : Int)
  have hp : putM 0 0 (ms i) [⟨(i : Int), i, 1, false⟩] = (true, ms (i + 1)) := by
    rw [putM_room [⟨(i : Int), i, 1, false⟩] (ms i) (show rMayL 0 0 (ms i) from (may_uAt (i := i) (by omega)).2.2.2.1) (by rw [ms_len]; simp only [List.length_cons, List.length_nil]; omega) (by rw [ms_len]; simp only [List.length_cons, List.length_nil]; omega)]
    rfl
  unfold feedU
  rw [if_neg (show ¬ (¬ mayU (uAt i) ∨ (uAt i).fin ≠ 0) by intro hh; rcases hh with hh | hh; exact hh (may_uAt (by omega)); exact hh rfl)]
  show (if (putM 0 0 (ms i) (feedL HB sOne eA i).2).1 = false then _ else SubL.mk 3 1 (feedL HB sOne eA i).1 0 0 (putM 0 0 (ms i) (feedL HB sOne eA i).2).2 false (if (feedL HB sOne eA i).1.over ≠ -1 then 1 else 0) false) = _
  rw [hf]
  dsimp only
  rw [hp, if_neg (by simp), if_neg (show ¬ (sOne.over ≠ -1) from fun h => h rfl)]
  rfl
def uOut : SubL := ⟨3, 1, ⟨qOne, [], -1⟩, 0, 0, [], false, 2, false⟩
theorem feed_u6 : feedU HB (uAt 6) eA 6 = uOut := by
  have hf := feed_one 6
  have hc := feedU_evicts (H := HB) (may_uAt (i := 6) (by omega)) rfl eA 6
  unfold feedU
  rw [if_neg (show ¬ (¬ mayU (uAt 6) ∨ (uAt 6).fin ≠ 0) by intro hh; rcases hh with hh | hh; exact hh (may_uAt (by omega)); exact hh rfl)]
  show (if (putM 0 0 (ms 6) (feedL HB sOne eA 6).2).1 = false then SubL.mk 3 1 ⟨(feedL HB sOne eA 6).1.q, [], (feedL HB sOne eA 6).1.over⟩ 0 0 ((putM 0 0 (ms 6) (feedL HB sOne eA 6).2).2.take 0) false 2 false else _) = _
  rw [hf]
  dsimp only
  have hp : (putM 0 0 (ms 6) [(⟨6, 6, 1, false⟩ : Mat)]).1 = false := by
    unfold putM
    rw [if_neg (fun hh => hh.2.1 (ms_len 6))]
  rw [if_pos hp, List.take_zero]
  rfl
theorem may_uOut (b : Bool) : mayU { uOut with told := b } := ⟨by show (0 : Int) ≤ 3; decide, by show (0 : Int) ≤ 1; decide, may_one, ⟨Int.le_refl 0, by show (0 : Int) ≤ 6; decide, by show (0 : Int) + 0 ≤ _; decide, Int.le_refl 0, by show (0 : Int) ≤ 0 + 0; decide⟩, .inr ⟨.inr rfl, rfl, .inr rfl⟩⟩
theorem give_uOut : giveU uOut = ({ uOut with told := true }, ⟨3, 0, 2, default⟩, true) := by
  rw [giveU_last (u := uOut) (may_uOut false) rfl rfl]
  rw [if_neg (by intro h; rcases h with h | h; exact absurd h (by decide); cases h)]
  rfl
theorem give_u6 : (giveU (uAt 6)).2.2 = true ∧ (giveU (uAt 6)).2.1.seq = 1 := by
  rw [giveU_next (may_uAt (i := 6) (by omega)) rfl (by decide)]
  exact ⟨rfl, rfl⟩
theorem fit_uAt {i : Nat} (h : i ≤ 6) : FitU (uAt i) := ⟨by show qOne.steps.length ≤ 1048576; decide, by show (0 : Nat) ≤ 1048576; decide, by show (ms i).length ≤ _; rw [ms_len]; omega⟩
theorem fit_uOut : FitU uOut := ⟨by decide, by decide, by decide⟩
def VAt (i : Nat) : S.law15_awake_3_V := ⟨i, 3, 1, [stA], 0, 0, 0, 0, [], -1, 0, 0, ms i, false, 0, false⟩
theorem awake15_loop : Lp (S.law15_awake_3_r) (VAt 0) = some (0, VAt 6) := by
  refine Lp_walk VAt 6 0 (fun i hi => ?_) ?_
  · have hf := q_uFeed (uAt i) eA i (fit_uAt (by omega))
    rw [feed_uAt hi] at hf
    have f1 : S.sub_Feed_is 3 1 [stA] 0 0 0 0 [] (-1) 0 0 (ms i) false 0 false bA 0 [] i = true := by
      unfold S.sub_Feed_is; exact congrArg Option.isSome hf
    have f2 : S.sub_Feed_o 3 1 [stA] 0 0 0 0 [] (-1) 0 0 (ms i) false 0 false bA 0 [] i = outFu (uAt (i + 1)) := by
      unfold S.sub_Feed_o; exact congrArg (fun o => Option.getD o default) hf
    have z : (i : Int) < 6 := by omega
    unfold S.law15_awake_3_r S.law15_awake_3_R VAt
    dsimp only
    rw [f1, f2]
    simp only [DT.run_br, DT.run_leaf, xdec, xwrap, z, decide_true, cond_true, e_wrap1 (show i ≤ 1048576 by omega)]
    rfl
  · unfold S.law15_awake_3_r S.law15_awake_3_R; simp [DT.run_br, DT.run_leaf, xdec, VAt]
theorem q_awake15 : S.law15_awake = some ⟨true⟩ := by
  have hf := q_uFeed (uAt 6) eA 6 (fit_uAt (by omega))
  rw [feed_u6] at hf
  have f1 : S.sub_Feed_is 3 1 [stA] 0 0 0 0 [] (-1) 0 0 (ms 6) false 0 false bA 0 [] 6 = true := by
    unfold S.sub_Feed_is; exact congrArg Option.isSome hf
  have f2 : S.sub_Feed_o 3 1 [stA] 0 0 0 0 [] (-1) 0 0 (ms 6) false 0 false bA 0 [] 6 = outFu uOut := by
    unfold S.sub_Feed_o; exact congrArg (fun o => Option.getD o default) hf
  have hg := q_uGive uOut fit_uOut
  rw [give_uOut] at hg
  have g1 : S.sub_Give_is 3 1 [stA] 0 0 0 0 [] (-1) 0 0 [] false 2 false = true := by
    unfold S.sub_Give_is; exact congrArg Option.isSome hg
  have g2 : S.sub_Give_o 3 1 [stA] 0 0 0 0 [] (-1) 0 0 [] false 2 false = outVu ({ uOut with told := true }, ⟨3, 0, 2, default⟩, true) := by
    unfold S.sub_Give_o; exact congrArg (fun o => Option.getD o default) hg
  have hh := q_uGive (uAt 6) (fit_uAt (by omega))
  have h1 : S.sub_Give_is 3 1 [stA] 0 0 0 0 [] (-1) 0 0 (ms 6) false 0 false = true := by
    unfold S.sub_Give_is; exact congrArg Option.isSome hh
  have h2 : S.sub_Give_o 3 1 [stA] 0 0 0 0 [] (-1) 0 0 (ms 6) false 0 false = outVu (giveU (uAt 6)) := by
    unfold S.sub_Give_o; exact congrArg (fun o => Option.getD o default) hh
  have m1 := q_uMay_is { uOut with told := true } fit_uOut.l
  have m2 := q_uMay_o { uOut with told := true } fit_uOut.l
  rw [decide_eq_true (may_uOut true)] at m2
  have e1 : S.law15_awake_3_j (VAt 0) 0 = true := by unfold S.law15_awake_3_j; rw [Lp_j_of awake15_loop]; rfl
  have e2 : S.law15_awake_3_v (VAt 0) = VAt 6 := by unfold S.law15_awake_3_v; rw [Lp_v_of awake15_loop]
  have eN : S.sub_New_o 3 1 [stA] 0 0 0 0 = ⟨3, 1, [stA], 0, 0, 0, 0, [], -1, 0, 0, [], false, 0, false⟩ := rfl
  unfold S.law15_awake S.law15_awake_R
  dsimp only
  rw [q_One_is, q_One_o]
  dsimp only
  rw [eN]
  dsimp only
  have e0 : (⟨0, 3, 1, [stA], 0, 0, 0, 0, [], -1, 0, 0, [], false, 0, false⟩ : S.law15_awake_3_V) = VAt 0 := rfl
  rw [e0, e1, e2]
  dsimp only [VAt]
  rw [f1, f2]
  dsimp only [outFu, uOut, qOne]
  rw [g1, g2, h1, h2]
  dsimp only [outVu, uOut, qOne] at m1 m2 ⊢
  rw [m1, m2, give_u6.1, give_u6.2, ms_len]
  have sm : S.sub_Same 3 1 [stA] 0 0 0 0 [] (-1) 0 0 (ms 6) false 0 false 3 1 [stA] 0 0 0 0 [] (-1) 0 0 [] false 2 false = some ⟨false⟩ := by
    unfold S.sub_Same S.sub_Same_R
    simp [DT.run_br, DT.run_leaf, e_xeqI]
  have s1 : S.sub_Same_is 3 1 [stA] 0 0 0 0 [] (-1) 0 0 (ms 6) false 0 false 3 1 [stA] 0 0 0 0 [] (-1) 0 0 [] false 2 false = true := by
    unfold S.sub_Same_is; exact congrArg Option.isSome sm
  have s2 : (S.sub_Same_o 3 1 [stA] 0 0 0 0 [] (-1) 0 0 (ms 6) false 0 false 3 1 [stA] 0 0 0 0 [] (-1) 0 0 [] false 2 false).x0 = false := by
    unfold S.sub_Same_o; exact congrArg (fun o : Option S.sub_Same_T => (Option.getD o default).x0) sm
  rw [s1, s2]
  rfl
theorem q_awake15_is : S.law15_awake_is = true := by simp [S.law15_awake_is, q_awake15]
theorem q_awake15_o : S.law15_awake_o.x0 = true := by simp [S.law15_awake_o, q_awake15]
end Go.Eng
