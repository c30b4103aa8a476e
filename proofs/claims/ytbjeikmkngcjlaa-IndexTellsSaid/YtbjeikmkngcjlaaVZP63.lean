/- Whether an expression holds: the code's word is the document's. -/
import Derived.Test.YtbjeikmkngcjlaaVZP62
set_option linter.unusedVariables false
set_option linter.unusedSimpArgs false
namespace Go.Eng
open Go Go.Eng
theorem goodV {n : ByteArray} {t : Int} {v : List Val} (h : mayEv n t v = true) (wv : ∀ x ∈ v, wfVal x) : goodP v := by
 unfold mayEv at h
 simp only [Bool.and_eq_true, List.all_eq_true] at h
 exact fun x hx => ⟨h.2.2.2.2 x hx, wv x hx⟩
theorem goodE {ops : List Opn} (h : mayE ops = true) (wo : ∀ x ∈ ops, wfOpn x) : ops.length ≤ 12 ∧ ∀ x ∈ ops, mayO x = true ∧ wfVal x.v := by
 unfold mayE at h
 simp only [Bool.and_eq_true, decide_eq_true_eq, List.all_eq_true] at h
 exact ⟨by omega, fun x hx => ⟨h.2 x hx, (wo x hx).2.2⟩⟩
def oneV : Option (List Val) → Option Val
 | some [w] => some w
 | _ => none
def resV (n : ByteArray) (t : Int) (v : List Val) (ops : List Opn) : Option Val := if (mayE ops && mayEv n t v) = true then oneV (evalV v ops []) else none
theorem q_EvalE (n : ByteArray) (t : Int) (v : List Val) (ops : List Opn) (wv : ∀ x ∈ v, wfVal x) (wo : ∀ x ∈ ops, wfOpn x) : match resV n t v ops with
    | some w => S.zn3l_o n t v ops = ⟨w.kind, w.n, w.s, 0⟩
    | none => (S.zn3l_o n t v ops).x0 = 0 := by
 unfold resV S.zn3l_o S.zn3l S.zn3l_R; dsimp only
 rw [q_opMay_is, q_evMay_is, q_eMay ops wo, q_evMay2 n t v wv]
 cases hE : mayE ops with
 | false => rfl
 | true =>
 cases hV : mayEv n t v with
 | false => rfl
 | true =>
 obtain ⟨hb, hx⟩ := goodE hE wo
 obtain ⟨j, st, h1, h2⟩ := evA_loop ops v (goodV hV wv) hb hx ops.length 0 [] ⟨0, true, 0, []⟩ (by omega) (Nat.zero_le _) (fun p hp => by cases hp) ⟨rfl, rfl, Nat.zero_le _, rfl⟩
 rw [List.drop_zero] at h2
 simp only [S.zn3l_2_j, S.zn3l_2_v, Lp_j_of h1, Lp_v_of h1, Bool.and_self, if_true]
 cases hr : evalV v ops [] with
 | none =>
  rw [hr] at h2
  have h2 : j < 19 := h2
  have h3 : j = 0 ∨ j = 1 ∨ j = 2 ∨ j = 3 ∨ j = 4 ∨ j = 5 ∨ j = 6 ∨ j = 7 ∨ j = 8 ∨ j = 9 ∨ j = 10 ∨ j = 11 ∨ j = 12 ∨ j = 13 ∨ j = 14 ∨ j = 15 ∨ j = 16 ∨ j = 17 ∨ j = 18 := by omega
  rcases h3 with rfl | rfl | rfl | rfl | rfl | rfl | rfl | rfl | rfl | rfl | rfl | rfl | rfl | rfl | rfl | rfl | rfl | rfl | rfl <;> rfl
 | some P =>
  rw [hr] at h2
  obtain ⟨rfl, e, g⟩ := h2
  have el := e.l
  have eh := e.h
  have eb := e.b
  match P, el, eh, eb, g with
  | [], el, eh, eb, g => rw [el]; rfl
  | [w], el, eh, eb, g =>
   show _ = _
   have e0 : st.h_28.getD (0 + Int.toNat 0) (dflt ET.thing) = ofV w := by
    have h3 : (st.h_28.take 1)[0]? = some (ofV w) := by rw [show st.h_28.take 1 = [ofV w] from eh]; rfl
    rw [List.getElem?_take, if_pos (by decide)] at h3
    rw [List.getD_eq_getElem?_getD]
    have : 0 + Int.toNat 0 = 0 := rfl
    rw [this, h3]; rfl
   have hw := (g w List.mem_cons_self).1
   have n1 : 0 + Int.toNat 0 < st.h_28.length := by have : 1 ≤ st.h_28.length := eb; show 0 < _; omega
   have el1 : st.h14_l = 1 := el
   rw [e0, el1, ofV_is, ofV_v hw]
   simp only [DT.run_br, DT.run_leaf, DT.run_fail, xdec, n1, decide_true]
   rfl
  | w :: w2 :: r, el, eh, eb, g =>
   show _ = _
   have hn : ¬ ((st.h14_l : Int) = 1) := by rw [el]; simp only [List.length_cons]; omega
   simp only [DT.run_br, DT.run_leaf, DT.run_fail, xdec, xnot, e_xneI, ne_eq, hn, not_false_eq_true, decide_true, cond_true]
   rfl
theorem q_EvalR (n : ByteArray) (t : Int) (v : List Val) (ops : List Opn) (wv : ∀ x ∈ v, wfVal x) (wo : ∀ x ∈ ops, wfOpn x) (ln : n.size ≤ maxLen) (lv : v.length ≤ maxLen) (lo : ops.length ≤ maxLen) : ∃ r, S.z4xj n t v ops = some r ∧ match resV n t v ops with
    | some w => r = ⟨w.kind, w.n, w.s, 0⟩
    | none => r.x0 = 0 := by
 have k1 := q_rMayE ops lo
 have k2 := q_rEvMay n t v ln lv
 unfold resV S.z4xj S.z4xj_R; dsimp only
 simp only [S.zcnl_is, S.zcnl_o, k1, S.zekf_is, S.zekf_o, k2, Option.isSome_some, Option.getD_some]
 cases hE : mayE ops with
 | false => exact ⟨_, rfl, rfl⟩
 | true =>
 cases hV : mayEv n t v with
 | false => exact ⟨_, rfl, rfl⟩
 | true =>
 obtain ⟨hb, hx⟩ := goodE hE wo
 obtain ⟨j, st, h1, h2⟩ := evR_loop ops v (goodV hV wv) hb hx ops.length 0 [] ⟨true, 0, 0, []⟩ (by omega) (Nat.zero_le _) (fun p hp => by cases hp) ⟨rfl, rfl, Nat.zero_le _, rfl⟩
 rw [List.drop_zero] at h2
 have thr : ∃ r, S.ztk7 v ops false = some r ∧ match oneV (evalV v ops []) with
     | some w => r = ⟨w.kind, w.n, w.s, 0⟩
     | none => r.x0 = 0 := by
  unfold S.ztk7 S.ztk7_R; dsimp only
  simp only [S.ztk7_3_j, S.ztk7_3_v, Lp_j_of h1, Lp_v_of h1]
  cases hr : evalV v ops [] with
  | none =>
   rw [hr] at h2
   have h2 : j < 4 := h2
   have h3 : j = 0 ∨ j = 1 ∨ j = 2 ∨ j = 3 := by omega
   rcases h3 with rfl | rfl | rfl | rfl <;> exact ⟨_, rfl, rfl⟩
  | some P =>
   rw [hr] at h2
   obtain ⟨rfl, e, g⟩ := h2
   have el := e.l
   have eh := e.h
   have eb := e.b
   match P, el, eh, eb, g with
   | [], el, eh, eb, g => rw [el]; exact ⟨_, rfl, rfl⟩
   | [w], el, eh, eb, g =>
    have e0 : @List.getD (Ty ET.val) st.h_4 (0 + Int.toNat 0) (dflt ET.val) = w := by
     have h3 : (st.h_4.take 1)[0]? = some w := by rw [show st.h_4.take 1 = [w] from eh]; rfl
     rw [List.getElem?_take, if_pos (by decide)] at h3
     rw [List.getD_eq_getElem?_getD]
     have : 0 + Int.toNat 0 = 0 := rfl
     rw [this, h3]; rfl
    have n1 : 0 + Int.toNat 0 < st.h_4.length := by have : 1 ≤ st.h_4.length := eb; show 0 < _; omega
    have el1 : st.t8_l = 1 := el
    rw [e0, el1]
    simp only [DT.run_br, DT.run_leaf, DT.run_fail, xdec, n1, decide_true]
    exact ⟨_, rfl, rfl⟩
   | w :: w2 :: r, el, eh, eb, g =>
    have hn : ¬ ((st.t8_l : Int) = 1) := by rw [el]; simp only [List.length_cons]; omega
    simp only [DT.run_br, DT.run_leaf, DT.run_fail, xdec, xnot, e_xneI, ne_eq, hn, not_false_eq_true, decide_true, cond_true]
    exact ⟨_, rfl, rfl⟩
 obtain ⟨r, q1, q2⟩ := thr
 refine ⟨⟨r.x0, r.x1, r.x2, r.x3⟩, ?_, ?_⟩
 ·simp only [S.ztk7_is, S.ztk7_o, q1, Option.isSome_some, Option.getD_some]
  rfl
 ·simp only [Bool.and_self, if_true]
  cases ho : oneV (evalV v ops []) with
  | none => rw [ho] at q2; exact q2
  | some w =>
   rw [ho] at q2
   have q2 : r = ⟨w.kind, w.n, w.s, 0⟩ := q2
   rw [q2]
def holdsV (n : ByteArray) (t : Int) (v : List Val) (ops : List Opn) : Bool := match ops with
 | [] => true
 | _ => match resV n t v ops with
  | some w => decide (w.kind = 1) && decide (w.n = 1)
  | none => false
theorem resV_good {n : ByteArray} {t : Int} {v : List Val} {ops : List Opn} (wv : ∀ x ∈ v, wfVal x) (wo : ∀ x ∈ ops, wfOpn x) {w : Val} (h : resV n t v ops = some w) : mayV w = true := by
 unfold resV at h
 split at h
 ·rename_i hm
  rw [Bool.and_eq_true] at hm
  obtain ⟨hb, hx⟩ := goodE hm.1 wo
  obtain ⟨j, st, h1, h2⟩ := evA_loop ops v (goodV hm.2 wv) hb hx ops.length 0 [] ⟨0, true, 0, []⟩ (by omega) (Nat.zero_le _) (fun p hp => by cases hp) ⟨rfl, rfl, Nat.zero_le _, rfl⟩
  rw [List.drop_zero] at h2
  cases hr : evalV v ops [] with
  | none => rw [hr] at h; cases h
  | some P =>
   rw [hr] at h h2
   obtain ⟨_, _, g⟩ := h2
   match P, h, g with
   | [], h, g => cases h
   | [x], h, g => injection h with h; rw [← h]; exact (g x List.mem_cons_self).1
   | x :: y :: r, h, g => cases h
 ·cases h
theorem q_HoldsE (n : ByteArray) (t : Int) (v : List Val) (ops : List Opn) (wv : ∀ x ∈ v, wfVal x) (wo : ∀ x ∈ ops, wfOpn x) : (S.zvnj_o n t v ops).x0 = holdsV n t v ops := by
 have k := q_EvalE n t v ops wv wo
 unfold S.zvnj_o S.zvnj S.zvnj_R; dsimp only
 rw [q_eval]
 have tv : S.zo5k_o true = ⟨1, 1, ByteArray.empty⟩ := rfl
 match ops, k, wo with
 | [], k, wo => rfl
 | x :: xs, k, wo =>
  have h3 : ¬ (((x :: xs).length : Nat) : Int) = 0 := by rw [List.length_cons]; omega
  rw [tv]
  show _ = (match resV n t v (x :: xs) with
   | some w => decide (w.kind = 1) && decide (w.n = 1)
   | none => false)
  cases hr : resV n t v (x :: xs) with
  | some w =>
   rw [hr] at k
   have k : S.zn3l_o n t v (x :: xs) = ⟨w.kind, w.n, w.s, 0⟩ := k
   rw [k]
   have hg := resV_good wv wo hr
   simp only [DT.run_br, DT.run_leaf, e_xeqI, xdec, h3, decide_true, decide_false, cond_true, cond_false, Option.getD_some]
   by_cases k1 : w.kind = 1
   ·have hs := mayV_s hg (by rw [k1]; decide)
    simp [k1, hs]
   ·simp [k1]
  | none =>
   rw [hr] at k
   have k : (S.zn3l_o n t v (x :: xs)).x0 = 0 := k
   simp only [DT.run_br, DT.run_leaf, e_xeqI, xdec, h3, k, decide_true, decide_false, cond_true, cond_false]
   have z : decide ((0 : Int) = 1) = false := by decide
   rw [z, Bool.false_and]
   cases decide ((S.zn3l_o n t v (x :: xs)).x3 = 0) <;> rfl
theorem q_HoldsR (n : ByteArray) (t : Int) (v : List Val) (ops : List Opn) (wv : ∀ x ∈ v, wfVal x) (wo : ∀ x ∈ ops, wfOpn x) (ln : n.size ≤ maxLen) (lv : v.length ≤ maxLen) (lo : ops.length ≤ maxLen) : S.z33o n t v ops = some ⟨holdsV n t v ops⟩ := by
 obtain ⟨r, k1, k2⟩ := q_EvalR n t v ops wv wo ln lv lo
 unfold S.z33o S.z33o_R; dsimp only
 simp only [S.z4xj_is, S.z4xj_o, k1, Option.isSome_some, Option.getD_some, DT.run_br, DT.run_leaf, cond_true, e_xeqI]
 match ops, k2, wo with
 | [], k, wo => rfl
 | x :: xs, k, wo =>
  have h3 : ¬ (((x :: xs).length : Nat) : Int) = 0 := by rw [List.length_cons]; omega
  show _ = some (⟨match resV n t v (x :: xs) with
   | some w => decide (w.kind = 1) && decide (w.n = 1)
   | none => false⟩ : S.z33o_T)
  simp only [h3, decide_false, cond_false]
  cases hr : resV n t v (x :: xs) with
  | some w =>
   rw [hr] at k
   have k : r = ⟨w.kind, w.n, w.s, 0⟩ := k
   rw [k]
   dsimp only
   cases decide (w.kind = 1) <;> rfl
  | none =>
   rw [hr] at k
   have k : r.x0 = 0 := k
   rw [k]
   have z : decide ((0 : Int) = 1) = false := by decide
   rw [z]
   cases decide (r.x3 = 0) <;> rfl
end Go.Eng
