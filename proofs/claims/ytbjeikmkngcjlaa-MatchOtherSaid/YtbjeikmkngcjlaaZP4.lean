/- What a run's step, and its beginning, come to, in plain words. -/
import Derived.Test.YtbjeikmkngcjlaaZG5
import Derived.Test.YtbjeikmkngcjlaaZP3
set_option linter.unusedVariables false
set_option linter.unusedSimpArgs false
namespace Go.Eng
open Go Go.Eng
def outT (p : Run × Int) : S.zc3p_T := ⟨p.1.first, p.1.at_, p.1.step, p.1.n, p.1.many, p.1.agg, p.1.bad, p.2⟩
def outB (p : Run × Int) : S.zvb5_T := ⟨p.1.first, p.1.at_, p.1.step, p.1.n, p.1.many, p.1.agg, p.1.bad, p.2⟩
def outN (p : Run × Int) : S.zwus_T := ⟨p.1.first, p.1.at_, p.1.step, p.1.n, p.1.many, p.1.agg, p.1.bad, p.2⟩
theorem q_taken (q : Query) (r : Run) (v : List (Ty .val)) (hl : q.steps.length ≤ 1048576) (h0 : 0 ≤ r.step) :
    S.zc3p q.steps q.agg q.aggStep q.aggF r.first r.at_ r.step r.n r.many r.agg r.bad v = some (outT (toldL q r v, fateL q (toldL q r v))) := by
 obtain ⟨t1, t2⟩ := q_told q r v
 have k := (toldL_keep q r v).2.2.1
 have f1 := q_fate_is q.steps (toldL q r v).step (toldL q r v).n hl (by omega)
 have f2 := q_fate_o q (toldL q r v) hl (by omega)
 unfold S.zc3p S.zc3p_R
 dsimp only
 rw [t1, t2, f1, f2]
 rfl
theorem q_taken_is (q : Query) (r : Run) (v : List (Ty .val)) (hl : q.steps.length ≤ 1048576) (h0 : 0 ≤ r.step) :
    S.zc3p_is q.steps q.agg q.aggStep q.aggF r.first r.at_ r.step r.n r.many r.agg r.bad v = true := by simp [S.zc3p_is, q_taken q r v hl h0]
theorem q_taken_o (q : Query) (r : Run) (v : List (Ty .val)) (hl : q.steps.length ≤ 1048576) (h0 : 0 ≤ r.step) :
    S.zc3p_o q.steps q.agg q.aggStep q.aggF r.first r.at_ r.step r.n r.many r.agg r.bad v = outT (toldL q r v, fateL q (toldL q r v)) := by simp [S.zc3p_o, q_taken q r v hl h0]
theorem q_Begin (q : Query) (e : Evt) (at' : Int) (hl : q.steps.length ≤ 1048576) : S.zvb5 q.steps q.agg q.aggStep q.aggF e.name e.at_ e.v at' = some (outB (beginL HB q e at')) := by
 have k1 := q_taken_is q ⟨at', e.at_, 0, 1, 0, 0, false⟩ e.v hl (Int.le_refl 0)
 have k2 := q_taken_o q ⟨at', e.at_, 0, 1, 0, 0, false⟩ e.v hl (Int.le_refl 0)
 dsimp only at k1 k2
 unfold S.zvb5 S.zvb5_R beginL
 dsimp only
 by_cases c1 : q.steps.length = 0
 ·rw [if_pos c1]
  have : ((q.steps.length : Nat) : Int) = 0 := by omega
  simp only [DT.run_br, DT.run_leaf, e_xeqI, this, decide_true, cond_true]
  rfl
 rw [if_neg c1]
 have c1' : ¬ ((q.steps.length : Nat) : Int) = 0 := by omega
 have c1'' : (0 : Int) < ((q.steps.length : Nat) : Int) := by omega
 have c0 : (0 : Int) ≤ 0 := Int.le_refl 0
 have et : HB (q.steps.getD (Int.toNat 0) (dflt ET.step)).name (q.steps.getD (Int.toNat 0) (dflt ET.step)).ifs ⟨e.name, e.at_, e.v⟩ = takesL HB (stp q.steps 0) e := rfl
 simp only [DT.run_br, DT.run_leaf, DT.run_fail, e_xeqI, xdec, xnot, c1', c1'', c0, decide_true, decide_false, cond_true, cond_false, Bool.and_self, q_takes_is, q_takes_o, et, k1, k2]
 cases takesL HB (stp q.steps 0) e <;> rfl
theorem q_Begin_is (q : Query) (e : Evt) (at' : Int) (hl : q.steps.length ≤ 1048576) : S.zvb5_is q.steps q.agg q.aggStep q.aggF e.name e.at_ e.v at' = true := by simp [S.zvb5_is, q_Begin q e at' hl]
theorem q_Begin_o (q : Query) (e : Evt) (at' : Int) (hl : q.steps.length ≤ 1048576) : S.zvb5_o q.steps q.agg q.aggStep q.aggF e.name e.at_ e.v at' = outB (beginL HB q e at') := by simp [S.zvb5_o, q_Begin q e at' hl]
theorem q_Next (q : Query) (r : Run) (e : Evt) (hl : q.steps.length ≤ 1048576) :
    S.zwus q.steps q.within q.agg q.aggStep q.aggF r.first r.at_ r.step r.n r.many r.agg r.bad e.name e.at_ e.v = some (outN (nextL HB q r e)) := by
 unfold S.zwus S.zwus_R nextL
 dsimp only
 by_cases a1 : r.step < 0
 ·rw [if_pos (.inl a1)]
  simp only [DT.run_br, DT.run_leaf, xdec, a1, decide_true, cond_true]
  rfl
 by_cases a2 : r.step ≥ (q.steps.length : Int)
 ·rw [if_pos (.inr a2)]
  simp only [DT.run_br, DT.run_leaf, xdec, a1, a2, decide_true, decide_false, cond_true, cond_false]
  rfl
 rw [if_neg (by omega)]
 by_cases a3 : e.at_ < r.at_
 ·rw [if_pos a3]
  simp only [DT.run_br, DT.run_leaf, xdec, a1, a2, a3, decide_true, decide_false, cond_true, cond_false]
  rfl
 rw [if_neg a3]
 by_cases a4 : lateL q r e = true
 ·rw [if_pos a4]
  simp only [DT.run_br, DT.run_leaf, xdec, a1, a2, a3, decide_true, decide_false, cond_true, cond_false, q_late_is, q_late_o, a4]
  rfl
 rw [if_neg a4]
 have a4' : lateL q r e = false := by simpa using a4
 have b1 : (0 : Int) ≤ r.step := by omega
 have b2 : r.step < (q.steps.length : Int) := by omega
 have b3 : (0 : Int) ≤ 0 := Int.le_refl 0
 have w : IntKind.i64.wrap (r.step + 1) = r.step + 1 := e_wrap (by omega) (by omega)
 have b4 : (0 : Int) ≤ r.step + 1 := by omega
 have b5 : r.step + 1 ≤ Int.ofNat q.steps.length := by show _ ≤ ((q.steps.length : Nat) : Int); omega
 have hlen : ((sub q.steps (r.step + 1).toNat q.steps.length).length : Int) = q.steps.length - (r.step + 1) := by simp only [sub, List.length_take, List.length_drop]; omega
 have kA := q_taken_is q { r with step := r.step + 1, n := 1 } e.v hl b4
 have kB := q_taken_o q { r with step := r.step + 1, n := 1 } e.v hl b4
 have kC := q_taken_is q { r with n := w64 (r.n + 1) } e.v hl b1
 have kD := q_taken_o q { r with n := w64 (r.n + 1) } e.v hl b1
 dsimp only [w64] at kA kB kC kD
 have hget : r.step + 1 < q.steps.length → (sub q.steps (r.step + 1).toNat q.steps.length).getD (Int.toNat 0) (dflt ET.step) = stp q.steps (r.step + 1) := by
  intro h
  have h1 : (r.step + 1).toNat < q.steps.length := by omega
  have h2 : 0 < (sub q.steps (r.step + 1).toNat q.steps.length).length := by omega
  show (sub q.steps (r.step + 1).toNat q.steps.length).getD 0 (dflt ET.step) = q.steps.getD (r.step + 1).toNat (dflt ET.step)
  rw [getD_of _ _ _ h2, getD_of _ _ _ h1]
  simp [sub]
 have hx : q.steps.getD r.step.toNat (dflt ET.step) = stp q.steps r.step := rfl
 have tk : ∀ x : Step, HB x.name x.ifs ⟨e.name, e.at_, e.v⟩ = takesL HB x e := fun _ => rfl
 have fb : ∀ x : Step, (x.guard && HB x.notName x.notIf ⟨e.name, e.at_, e.v⟩) = forbidsL HB x e := fun _ => rfl
 have kB' := congrArg S.zc3p_T.x0 kB
 simp only [DT.run_br, DT.run_leaf, DT.run_fail, xdec, xwrap, a1, a2, a3, a4', b1, b2, b3, b4, b5, w, hlen, decide_true, decide_false, cond_true, cond_false, Bool.and_self, q_late_is, q_late_o, q_takes_is, q_forbids_is, q_takes_o, q_forbids_o, hx, tk, fb, kA, kB, kC, kD]
 have more : (bif decide (r.n < (stp q.steps r.step).max) then bif takesL HB (stp q.steps r.step) e then
     (some ⟨(outT (toldL q { r with n := w64 (r.n + 1) } e.v, fateL q (toldL q { r with n := w64 (r.n + 1) } e.v))).x0, (outT (toldL q { r with n := w64 (r.n + 1) } e.v, fateL q (toldL q { r with n := w64 (r.n + 1) } e.v))).x1, (outT (toldL q { r with n := w64 (r.n + 1) } e.v, fateL q (toldL q { r with n := w64 (r.n + 1) } e.v))).x2, (outT (toldL q { r with n := w64 (r.n + 1) } e.v, fateL q (toldL q { r with n := w64 (r.n + 1) } e.v))).x3, (outT (toldL q { r with n := w64 (r.n + 1) } e.v, fateL q (toldL q { r with n := w64 (r.n + 1) } e.v))).x4, (outT (toldL q { r with n := w64 (r.n + 1) } e.v, fateL q (toldL q { r with n := w64 (r.n + 1) } e.v))).x5, (outT (toldL q { r with n := w64 (r.n + 1) } e.v, fateL q (toldL q { r with n := w64 (r.n + 1) } e.v))).x6, (outT (toldL q { r with n := w64 (r.n + 1) } e.v, fateL q (toldL q { r with n := w64 (r.n + 1) } e.v))).x7⟩ : Option S.zwus_T)
     else some ⟨r.first, r.at_, r.step, r.n, r.many, r.agg, r.bad, 0⟩ else some ⟨r.first, r.at_, r.step, r.n, r.many, r.agg, r.bad, 0⟩) =
     some (outN (if r.n < (stp q.steps r.step).max ∧ takesL HB (stp q.steps r.step) e = true then (toldL q { r with n := w64 (r.n + 1) } e.v, fateL q (toldL q { r with n := w64 (r.n + 1) } e.v)) else (r, 0))) := by
  by_cases c : r.n < (stp q.steps r.step).max
  ·cases ht : takesL HB (stp q.steps r.step) e
   ·rw [if_neg (by simp)]; simp only [c, decide_true, cond_true, cond_false]; rfl
   ·rw [if_pos ⟨c, rfl⟩]; simp only [c, decide_true, cond_true, cond_false]; rfl
  ·rw [if_neg (fun h => c h.1)]; simp only [c, decide_false, cond_false]; rfl
 by_cases d1 : r.step + 1 < (q.steps.length : Int)
 ·have d1' : (q.steps.length : Int) - (r.step + 1) > 0 := by omega
  have d1'' : (0 : Int) < (q.steps.length : Int) - (r.step + 1) := by omega
  have hx2 := hget d1
  by_cases d2 : r.n ≥ (stp q.steps r.step).min
  ·cases hf : forbidsL HB (stp q.steps (r.step + 1)) e
   ·cases ht : takesL HB (stp q.steps (r.step + 1)) e
    ·rw [if_neg (by simp), if_neg (by simp)]
     simp only [d1', d1'', d2, decide_true, cond_true, cond_false, hx2, hf, ht]
     exact more
    ·rw [if_neg (by simp), if_pos ⟨⟨d1, d2⟩, rfl⟩]
     simp only [d1', d1'', d2, decide_true, cond_true, cond_false, hx2, hf, ht]
     rfl
   ·rw [if_pos ⟨⟨d1, d2⟩, rfl⟩]
    simp only [d1', d1'', d2, decide_true, cond_true, cond_false, hx2, hf]
    rfl
  ·rw [if_neg (fun h => d2 h.1.2), if_neg (fun h => d2 h.1.2)]
   simp only [d1', d2, decide_true, decide_false, cond_true, cond_false]
   exact more
 ·have d1' : ¬ (q.steps.length : Int) - (r.step + 1) > 0 := by omega
  rw [if_neg (fun h => d1 h.1.1), if_neg (fun h => d1 h.1.1)]
  simp only [d1', decide_false, cond_false]
  exact more
theorem q_Next_is (q : Query) (r : Run) (e : Evt) (hl : q.steps.length ≤ 1048576) :
    S.zwus_is q.steps q.within q.agg q.aggStep q.aggF r.first r.at_ r.step r.n r.many r.agg r.bad e.name e.at_ e.v = true := by simp [S.zwus_is, q_Next q r e hl]
theorem q_Next_o (q : Query) (r : Run) (e : Evt) (hl : q.steps.length ≤ 1048576) :
    S.zwus_o q.steps q.within q.agg q.aggStep q.aggF r.first r.at_ r.step r.n r.many r.agg r.bad e.name e.at_ e.v = outN (nextL HB q r e) := by simp [S.zwus_o, q_Next q r e hl]
theorem q_May (q : Query) (r : Run) (hl : q.steps.length ≤ 1048576) : S.run_May q.steps r.step r.n r.many = some ⟨decide (mayR q r)⟩ := by
 unfold S.run_May S.run_May_R
 dsimp only
 by_cases a1 : r.step < 0
 ·have : ¬ mayR q r := fun h => by have := h.1; omega
  simp [DT.run_br, DT.run_leaf, xdec, a1, this]
 by_cases a2 : r.step ≥ (q.steps.length : Int)
 ·have : ¬ mayR q r := fun h => by have := h.2.1; omega
  simp [DT.run_br, DT.run_leaf, xdec, a1, a2, this]
 by_cases a3 : r.many < 0
 ·have : ¬ mayR q r := fun h => by have := h.2.2.1; omega
  simp [DT.run_br, DT.run_leaf, xdec, a1, a2, a3, this]
 by_cases a4 : r.n > 0
 case neg =>
  have : ¬ mayR q r := fun h => by have := h.2.2.2.1; omega
  simp [DT.run_br, DT.run_leaf, xdec, a1, a2, a3, a4, this]
 have b1 : (0 : Int) ≤ r.step := by omega
 have b2 : r.step < (q.steps.length : Int) := by omega
 have hx : q.steps.getD r.step.toNat (dflt ET.step) = stp q.steps r.step := rfl
 by_cases a5 : r.n ≤ (stp q.steps r.step).max
 case neg =>
  have : ¬ mayR q r := fun h => a5 h.2.2.2.2.1
  simp only [DT.run_br, DT.run_leaf, xdec, a1, a2, a3, a4, a5, b1, b2, hx, this, decide_true, decide_false, cond_true, cond_false, Bool.and_self]
 have f1 := q_fate_is q.steps r.step r.n hl b1
 have f2 := q_fate_o q r hl b1
 have : (mayR q r) = (fateL q r = 0) := by
  apply propext
  exact ⟨fun h => h.2.2.2.2.2, fun h => ⟨b1, b2, by omega, a4, a5, h⟩⟩
 simp only [DT.run_br, DT.run_leaf, xdec, a1, a2, a3, a4, a5, b1, b2, hx, f1, f2, e_xeqI, decide_true, decide_false, cond_true, cond_false, Bool.and_self]
 congr 2
 rw [decide_eq_decide, this]
theorem q_May_is (q : Query) (r : Run) (hl : q.steps.length ≤ 1048576) : S.run_May_is q.steps r.step r.n r.many = true := by simp [S.run_May_is, q_May q r hl]
theorem q_May_o (q : Query) (r : Run) (hl : q.steps.length ≤ 1048576) : (S.run_May_o q.steps r.step r.n r.many).x0 = decide (mayR q r) := by simp [S.run_May_o, q_May q r hl]
end Go.Eng
