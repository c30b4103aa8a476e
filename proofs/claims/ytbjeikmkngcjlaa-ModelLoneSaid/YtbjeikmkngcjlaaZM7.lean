/- All matches in plain words: by definition. -/
import Derived.Test.YtbjeikmkngcjlaaZM2
set_option linter.unusedVariables false
set_option linter.unusedSimpArgs false
namespace Go.Eng
open Go Go.Eng
def stepsL (H : HH) (q : Query) : List Evt → Run → Int → List Run × Run × Int
 | [], r, f => (if f = 0 then [r] else [], r, f)
 | e :: es, r, f => if f = 0 then (r :: (stepsL H q es (nextL H q r e).1 (nextL H q r e).2).1, (stepsL H q es (nextL H q r e).1 (nextL H q r e).2).2) else ([], r, f)
def evAt (l : List Evt) (i : Nat) : Evt := l.getD i default
def fromL (H : HH) (q : Query) (l : List Evt) (i : Nat) : List Run × Run × Int := stepsL H q (l.drop (i + 1)) (beginL H q (evAt l i) i).1 (beginL H q (evAt l i) i).2
def nRun (H : HH) (q : Query) (l : List Evt) (i : Nat) : Nat := (fromL H q l i).1.length
def matL (H : HH) (q : Query) (l : List Evt) (i : Nat) : Mat := ⟨i, i + (nRun H q l i : Nat), (fromL H q l i).2.1.agg, (fromL H q l i).2.1.bad⟩
def oneL (H : HH) (q : Query) (l : List Evt) (i : Nat) : Option Mat := if (fromL H q l i).2.2 = 2 then some (matL H q l i) else none
def liveB (H : HH) (q : Query) (l : List Evt) (e i : Nat) : Bool := decide (i ≤ e) && decide (e < i + nRun H q l i)
def nLive (H : HH) (q : Query) (l : List Evt) (e : Nat) : Nat := (List.range l.length).countP (liveB H q l e)
def overB (H : HH) (q : Query) (l : List Evt) (most : Int) (e : Nat) : Bool := decide (0 < nRun H q l e) && decide ((nLive H q l e : Int) > most)
def overL (H : HH) (q : Query) (l : List Evt) (most : Int) : Int := match (List.range l.length).find? (overB H q l most) with
 | some e => e
 | none => -1
def insL (x : Mat) : List Mat → List Mat
 | [] => [x]
 | y :: ys => if y.fin ≤ x.fin then y :: insL x ys else x :: y :: ys
def stab (l : List Mat) : List Mat := l.foldl (fun a x => insL x a) []
def onesL (H : HH) (q : Query) (l : List Evt) : List Mat := (List.range l.length).filterMap (oneL H q l)
def keptB (over : Int) (m : Mat) : Bool := decide (over < 0) || decide (m.fin ≤ over)
def allL (H : HH) (q : Query) (l : List Evt) (most : Int) : List Mat := stab ((onesL H q l).filter (keptB (overL H q l most)))

section
variable {H : HH} {q : Query}
theorem stepsL_stop (f : Int) (hf : f ≠ 0) (es : List Evt) (r : Run) : stepsL H q es r f = ([], r, f) := by
 cases es with
 | nil => simp [stepsL, hf]
 | cons e es => simp [stepsL, hf]
theorem stepsL_len : ∀ (es : List Evt) (r : Run) (f : Int), ((stepsL H q es r f).2.2 = 0 → (stepsL H q es r f).1.length = es.length + 1) ∧ ((stepsL H q es r f).2.2 ≠ 0 → (stepsL H q es r f).1.length ≤ es.length)
 | [], r, f => by
  by_cases h : f = 0
  ·simp [stepsL, h]
  ·simp [stepsL, h]
 | e :: es, r, f => by
  by_cases h : f = 0
  ·have ih := stepsL_len es (nextL H q r e).1 (nextL H q r e).2
   simp only [stepsL, h, if_true, List.length_cons]
   exact ⟨fun h0 => by rw [ih.1 h0], fun h0 => by have := ih.2 h0; omega⟩
  ·rw [stepsL_stop f h]; simp [h]
theorem nRun_le (l : List Evt) {i : Nat} (hi : i < l.length) : i + nRun H q l i ≤ l.length ∧ ((fromL H q l i).2.2 ≠ 0 → i + nRun H q l i < l.length) ∧ ((fromL H q l i).2.2 = 0 → i + nRun H q l i = l.length) := by
 have := stepsL_len (H := H) (q := q) (l.drop (i + 1)) (beginL H q (evAt l i) i).1 (beginL H q (evAt l i) i).2
 have hl : (l.drop (i + 1)).length = l.length - (i + 1) := List.length_drop
 rw [hl] at this
 unfold nRun fromL
 by_cases h : (stepsL H q (l.drop (i + 1)) (beginL H q (evAt l i) i).1 (beginL H q (evAt l i) i).2).2.2 = 0
 ·have := this.1 h
  exact ⟨by omega, fun h0 => absurd h h0, fun _ => by omega⟩
 ·have := this.2 h
  exact ⟨by omega, fun _ => by omega, fun h0 => absurd h0 h⟩
theorem overL_cases (l : List Evt) (most : Int) : (overL H q l most = -1 ∧ ∀ e, e < l.length → overB H q l most e = false) ∨ (∃ e : Nat, e < l.length ∧ overL H q l most = e ∧ overB H q l most e = true ∧ ∀ j, j < e → overB H q l most j = false) := by
 unfold overL
 cases h : (List.range l.length).find? (overB H q l most) with
 | none =>
  left
  refine ⟨rfl, fun e he => ?_⟩
  have := List.find?_eq_none.1 h e (List.mem_range.2 he)
  simpa using this
 | some e =>
  right
  obtain ⟨h1, i, hi, h2, h3⟩ := List.find?_eq_some_iff_getElem.1 h
  simp only [List.getElem_range] at h2
  subst h2
  refine ⟨i, by simpa using hi, rfl, h1, fun j hj => ?_⟩
  have := h3 j hj
  simpa using this
theorem overL_of {l : List Evt} {most : Int} {e : Nat} (he : e < l.length) (h : overB H q l most e = true) (hj : ∀ j, j < e → overB H q l most j = false) : overL H q l most = e := by
 rcases overL_cases (H := H) (q := q) l most with ⟨_, h2⟩ | ⟨e2, h1, h2, h3, h4⟩
 ·rw [h2 e he] at h; cases h
 ·rcases Nat.lt_trichotomy e e2 with h5 | h5 | h5
  ·rw [h4 e h5] at h; cases h
  ·rw [h2, h5]
  ·rw [hj e2 h5] at h3; cases h3
theorem overL_none {l : List Evt} {most : Int} (h : ∀ j, j < l.length → overB H q l most j = false) : overL H q l most = -1 := by
 rcases overL_cases (H := H) (q := q) l most with ⟨h2, _⟩ | ⟨e2, h1, h2, h3, h4⟩
 ·exact h2
 ·rw [h e2 h1] at h3; cases h3
theorem snoc_ind {α : Type} {P : List α → Prop} (h0 : P []) (h1 : ∀ l x, P l → P (l ++ [x])) (l : List α) : P l := by
 have : ∀ r : List α, P r.reverse := fun r => by
  induction r with
  | nil => exact h0
  | cons x r ih => rw [List.reverse_cons]; exact h1 _ _ ih
 have := this l.reverse
 rwa [List.reverse_reverse] at this
theorem insL_mid (x : Mat) : ∀ (a b : List Mat), (∀ y ∈ a, y.fin ≤ x.fin) → (∀ y ∈ b, x.fin < y.fin) → insL x (a ++ b) = a ++ x :: b
 | [], [], _, _ => rfl
 | [], y :: b, _, hb => by
  have := hb y List.mem_cons_self
  simp [insL]; omega
 | y :: a, b, ha, hb => by
  have := ha y List.mem_cons_self
  simp only [List.cons_append, insL, if_pos this]
  rw [insL_mid x a b (fun z hz => ha z (List.mem_cons_of_mem _ hz)) hb]
theorem stab_snoc (l : List Mat) (x : Mat) : stab (l ++ [x]) = insL x (stab l) := by unfold stab; rw [List.foldl_append]; rfl
end
end Go.Eng
