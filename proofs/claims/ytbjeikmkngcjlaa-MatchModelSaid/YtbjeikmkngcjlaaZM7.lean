/- All matches in plain words: by definition. -/
import Derived.Test.YtbjeikmkngcjlaaZM2
set_option linter.unusedVariables false
set_option linter.unusedSimpArgs false
namespace Go.Eng
open Go Go.Eng
def stepsL (H : HH) (q : Query) : List Evt → Run → Int → List Run × Run × Int
 | [], r, f => (if f = 0 then [r] else [], r, f)
 | e :: es, r, f => if f = 0 then (r :: (stepsL H q es (nextL H q r e).1 (nextL H q r e).2).1, (stepsL H q es (nextL H q r e).1 (nextL H q r e).2).2) else ([], r, f)
def evAt (l : List Evt) (i : Nat) : Evt := l.getD i default
def fromL (H : HH) (q : Query) (l : List Evt) (i : Nat) : List Run × Run × Int := stepsL H q (l.drop (i + 1)) (beginL H q (evAt l i) i).1 (beginL H q (evAt l i) i).2
def nRun (H : HH) (q : Query) (l : List Evt) (i : Nat) : Nat := (fromL H q l i).1.length
def matL (H : HH) (q : Query) (l : List Evt) (i : Nat) : Mat := ⟨i, i + (nRun H q l i : Nat), (fromL H q l i).2.1.agg, (fromL H q l i).2.1.bad⟩
def oneL (H : HH) (q : Query) (l : List Evt) (i : Nat) : Option Mat := if (fromL H q l i).2.2 = 2 then some (matL H q l i) else none
def liveB (H : HH) (q : Query) (l : List Evt) (e i : Nat) : Bool := decide (i ≤ e) && decide (e < i + nRun H q l i)
def nLive (H : HH) (q : Query) (l : List Evt) (e : Nat) : Nat := (List.range l.length).countP (liveB H q l e)
def overB (H : HH) (q : Query) (l : List Evt) (most : Int) (e : Nat) : Bool := decide (0 < nRun H q l e) && decide ((nLive H q l e : Int) > most)
def overL (H : HH) (q : Query) (l : List Evt) (most : Int) : Int := match (List.range l.length).find? (overB H q l most) with
 | some e => e
 | none => -1
def insL (x : Mat) : List Mat → List Mat
 | [] => [x]
 | y :: ys => if y.fin ≤ x.fin then y :: insL x ys else x :: y :: ys
def stab (l : List Mat) : List Mat := l.foldl (fun a x => insL x a) []
def onesL (H : HH) (q : Query) (l : List Evt) : List Mat := (List.range l.length).filterMap (oneL H q l)
def keptB (over : Int) (m : Mat) : Bool := decide (over < 0) || decide (m.fin ≤ over)
def allL (H : HH) (q : Query) (l : List Evt) (most : Int) : List Mat := stab ((onesL H q l).filter (keptB (overL H q l most)))

section
variable {H : HH} {q : Query}
theorem stepsL_stop (f : Int) (hf : f ≠ 0) (es : List Evt) (r : Run) : stepsL H q es r f = ([], r, f) := by
 cases es with
 | nil => simp [stepsL, hf]
 | cons e es => simp [stepsL, hf]
theorem stepsL_len : ∀ (es : List Evt) (r : Run) (f : Int), ((stepsL H q es r f).2.2 = 0 → (stepsL H q es r f).1.length = es.length + 1) ∧ ((stepsL H q es r f).2.2 ≠ 0 → (stepsL H q es r f).1.length ≤ es.length)
 | [], r, f => by
  by_cases h : f = 0
  ·simp [stepsL, h]
  ·simp [stepsL, h]
 | e :: es, r, f => by
  by_cases h : f = 0
  ·have ih := stepsL_len es (nextL H q r e).1 (nextL H q r e).2
   simp only [stepsL, h, if_true, List.length_cons]
   exact ⟨fun h0 => by rw [ih.1 h0], fun h0 => by have := ih.2 h0; omega⟩
  ·rw [stepsL_stop f h]; simp [h]
theorem nRun_le (l : List Evt) {i : Nat} (hi : i < l.length) : i + nRun H q l i ≤ l.length ∧ ((fromL H q l i).2.2 ≠ 0 → i + nRun H q l i < l.length) ∧ ((fromL H q l i).2.2 = 0 → i + nRun H q l i = l.length) := by
 have := stepsL_len (H := H) (q := q) (l.drop (i + 1)) (beginL H q (evAt l i) i).1 (beginL H q (evAt l i) i).2
 have hl : (l.drop (i + 1)).length = l.length - (i + 1) := List.length_drop
 rw [hl] at this
 unfold nRun fromL
 by_cases h : (stepsL H q (l.drop (i + 1)) (beginL H q (evAt l i) i).1 (beginL H q (evAt l i) i).2).2.2 = 0
 ·have := this.1 h
  exact ⟨by omega, fun h0 => absurd h h0, fun _ => by omega⟩
 ·have := this.2 h
  exact ⟨by omega, fun _ => by omega, fun h0 => absurd h0 h⟩
theorem oneL_some {l : List Evt} {i : Nat} {m : Mat} (h : oneL H q l i = some m) : m = matL H q l i ∧ (fromL H q l i).2.2 = 2 := by
 unfold oneL at h
 split at h
 ·rename_i h2; injection h with h; exact ⟨h.symm, h2⟩
 ·cases h
theorem overL_cases (l : List Evt) (most : Int) : (overL H q l most = -1 ∧ ∀ e, e < l.length → overB H q l most e = false) ∨ (∃ e : Nat, e < l.length ∧ overL H q l most = e ∧ overB H q l most e = true ∧ ∀ j, j < e → overB H q l most j = false) := by
 unfold overL
 cases h : (List.range l.length).find? (overB H q l most) with
 | none =>
  left
  refine ⟨rfl, fun e he => ?_⟩
  have := List.find?_eq_none.1 h e (List.mem_range.2 he)
  simpa using this
 | some e =>
  right
  obtain ⟨h1, i, hi, h2, h3⟩ := List.find?_eq_some_iff_getElem.1 h
  simp only [List.getElem_range] at h2
  subst h2
  refine ⟨i, by simpa using hi, rfl, h1, fun j hj => ?_⟩
  have := h3 j hj
  simpa using this
def finB (e : Nat) (m : Mat) : Bool := decide (m.fin = (e : Int))
theorem finB_eq {e : Nat} {m : Mat} : finB e m = true ↔ m.fin = (e : Int) := by simp [finB]
theorem finB_ne {e : Nat} {m : Mat} (h : m.fin ≠ (e : Int)) : finB e m = false := by simp [finB, h]
theorem fm_congr {α β : Type} {f g : α → List β} : ∀ {l : List α}, (∀ x ∈ l, f x = g x) → l.flatMap f = l.flatMap g
 | [], _ => rfl
 | x :: l, h => by
  rw [List.flatMap_cons, List.flatMap_cons, h x List.mem_cons_self, fm_congr (fun y hy => h y (List.mem_cons_of_mem _ hy))]
theorem fmap_congr {α β : Type} {f g : α → Option β} : ∀ {l : List α}, (∀ x ∈ l, f x = g x) → l.filterMap f = l.filterMap g
 | [], _ => rfl
 | x :: l, h => by
  rw [List.filterMap_cons, List.filterMap_cons, h x List.mem_cons_self, fmap_congr (fun y hy => h y (List.mem_cons_of_mem _ hy))]
theorem snoc_ind {α : Type} {P : List α → Prop} (h0 : P []) (h1 : ∀ l x, P l → P (l ++ [x])) (l : List α) : P l := by
 have : ∀ r : List α, P r.reverse := fun r => by
  induction r with
  | nil => exact h0
  | cons x r ih => rw [List.reverse_cons]; exact h1 _ _ ih
 have := this l.reverse
 rwa [List.reverse_reverse] at this
def byEnd (l : List Mat) (n : Nat) : List Mat := (List.range n).flatMap fun e => l.filter (finB e)
theorem insL_mid (x : Mat) : ∀ (a b : List Mat), (∀ y ∈ a, y.fin ≤ x.fin) → (∀ y ∈ b, x.fin < y.fin) → insL x (a ++ b) = a ++ x :: b
 | [], [], _, _ => rfl
 | [], y :: b, _, hb => by
  have := hb y List.mem_cons_self
  simp [insL]; omega
 | y :: a, b, ha, hb => by
  have := ha y List.mem_cons_self
  simp only [List.cons_append, insL, if_pos this]
  rw [insL_mid x a b (fun z hz => ha z (List.mem_cons_of_mem _ hz)) hb]
theorem stab_snoc (l : List Mat) (x : Mat) : stab (l ++ [x]) = insL x (stab l) := by unfold stab; rw [List.foldl_append]; rfl
theorem stab_eq (n : Nat) : ∀ (l : List Mat), (∀ m ∈ l, 0 ≤ m.fin ∧ m.fin < n) → stab l = byEnd l n := by
 intro l
 refine snoc_ind (P := fun l => (∀ m ∈ l, 0 ≤ m.fin ∧ m.fin < (n : Int)) → stab l = byEnd l n) ?_ (fun l x ih => ?_) l
 ·intro _; unfold byEnd; simp [stab]
 ·intro h
  have hx := h x (by simp)
  obtain ⟨e, he⟩ : ∃ e : Nat, x.fin = e := ⟨x.fin.toNat, by omega⟩
  have hen : e < n := by omega
  rw [stab_snoc, ih (fun m hm => h m (List.mem_append.2 (.inl hm)))]
  have er : List.range n = List.range e ++ (e :: (List.range (n - (e + 1))).map (e + 1 + ·)) := by
   have : n = (e + 1) + (n - (e + 1)) := by omega
   conv => lhs; rw [this, List.range_add, List.range_succ]
   simp
  unfold byEnd
  rw [er]
  simp only [List.flatMap_append, List.flatMap_cons]
  have f1 : ∀ j ∈ List.range e, (l ++ [x]).filter (finB j) = l.filter (finB j) := fun j hj => by
   have := List.mem_range.1 hj
   rw [List.filter_append]
   have : finB j x = false := finB_ne (by omega)
   simp [this]
  have f2 : ∀ j ∈ (List.range (n - (e + 1))).map (e + 1 + ·), (l ++ [x]).filter (finB j) = l.filter (finB j) := fun j hj => by
   obtain ⟨i, _, rfl⟩ := List.mem_map.1 hj
   rw [List.filter_append]
   have : finB (e + 1 + i) x = false := finB_ne (by omega)
   simp [this]
  have f3 : (l ++ [x]).filter (finB e) = (l.filter (finB e)) ++ [x] := by
   have : finB e x = true := finB_eq.2 he
   rw [List.filter_append]; simp [this]
  rw [fm_congr f1, fm_congr f2, f3]
  rw [← List.append_assoc, ← List.append_assoc]
  rw [insL_mid x _ _ (fun y hy => ?_) (fun y hy => ?_)]
  ·simp
  ·rcases List.mem_append.1 hy with h1 | h1
   ·obtain ⟨j, hj, h2⟩ := List.mem_flatMap.1 h1
    have h3 := List.mem_range.1 hj
    have := finB_eq.1 (List.mem_filter.1 h2).2
    omega
   ·have := finB_eq.1 (List.mem_filter.1 h1).2
    omega
  ·obtain ⟨j, hj, h2⟩ := List.mem_flatMap.1 hy
   obtain ⟨i, _, rfl⟩ := List.mem_map.1 hj
   have := finB_eq.1 (List.mem_filter.1 h2).2
   omega
theorem ones_fin (l : List Evt) {m : Mat} (h : m ∈ onesL H q l) : ∃ i, i < l.length ∧ m = matL H q l i ∧ oneL H q l i = some m ∧ (i : Int) = m.start ∧ m.start ≤ m.fin ∧ m.fin < l.length := by
 obtain ⟨i, hi, h1⟩ := List.mem_filterMap.1 h
 have hi := List.mem_range.1 hi
 obtain ⟨h2, h3⟩ := oneL_some h1
 have hn := nRun_le (H := H) (q := q) l hi
 have := hn.2.1 (by rw [h3]; decide)
 refine ⟨i, hi, h2, h1, by rw [h2]; rfl, ?_, ?_⟩
 ·rw [h2]; show (i : Int) ≤ i + (nRun H q l i : Nat); omega
 ·rw [h2]; show (i : Int) + (nRun H q l i : Nat) < l.length; omega
theorem all_eq (l : List Evt) (most : Int) : allL H q l most = byEnd ((onesL H q l).filter (keptB (overL H q l most))) l.length :=
 stab_eq _ _ fun m hm => by
  obtain ⟨i, hi, _, _, h1, h2, h3⟩ := ones_fin l (List.mem_filter.1 hm).1
  omega
theorem kept_end (l : List Mat) (o : Int) (e : Nat) : ((l.filter (keptB o)).filter (finB e)) = if o < 0 ∨ (e : Int) ≤ o then l.filter (finB e) else [] := by
 rw [List.filter_filter]
 split
 ·rename_i h
  refine List.filter_congr fun m _ => ?_
  by_cases hm : m.fin = (e : Int)
  ·have : keptB o m = true := by unfold keptB; rcases h with h | h <;> simp [h, hm]
   simp [this]
  ·simp [finB_ne hm]
 ·rename_i h
  rw [List.filter_eq_nil_iff]
  intro m _
  by_cases hm : m.fin = (e : Int)
  ·have : keptB o m = false := by unfold keptB; simp [hm]; omega
   simp [this]
  ·simp [finB_ne hm]
theorem all_events (l : List Evt) (most : Int) : allL H q l most = (List.range l.length).flatMap fun (e : Nat) => if overL H q l most < 0 ∨ (e : Int) ≤ overL H q l most then (onesL H q l).filter (finB e) else [] := by
 rw [all_eq]
 unfold byEnd
 exact fm_congr fun e _ => kept_end _ _ e
theorem all_len (l : List Evt) (most : Int) : (allL H q l most).length ≤ l.length := by
 have : ∀ (l : List Mat), (stab l).length = l.length := fun l => by
  have h1 : ∀ (x : Mat) (a : List Mat), (insL x a).length = a.length + 1 := fun x a => by
   induction a with
   | nil => rfl
   | cons y a ih => unfold insL; split <;> simp [ih]
  refine snoc_ind (P := fun l => (stab l).length = l.length) rfl (fun l x ih => ?_) l
  rw [stab_snoc, h1, ih]; simp
 unfold allL
 rw [this]
 refine Nat.le_trans (List.length_filter_le _ _) (Nat.le_trans (List.length_filterMap_le _ _) ?_)
 simp
end
end Go.Eng
