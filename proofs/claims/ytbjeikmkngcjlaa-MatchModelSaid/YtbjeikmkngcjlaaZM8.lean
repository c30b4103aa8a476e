/- A store behind events tells all matches, by definition, event by event. -/
import Derived.Test.YtbjeikmkngcjlaaZM7
set_option linter.unusedVariables false
set_option linter.unusedSimpArgs false
namespace Go.Eng
open Go Go.Eng
section
variable {H : HH} {q : Query}
def onB (H : HH) (q : Query) (e : Evt) (r : Run) : Option Run := if (nextL H q r e).2 = 0 then some (nextL H q r e).1 else none
theorem steps_next : ∀ (es : List Evt) (r : Run) (f : Int) (j : Nat) (e : Evt), es[j]? = some e → (stepsL H q es r f).1[j + 1]? = (stepsL H q es r f).1[j]?.bind (onB H q e)
 | [], r, f, j, e, h => by simp at h
 | e0 :: es, r, f, 0, e, h => by
  have : e0 = e := by simpa using h
  subst this
  by_cases hf : f = 0
  ·subst hf
   simp only [stepsL, if_true, List.getElem?_cons_zero, List.getElem?_cons_succ, Option.bind_some]
   unfold onB
   by_cases h2 : (nextL H q r e0).2 = 0
   ·rw [if_pos h2, h2]
    cases es with
    | nil => simp [stepsL]
    | cons e2 es => simp [stepsL]
   ·rw [if_neg h2, stepsL_stop _ h2]; rfl
  ·rw [stepsL_stop f hf]; rfl
 | e0 :: es, r, f, j + 1, e, h => by
  by_cases hf : f = 0
  ·subst hf
   simp only [stepsL, if_true, List.getElem?_cons_succ]
   exact steps_next es _ _ j e (by simpa using h)
  ·rw [stepsL_stop f hf]; rfl
theorem steps_end : ∀ (es : List Evt) (r : Run) (f : Int) (j : Nat) (e : Evt) (r' : Run), es[j]? = some e → (stepsL H q es r f).1[j]? = some r' → (nextL H q r' e).2 ≠ 0 →
    (stepsL H q es r f).1.length = j + 1 ∧ (stepsL H q es r f).2 = nextL H q r' e
 | [], r, f, j, e, r', h, _, _ => by simp at h
 | e0 :: es, r, f, 0, e, r', h, h1, h2 => by
  have : e0 = e := by simpa using h
  subst this
  by_cases hf : f = 0
  ·subst hf
   simp only [stepsL, if_true, List.getElem?_cons_zero] at h1
   injection h1 with h1
   subst h1
   simp only [stepsL, if_true]
   rw [stepsL_stop _ h2]
   exact ⟨rfl, rfl⟩
  ·rw [stepsL_stop f hf] at h1; cases h1
 | e0 :: es, r, f, j + 1, e, r', h, h1, h2 => by
  by_cases hf : f = 0
  ·subst hf
   simp only [stepsL, if_true, List.getElem?_cons_succ] at h1
   have ih := steps_end es _ _ j e r' (by simpa using h) h1 h2
   simp only [stepsL, if_true, List.length_cons]
   exact ⟨by rw [ih.1], ih.2⟩
  ·rw [stepsL_stop f hf] at h1; cases h1
theorem steps_first : ∀ (es : List Evt) (r : Run) (f : Int), (∀ x ∈ (stepsL H q es r f).1, x.first = r.first) ∧ (stepsL H q es r f).2.1.first = r.first
 | [], r, f => by
  by_cases hf : f = 0
  ·simp [stepsL, hf]
  ·simp [stepsL, hf]
 | e :: es, r, f => by
  by_cases hf : f = 0
  ·subst hf
   have ih := steps_first es (nextL H q r e).1 (nextL H q r e).2
   rw [nextL_first] at ih
   simp only [stepsL, if_true]
   refine ⟨fun x hx => ?_, ih.2⟩
   rcases List.mem_cons.1 hx with rfl | hx
   ·rfl
   ·exact ih.1 x hx
  ·rw [stepsL_stop f hf]; simp
theorem steps_ok (hq : Made q) : ∀ (es : List Evt) (r : Run) (f : Int), (f = 0 → RunOk q r) → ∀ x ∈ (stepsL H q es r f).1, RunOk q x
 | [], r, f, h, x, hx => by
  by_cases hf : f = 0
  ·have : x = r := by simpa [stepsL, hf] using hx
   rw [this]; exact h hf
  ·simp [stepsL, hf] at hx
 | e :: es, r, f, h, x, hx => by
  by_cases hf : f = 0
  ·have h9 : RunOk q r := h hf
   subst hf
   simp only [stepsL, if_true] at hx
   rcases List.mem_cons.1 hx with hx | hx
   ·rw [hx]; exact h9
   ·exact steps_ok hq es _ _ (fun h2 => RunOk_next hq h9 h2) x hx
  ·rw [stepsL_stop f hf] at hx; cases hx
def atR (H : HH) (q : Query) (l : List Evt) (k i : Nat) : Option Run := (fromL H q l i).1[k - i]?
def runsL (H : HH) (q : Query) (l : List Evt) (k : Nat) : List Run := (List.range k).filterMap (atR H q l (k - 1))
theorem evAt_get {l : List Evt} {k : Nat} (hk : k < l.length) : l[k]? = some (evAt l k) := by
 unfold evAt; rw [List.getD_eq_getElem?_getD, List.getElem?_eq_getElem hk]; rfl
theorem at_next (l : List Evt) {k i : Nat} (hi : i < k) (hk : k < l.length) : atR H q l k i = (atR H q l (k - 1) i).bind (onB H q (evAt l k)) := by
 have e1 : (l.drop (i + 1))[k - 1 - i]? = some (evAt l k) := by
  rw [List.getElem?_drop, show i + 1 + (k - 1 - i) = k by omega]; exact evAt_get hk
 have := steps_next (H := H) (q := q) (l.drop (i + 1)) (beginL H q (evAt l i) i).1 (beginL H q (evAt l i) i).2 (k - 1 - i) _ e1
 have e2 : k - i = k - 1 - i + 1 := by omega
 unfold atR fromL
 rw [e2]; exact this
theorem steps_head (es : List Evt) (r : Run) (f : Int) : (stepsL H q es r f).1[0]? = if f = 0 then some r else none := by
 cases es with
 | nil => by_cases h : f = 0 <;> simp [stepsL, h]
 | cons e es => by_cases h : f = 0 <;> simp [stepsL, h]
theorem at_head (l : List Evt) (k : Nat) : atR H q l k k = if (beginL H q (evAt l k) k).2 = 0 then some (beginL H q (evAt l k) k).1 else none := by
 unfold atR fromL
 rw [Nat.sub_self, steps_head]
theorem at_none (l : List Evt) (k i : Nat) : (atR H q l k i).isSome = decide (k - i < nRun H q l i) := by
 unfold atR nRun
 by_cases h : k - i < (fromL H q l i).1.length
 ·rw [List.getElem?_eq_getElem h, decide_eq_true h]; rfl
 ·rw [List.getElem?_eq_none (by omega), decide_eq_false h]; rfl
theorem begin_of_at {l : List Evt} {k i : Nat} {r : Run} (h : atR H q l k i = some r) : (beginL H q (evAt l i) i).2 = 0 := by
 unfold atR fromL at h
 by_cases h2 : (beginL H q (evAt l i) i).2 = 0
 ·exact h2
 ·rw [stepsL_stop _ h2] at h; cases h
theorem at_first {l : List Evt} {k i : Nat} {r : Run} (h : atR H q l k i = some r) : r.first = i := by
 have h0 := begin_of_at h
 unfold atR fromL at h
 have := (steps_first (H := H) (q := q) (l.drop (i + 1)) (beginL H q (evAt l i) i).1 (beginL H q (evAt l i) i).2).1 r (List.mem_of_getElem? h)
 rw [this]; exact beginL_first (by omega)
theorem at_ok (hq : Made q) {l : List Evt} {k i : Nat} {r : Run} (h : atR H q l k i = some r) : RunOk q r := by
 unfold atR fromL at h
 exact steps_ok hq _ _ _ (fun h0 => RunOk_begin hq h0) r (List.mem_of_getElem? h)
theorem runs_ok (hq : Made q) (l : List Evt) (k : Nat) : ∀ r ∈ runsL H q l k, RunOk q r := fun r hr => by
 obtain ⟨i, _, h⟩ := List.mem_filterMap.1 hr
 exact at_ok hq h
theorem runs_next (l : List Evt) {k : Nat} (hk : k < l.length) : runsL H q l (k + 1) = leftOf H q (evAt l k) (runsL H q l k) ++ if (beginL H q (evAt l k) k).2 = 0 then [(beginL H q (evAt l k) k).1] else [] := by
 unfold runsL
 rw [List.range_succ, List.filterMap_append]
 congr 1
 ·unfold leftOf
  rw [List.filterMap_filterMap]
  refine fmap_congr fun i hi => ?_
  rw [show k + 1 - 1 = k by omega, at_next l (List.mem_range.1 hi) hk]
  cases atR H q l (k - 1) i with
  | none => rfl
  | some r => rfl
 ·rw [show k + 1 - 1 = k by omega]
  simp only [List.filterMap_cons, List.filterMap_nil]
  rw [at_head]
  by_cases h : (beginL H q (evAt l k) k).2 = 0
  ·rw [if_pos h, if_pos h]
  ·rw [if_neg h, if_neg h]
theorem runs_live (l : List Evt) {k : Nat} (hk : k < l.length) : nLive H q l k = (runsL H q l (k + 1)).length := by
 unfold nLive runsL
 have e1 : List.range l.length = List.range (k + 1) ++ (List.range (l.length - (k + 1))).map (k + 1 + ·) := by rw [← List.range_add]; congr 1; omega
 rw [e1, List.countP_append]
 have : ((List.range (l.length - (k + 1))).map (k + 1 + ·)).countP (liveB H q l k) = 0 := by
  rw [List.countP_eq_zero]
  intro x hx
  obtain ⟨y, _, rfl⟩ := List.mem_map.1 hx
  simp [liveB]; omega
 rw [this, Nat.add_zero, List.length_filterMap_eq_countP]
 refine List.countP_congr fun i hi => ?_
 have hi := List.mem_range.1 hi
 rw [show k + 1 - 1 = k by omega]
 show liveB H q l k i = true ↔ (atR H q l k i).isSome = true
 rw [at_none]
 unfold liveB
 simp only [Bool.and_eq_true, decide_eq_true_eq]
 omega
theorem nRun_pos (l : List Evt) (k : Nat) : 0 < nRun H q l k ↔ (beginL H q (evAt l k) k).2 = 0 := by
 have := at_none (H := H) (q := q) l k k
 rw [at_head, Nat.sub_self] at this
 by_cases h : (beginL H q (evAt l k) k).2 = 0
 ·rw [if_pos h] at this
  have := this.symm
  simp at this
  exact ⟨fun _ => h, fun _ => this⟩
 ·rw [if_neg h] at this
  have := this.symm
  simp at this
  exact ⟨fun h2 => absurd h2 (by omega), fun h2 => absurd h2 h⟩
def endsAt (H : HH) (q : Query) (l : List Evt) (k : Nat) : List Mat := (onesL H q l).filter (finB k)
theorem mat_ext {a b : Mat} (h1 : a.start = b.start) (h2 : a.fin = b.fin) (h3 : a.agg = b.agg) (h4 : a.bad = b.bad) : a = b := by
 cases a; cases b; simp only at h1 h2 h3 h4; subst h1; subst h2; subst h3; subst h4; rfl
theorem ends_next (l : List Evt) {k : Nat} (hk : k < l.length) : endsAt H q l k = doneOf H q (evAt l k) k (runsL H q l k) ++ if (beginL H q (evAt l k) k).2 = 2 then [doneM k (beginL H q (evAt l k) k).1] else [] := by
 unfold endsAt onesL runsL doneOf
 have e1 : List.range l.length = List.range k ++ (k :: (List.range (l.length - (k + 1))).map (k + 1 + ·)) := by
  have : l.length = (k + 1) + (l.length - (k + 1)) := by omega
  conv => lhs; rw [this, List.range_add, List.range_succ]
  simp
 rw [e1, List.filterMap_append, List.filter_append, List.filterMap_filterMap, List.filter_filterMap]
 congr 1
 ·refine fmap_congr fun i hi => ?_
  have hi := List.mem_range.1 hi
  have e2 : (l.drop (i + 1))[k - 1 - i]? = some (evAt l k) := by
   rw [List.getElem?_drop, show i + 1 + (k - 1 - i) = k by omega]; exact evAt_get hk
  cases ha : atR H q l (k - 1) i with
  | none =>
   have h1 := at_none (H := H) (q := q) l (k - 1) i
   rw [ha] at h1
   have h1 : ¬ (k - 1 - i < nRun H q l i) := of_decide_eq_false h1.symm
   show (oneL H q l i).filter (finB k) = none
   cases h2 : oneL H q l i with
   | none => rfl
   | some m =>
    obtain ⟨h3, _⟩ := oneL_some h2
    have : finB k m = false := finB_ne (by rw [h3]; show ¬ (i : Int) + (nRun H q l i : Nat) = k; omega)
    simp [Option.filter, this]
  | some r =>
   have ha' := ha
   unfold atR fromL at ha'
   have hnext := at_next (H := H) (q := q) l hi hk
   rw [ha] at hnext
   show (oneL H q l i).filter (finB k) = if (nextL H q r (evAt l k)).2 = 2 then some (doneM k (nextL H q r (evAt l k)).1) else none
   by_cases h0 : (nextL H q r (evAt l k)).2 = 0
   ·rw [if_neg (by omega)]
    have h1 := at_none (H := H) (q := q) l k i
    rw [hnext] at h1
    have h5 : onB H q (evAt l k) r = some (nextL H q r (evAt l k)).1 := by unfold onB; rw [if_pos h0]
    rw [Option.bind_some, h5] at h1
    have h1 : k - i < nRun H q l i := of_decide_eq_true h1.symm
    cases h2 : oneL H q l i with
    | none => rfl
    | some m =>
     obtain ⟨h3, _⟩ := oneL_some h2
     have : finB k m = false := finB_ne (by rw [h3]; show ¬ (i : Int) + (nRun H q l i : Nat) = k; omega)
     simp [Option.filter, this]
   ·obtain ⟨s1, s2⟩ := steps_end (H := H) (q := q) _ _ _ _ _ r e2 ha' h0
    have s1' : nRun H q l i = k - 1 - i + 1 := s1
    have s2' : (fromL H q l i).2 = nextL H q r (evAt l k) := s2
    unfold oneL
    rw [s2']
    by_cases h2 : (nextL H q r (evAt l k)).2 = 2
    ·rw [if_pos h2, if_pos h2]
     have hm : matL H q l i = doneM k (nextL H q r (evAt l k)).1 := by
      refine mat_ext ?_ ?_ ?_ ?_
      ·show (i : Int) = (nextL H q r (evAt l k)).1.first
       rw [nextL_first, at_first ha]
      ·show (i : Int) + (nRun H q l i : Nat) = (k : Int)
       rw [s1']; omega
      ·show (fromL H q l i).2.1.agg = _
       rw [s2']; rfl
      ·show (fromL H q l i).2.1.bad = _
       rw [s2']; rfl
     rw [hm]
     have : finB k (doneM k (nextL H q r (evAt l k)).1) = true := finB_eq.2 rfl
     simp [Option.filter, this]
    ·rw [if_neg h2, if_neg h2]; rfl
 ·rw [List.filterMap_cons]
  have z : ((((List.range (l.length - (k + 1))).map (k + 1 + ·)).filterMap (oneL H q l)).filter (finB k)) = [] := by
   rw [List.filter_eq_nil_iff]
   intro m hm
   obtain ⟨i, hi, h1⟩ := List.mem_filterMap.1 hm
   obtain ⟨j, _, rfl⟩ := List.mem_map.1 hi
   obtain ⟨h2, _⟩ := oneL_some h1
   have : finB k (matL H q l (k + 1 + j)) = false := finB_ne (by show ¬ ((k + 1 + j : Nat) : Int) + (nRun H q l (k + 1 + j) : Nat) = k; omega)
   rw [h2, this]; simp
  have hp := nRun_pos (H := H) (q := q) l k
  by_cases h2 : (beginL H q (evAt l k) k).2 = 2
  ·rw [if_pos h2]
   have hf : fromL H q l k = ([], (beginL H q (evAt l k) k).1, (beginL H q (evAt l k) k).2) := by
    unfold fromL; rw [stepsL_stop _ (by rw [h2]; decide)]
   have h3 : oneL H q l k = some (matL H q l k) := by unfold oneL; rw [hf]; exact if_pos h2
   have hm : matL H q l k = doneM k (beginL H q (evAt l k) k).1 := by
    refine mat_ext ?_ ?_ ?_ ?_
    ·show (k : Int) = (beginL H q (evAt l k) k).1.first
     rw [beginL_first (by rw [h2]; decide)]
    ·show (k : Int) + (nRun H q l k : Nat) = (k : Int)
     have : ¬ 0 < nRun H q l k := fun h => by have := hp.1 h; omega
     omega
    ·show (fromL H q l k).2.1.agg = _
     rw [hf]; rfl
    ·show (fromL H q l k).2.1.bad = _
     rw [hf]; rfl
   rw [h3, hm]
   have : finB k (doneM k (beginL H q (evAt l k) k).1) = true := finB_eq.2 rfl
   dsimp only
   rw [List.filter_cons, if_pos this, z]
  ·rw [if_neg h2]
   cases h3 : oneL H q l k with
   | none => exact z
   | some m =>
    obtain ⟨h4, h5⟩ := oneL_some h3
    have h6 : 0 < nRun H q l k := by
     rw [hp]
     by_cases h7 : (beginL H q (evAt l k) k).2 = 0
     ·exact h7
     ·exfalso
      unfold fromL at h5
      rw [stepsL_stop _ h7] at h5
      exact h2 h5
    have : finB k m = false := finB_ne (by rw [h4]; show ¬ (k : Int) + (nRun H q l k : Nat) = k; omega)
    dsimp only
    rw [List.filter_cons, if_neg (by rw [this]; decide), z]
theorem begin_fates (hq : Made q) (e : Evt) (i : Int) : (beginL H q e i).2 = 0 ∨ (beginL H q e i).2 = 1 ∨ (beginL H q e i).2 = 2 := by
 unfold beginL
 split
 ·exact .inr (.inl rfl)
 split
 ·exact .inr (.inl rfl)
 ·dsimp only
  unfold fateL
  split
  ·exact .inr (.inr rfl)
  ·exact .inl rfl
def goes (o : Int) (k : Nat) : Prop := o < 0 ∨ (k : Int) ≤ o
instance (o : Int) (k : Nat) : Decidable (goes o k) := by unfold goes; infer_instance
def storeAt (H : HH) (q : Query) (l : List Evt) (k : Nat) : StoreL := if goes (overL H q l 5) k then ⟨q, runsL H q l k, -1⟩ else ⟨q, [], overL H q l 5⟩
def toldAt (H : HH) (q : Query) (l : List Evt) (k : Nat) : List Mat := if goes (overL H q l 5) k then endsAt H q l k else []
theorem over_at (l : List Evt) {k : Nat} (hk : k < l.length) : overB H q l 5 k = true ↔ (beginL H q (evAt l k) k).2 = 0 ∧ 5 < (runsL H q l (k + 1)).length := by
 unfold overB
 rw [runs_live l hk]
 simp only [Bool.and_eq_true, decide_eq_true_eq]
 rw [nRun_pos]
 constructor
 ·rintro ⟨a, b⟩; exact ⟨a, by omega⟩
 ·rintro ⟨a, b⟩; exact ⟨a, by omega⟩
theorem over_not (l : List Evt) {k : Nat} (hk : k < l.length) (h : goes (overL H q l 5) (k + 1)) : overB H q l 5 k = false := by
 rcases overL_cases (H := H) (q := q) l 5 with ⟨h1, h2⟩ | ⟨e, h1, h2, h3, h4⟩
 ·exact h2 k hk
 ·refine h4 k ?_
  unfold goes at h
  rw [h2] at h; omega
theorem runs_few (l : List Evt) : ∀ {k : Nat}, k ≤ l.length → goes (overL H q l 5) k → (runsL H q l k).length ≤ 5
 | 0, _, _ => by simp [runsL]
 | k + 1, hk, h => by
  have ih := runs_few l (k := k) (by omega) (by unfold goes at h ⊢; omega)
  have hn := over_not l (by omega) h
  rw [runs_next l (by omega)]
  have hl := leftOf_len H q (evAt l k) (runsL H q l k)
  by_cases c : (beginL H q (evAt l k) k).2 = 0
  ·have : ¬ (5 < (runsL H q l (k + 1)).length) := fun h5 => by
     have := (over_at l (by omega)).2 ⟨c, h5⟩
     rw [hn] at this; cases this
   rw [runs_next l (by omega)] at this
   omega
  ·rw [if_neg c, List.append_nil]; omega
theorem store_may (hq : Made q) (l : List Evt) {k : Nat} (hk : k ≤ l.length) : mayS (storeAt H q l k) := by
 unfold storeAt
 split
 ·rename_i h
  exact ⟨runs_few l hk h, fun r hr => (RunOk.may hq (runs_ok hq l k r hr)).1, .inl rfl⟩
 ·rename_i h
  refine ⟨by simp, by simp, .inr ⟨?_, rfl⟩⟩
  show overL H q l 5 ≥ 0
  unfold goes at h; omega
theorem store_next (hq : Made q) (l : List Evt) {k : Nat} (hk : k < l.length) : feedL H (storeAt H q l k) (evAt l k) k = (storeAt H q l (k + 1), toldAt H q l k) := by
 have hm := store_may (H := H) hq l (k := k) (by omega)
 by_cases hg : goes (overL H q l 5) k
 case neg =>
  have h1 : ¬ goes (overL H q l 5) (k + 1) := by unfold goes at hg ⊢; omega
  have h2 : (storeAt H q l k).over ≠ -1 := by
   unfold storeAt; rw [if_neg hg]
   show overL H q l 5 ≠ -1
   unfold goes at hg; omega
  rw [feedL_over (.inr h2)]
  unfold storeAt toldAt
  rw [if_neg hg, if_neg h1, if_neg hg]
 have e0 : storeAt H q l k = ⟨q, runsL H q l k, -1⟩ := by unfold storeAt; rw [if_pos hg]
 have e1 : toldAt H q l k = endsAt H q l k := by unfold toldAt; rw [if_pos hg]
 rw [e0] at hm ⊢
 rw [e1]
 have hr := runs_next (H := H) (q := q) l hk
 have he := ends_next (H := H) (q := q) l hk
 have hl := leftOf_len H q (evAt l k) (runsL H q l k)
 have hf := runs_few l (by omega) hg
 have ha := over_at (H := H) (q := q) l hk
 have go1 : goes (overL H q l 5) (k + 1) ↔ overB H q l 5 k = false := by
  constructor
  ·exact over_not l hk
  ·intro h
   rcases overL_cases (H := H) (q := q) l 5 with ⟨h1, h2⟩ | ⟨e, h1, h2, h3, h4⟩
   ·left; omega
   ·unfold goes at hg ⊢
    rw [h2] at hg ⊢
    have : e ≠ k := fun h5 => by rw [h5, h] at h3; cases h3
    omega
 have stay : overB H q l 5 k = false → storeAt H q l (k + 1) = ⟨q, runsL H q l (k + 1), -1⟩ := fun h => by
  unfold storeAt; rw [if_pos (go1.2 h)]
 unfold feedL
 rw [if_neg (by intro h; rcases h with h | h; exact h hm; exact h rfl)]
 dsimp only
 rcases begin_fates (H := H) hq (evAt l k) k with c | c | c
 ·rw [if_neg (by omega)]
  rw [if_neg (show ¬ (beginL H q (evAt l k) k).2 = 2 by omega), List.append_nil] at he
  rw [if_pos c] at hr
  by_cases c5 : (leftOf H q (evAt l k) (runsL H q l k)).length = 5
  ·rw [if_pos ⟨c, c5⟩]
   have hb : overB H q l 5 k = true := ha.2 ⟨c, by rw [hr, List.length_append]; simp; omega⟩
   have ho : overL H q l 5 = k := by
    rcases overL_cases (H := H) (q := q) l 5 with ⟨h1, h2⟩ | ⟨e, h1, h2, h3, h4⟩
    ·rw [h2 k hk] at hb; cases hb
    ·unfold goes at hg
     rw [h2] at hg ⊢
     have : ¬ k < e := fun h5 => by rw [h4 k h5] at hb; cases hb
     congr 1; omega
   have hng : ¬ goes (overL H q l 5) (k + 1) := fun h => by rw [go1.1 h] at hb; cases hb
   unfold storeAt
   rw [if_neg hng, ho, he]
   congr 2
   omega
  ·rw [if_neg (fun h => c5 h.2), if_pos c]
   have hb : overB H q l 5 k = false := by
    cases hb : overB H q l 5 k with
    | false => rfl
    | true =>
     have := (ha.1 hb).2
     rw [hr, List.length_append] at this
     simp at this; omega
   rw [stay hb, hr, he]
 ·rw [if_neg (by omega), if_neg (by omega), if_neg (by omega)]
  rw [if_neg (show ¬ (beginL H q (evAt l k) k).2 = 2 by omega), List.append_nil] at he
  rw [if_neg (show ¬ (beginL H q (evAt l k) k).2 = 0 by omega), List.append_nil] at hr
  have hb : overB H q l 5 k = false := by
   cases hb : overB H q l 5 k with
   | false => rfl
   | true => have := (ha.1 hb).1; omega
  rw [stay hb, hr, he]
 ·rw [if_pos c]
  rw [if_pos c] at he
  rw [if_neg (show ¬ (beginL H q (evAt l k) k).2 = 0 by omega), List.append_nil] at hr
  have hb : overB H q l 5 k = false := by
   cases hb : overB H q l 5 k with
   | false => rfl
   | true => have := (ha.1 hb).1; omega
  rw [stay hb, hr, he]
def toldBy (H : HH) (q : Query) (l : List Evt) (k : Nat) : List Mat := (List.range k).flatMap (toldAt H q l)
theorem told_next (l : List Evt) (k : Nat) : toldBy H q l (k + 1) = toldBy H q l k ++ toldAt H q l k := by
 unfold toldBy; rw [List.range_succ, List.flatMap_append]; simp
theorem told_all (l : List Evt) : toldBy H q l l.length = allL H q l 5 := by
 rw [all_events]; rfl
theorem store_zero (l : List Evt) : storeAt H q l 0 = ⟨q, [], -1⟩ := by
 unfold storeAt
 by_cases h : goes (overL H q l 5) 0
 ·rw [if_pos h]; rfl
 ·exfalso; unfold goes at h; omega
theorem store_over (l : List Evt) : (storeAt H q l l.length).over = overL H q l 5 := by
 unfold storeAt
 rcases overL_cases (H := H) (q := q) l 5 with ⟨h1, h2⟩ | ⟨e, h1, h2, h3, h4⟩
 ·rw [if_pos (by left; omega), h1]
 ·rw [if_neg (by unfold goes; omega)]
theorem told_len (l : List Evt) {k : Nat} (hk : k ≤ l.length) : (toldBy H q l k).length ≤ l.length := by
 have h : ∃ r, allL H q l 5 = toldBy H q l k ++ r := by
  rw [← told_all]
  refine ⟨((List.range (l.length - k)).map (k + ·)).flatMap (toldAt H q l), ?_⟩
  unfold toldBy
  have : l.length = k + (l.length - k) := by omega
  conv => lhs; rw [this, List.range_add, List.flatMap_append]
 obtain ⟨r, h⟩ := h
 have := all_len (H := H) (q := q) l 5
 rw [h, List.length_append] at this
 omega
end
end Go.Eng
