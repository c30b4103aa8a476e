/- Stores in plain words: what an event makes of one, and what is so of that. -/
import Derived.Test.YtbjeikmkngcjlaaZM1
set_option linter.unusedVariables false
set_option linter.unusedSimpArgs false
namespace Go.Eng
open Go Go.Eng
structure StoreL where
  q : Query
  r : List Run
  over : Int
def mayS (s : StoreL) : Prop := s.r.length ≤ 5 ∧ (∀ r ∈ s.r, mayR s.q r) ∧ (s.over = -1 ∨ s.over ≥ 0 ∧ s.r.length = 0)
instance (s : StoreL) : Decidable (mayS s) := by unfold mayS; infer_instance
def leftOf (H : HH) (q : Query) (e : Evt) (l : List Run) : List Run := l.filterMap (fun r => if (nextL H q r e).2 = 0 then some (nextL H q r e).1 else none)
def doneM (at' : Int) (r : Run) : Mat := ⟨r.first, at', r.agg, r.bad⟩
def doneOf (H : HH) (q : Query) (e : Evt) (at' : Int) (l : List Run) : List Mat := l.filterMap (fun r => if (nextL H q r e).2 = 2 then some (doneM at' (nextL H q r e).1) else none)
def feedL (H : HH) (s : StoreL) (e : Evt) (at' : Int) : StoreL × List Mat :=
  if ¬ mayS s ∨ s.over ≠ -1 then (s, [])
  else if (beginL H s.q e at').2 = 2 then (⟨s.q, leftOf H s.q e s.r, s.over⟩, doneOf H s.q e at' s.r ++ [doneM at' (beginL H s.q e at').1])
  else if (beginL H s.q e at').2 = 0 ∧ (leftOf H s.q e s.r).length = 5 then (⟨s.q, [], max at' 0⟩, doneOf H s.q e at' s.r)
  else if (beginL H s.q e at').2 = 0 then (⟨s.q, leftOf H s.q e s.r ++ [(beginL H s.q e at').1], s.over⟩, doneOf H s.q e at' s.r)
  else (⟨s.q, leftOf H s.q e s.r, s.over⟩, doneOf H s.q e at' s.r)
theorem leftOf_len (H : HH) (q : Query) (e : Evt) (l : List Run) : (leftOf H q e l).length ≤ l.length := List.length_filterMap_le _ _
theorem doneOf_len (H : HH) (q : Query) (e : Evt) (at' : Int) (l : List Run) : (doneOf H q e at' l).length ≤ l.length := List.length_filterMap_le _ _
theorem leftOf_mem {H : HH} {q : Query} {e : Evt} {l : List Run} {y : Run} (h : y ∈ leftOf H q e l) : ∃ r ∈ l, (nextL H q r e).2 = 0 ∧ y = (nextL H q r e).1 := by
  obtain ⟨r, h1, h2⟩ := List.mem_filterMap.1 h
  split at h2
  · rename_i h3; injection h2 with h2; exact ⟨r, h1, h3, h2.symm⟩
  · cases h2
theorem doneOf_mem {H : HH} {q : Query} {e : Evt} {at' : Int} {l : List Run} {m : Mat} (h : m ∈ doneOf H q e at' l) : ∃ r ∈ l, (nextL H q r e).2 = 2 ∧ m = doneM at' (nextL H q r e).1 := by
  obtain ⟨r, h1, h2⟩ := List.mem_filterMap.1 h
  split at h2
  · rename_i h3; injection h2 with h2; exact ⟨r, h1, h3, h2.symm⟩
  · cases h2
theorem feedL_q (H : HH) (s : StoreL) (e : Evt) (at' : Int) : (feedL H s e at').1.q = s.q := by
  unfold feedL
  repeat' split
  all_goals rfl
theorem feedL_over {H : HH} {s : StoreL} {e : Evt} {at' : Int} (h : ¬ mayS s ∨ s.over ≠ -1) : feedL H s e at' = (s, []) := by unfold feedL; rw [if_pos h]
theorem feedL_len (H : HH) (s : StoreL) (e : Evt) (at' : Int) : (feedL H s e at').2.length ≤ 6 := by
  by_cases h : ¬ mayS s ∨ s.over ≠ -1
  · rw [feedL_over h]; exact Nat.zero_le 6
  · have h1 : s.r.length ≤ 5 := by
      by_cases h2 : mayS s
      · exact h2.1
      · exact absurd (.inl h2) h
    have h2 := doneOf_len H s.q e at' s.r
    unfold feedL; rw [if_neg h]
    repeat' split
    all_goals (try rw [List.length_append]); simp only [List.length_cons, List.length_nil]; omega
/-- a store that may be stays so -/
theorem feedL_room {H : HH} {s : StoreL} (hq : Made s.q) (hs : mayS s) (hm : ∀ r ∈ s.r, r.many ≤ 1099511627776) (e : Evt) (at' : Int) :
    mayS (feedL H s e at').1 ∧ (feedL H s e at').1.r.length ≤ s.r.length + 1 ∧ (feedL H s e at').2.length ≤ s.r.length + 1 ∧ ((feedL H s e at').1.over = -1 → s.over = -1) ∧
      ((feedL H s e at').1.over ≠ -1 → (feedL H s e at').1.r = []) := by
  by_cases h : ¬ mayS s ∨ s.over ≠ -1
  · rw [feedL_over h]
    refine ⟨hs, by simp, by simp, id, fun h2 => ?_⟩
    rcases hs.2.2 with h3 | ⟨_, h3⟩
    · exact absurd h3 h2
    · exact List.eq_nil_of_length_eq_zero h3
  · have ho : s.over = -1 := by
      by_cases h2 : s.over = -1
      · exact h2
      · exact absurd (.inr h2) h
    have l1 := leftOf_len H s.q e s.r
    have l2 := doneOf_len H s.q e at' s.r
    have l3 := hs.1
    have hl : ∀ r ∈ leftOf H s.q e s.r, mayR s.q r := by
      intro y hy
      obtain ⟨r, h1, h2, rfl⟩ := leftOf_mem hy
      rcases mayR_next (H := H) hq (hs.2.1 r h1) (hm r h1) e with c | ⟨_, _, _, _, _, _, _, c⟩
      · rw [c] at h2; cases h2
      · rcases c with ⟨c, _⟩ | ⟨_, c⟩
        · omega
        · exact c
    unfold feedL; rw [if_neg h]
    by_cases c1 : (beginL H s.q e at').2 = 2
    · rw [if_pos c1]
      refine ⟨⟨by dsimp only; omega, hl, .inl ho⟩, by dsimp only; omega, by simp only [List.length_append, List.length_cons, List.length_nil]; omega, fun _ => ho, fun h2 => absurd ho h2⟩
    rw [if_neg c1]
    by_cases c2 : (beginL H s.q e at').2 = 0 ∧ (leftOf H s.q e s.r).length = 5
    · rw [if_pos c2]
      refine ⟨⟨by simp, by simp, .inr ⟨by dsimp only; omega, rfl⟩⟩, by simp, by dsimp only; omega, fun _ => ho, fun _ => rfl⟩
    rw [if_neg c2]
    by_cases c3 : (beginL H s.q e at').2 = 0
    · rw [if_pos c3]
      refine ⟨⟨?_, ?_, .inl ho⟩, by simp only [List.length_append, List.length_cons, List.length_nil]; omega, by dsimp only; omega, fun _ => ho, fun h2 => absurd ho h2⟩
      · simp only [List.length_append, List.length_cons, List.length_nil]
        have : (leftOf H s.q e s.r).length ≠ 5 := fun h2 => c2 ⟨c3, h2⟩
        omega
      · intro y hy
        rcases List.mem_append.1 hy with hy | hy
        · exact hl y hy
        · have : y = (beginL H s.q e at').1 := by simpa using hy
          subst this
          rcases beginL_may (H := H) hq (e := e) (at' := at') with c | ⟨_, _, _, _, _, c⟩
          · omega
          · exact c c3
    rw [if_neg c3]
    exact ⟨⟨by dsimp only; omega, hl, .inl ho⟩, by dsimp only; omega, by dsimp only; omega, fun _ => ho, fun h2 => absurd ho h2⟩
theorem nextL_first (H : HH) (q : Query) (r : Run) (e : Evt) : (nextL H q r e).1.first = r.first := by
  by_cases h : r.step < 0 ∨ r.step ≥ q.steps.length
  · unfold nextL; rw [if_pos h]
  · rcases nextL_cases H q r e (by omega) (by omega) with c | c | ⟨_, _, c⟩ | ⟨_, c⟩ <;> rw [c]
    · exact (toldL_keep q { r with step := r.step + 1, n := 1 } e.v).1
    · exact (toldL_keep q { r with n := w64 (r.n + 1) } e.v).1
theorem beginL_first {H : HH} {q : Query} {e : Evt} {at' : Int} (h : (beginL H q e at').2 ≠ 1) : (beginL H q e at').1.first = at' := by
  unfold beginL at h ⊢
  split at h
  · exact absurd rfl h
  · rename_i h1
    rw [if_neg h1]
    split at h
    · exact absurd rfl h
    · rename_i h2
      rw [if_neg h2]
      exact (toldL_keep q ⟨at', e.at_, 0, 1, 0, 0, false⟩ e.v).1
/-- runs stand in order -/
def ordR (l : List Run) (i : Int) : Prop := l.Pairwise (fun a b => a.first < b.first) ∧ ∀ r ∈ l, r.first < i
theorem ordR_left {H : HH} {q : Query} {e : Evt} {l : List Run} {i : Int} (h : ordR l i) : ordR (leftOf H q e l) i := by
  refine ⟨?_, fun y hy => ?_⟩
  · refine List.pairwise_filterMap.2 (h.1.imp (fun {a b} hab y hy z hz => ?_))
    split at hy
    · split at hz
      · injection hy with hy; injection hz with hz
        rw [← hy, ← hz, nextL_first, nextL_first]; exact hab
      · cases hz
    · cases hy
  · obtain ⟨r, h1, h2, rfl⟩ := leftOf_mem hy
    rw [nextL_first]; exact h.2 r h1
theorem ordR_done {H : HH} {q : Query} {e : Evt} {l : List Run} {i : Int} (h : ordR l i) :
    (doneOf H q e i l).Pairwise (fun a b => a.start < b.start) ∧ ∀ m ∈ doneOf H q e i l, m.fin = i ∧ m.start < i := by
  refine ⟨?_, fun m hm => ?_⟩
  · refine List.pairwise_filterMap.2 (h.1.imp (fun {a b} hab y hy z hz => ?_))
    split at hy
    · split at hz
      · injection hy with hy; injection hz with hz
        rw [← hy, ← hz]
        show (nextL H q a e).1.first < (nextL H q b e).1.first
        rw [nextL_first, nextL_first]; exact hab
      · cases hz
    · cases hy
  · obtain ⟨r, h1, h2, rfl⟩ := doneOf_mem hm
    refine ⟨rfl, ?_⟩
    show (nextL H q r e).1.first < i
    rw [nextL_first]; exact h.2 r h1
theorem pw_snoc {α : Type} {R : α → α → Prop} {l : List α} {x : α} (h : l.Pairwise R) (h2 : ∀ y ∈ l, R y x) : (l ++ [x]).Pairwise R := by
  rw [List.pairwise_append]
  exact ⟨h, by simp, fun a ha b hb => by have : b = x := by simpa using hb
                                         subst this; exact h2 a ha⟩
/-- what is told of an event ends there, in order; so do runs stand -/
theorem feedL_order {H : HH} {s : StoreL} {i : Int} (h : ordR s.r i) (e : Evt) :
    ((feedL H s e i).2.Pairwise (fun a b => a.start < b.start) ∧ ∀ m ∈ (feedL H s e i).2, m.fin = i ∧ m.start ≤ i) ∧
      ((feedL H s e i).1.r.Pairwise (fun a b => a.first < b.first) ∧ ∀ r ∈ (feedL H s e i).1.r, r.first ≤ i) ∧ ordR (feedL H s e i).1.r (i + 1) := by
  have key : ∀ l : List Run, l.Pairwise (fun a b => a.first < b.first) → (∀ r ∈ l, r.first ≤ i) → (l.Pairwise (fun a b => a.first < b.first) ∧ ∀ r ∈ l, r.first ≤ i) ∧ ordR l (i + 1) :=
    fun l h1 h2 => ⟨⟨h1, h2⟩, h1, fun r hr => by have := h2 r hr; omega⟩
  obtain ⟨d1, d2⟩ := ordR_done (H := H) (q := s.q) (e := e) h
  obtain ⟨g1, g2⟩ := ordR_left (H := H) (q := s.q) (e := e) h
  have d3 : ∀ m ∈ doneOf H s.q e i s.r, m.fin = i ∧ m.start ≤ i := fun m hm => ⟨(d2 m hm).1, by have := (d2 m hm).2; omega⟩
  have g3 : ∀ r ∈ leftOf H s.q e s.r, r.first ≤ i := fun r hr => by have := g2 r hr; omega
  unfold feedL
  split
  · exact ⟨⟨by simp, by simp⟩, key _ h.1 (fun r hr => by have := h.2 r hr; omega)⟩
  split
  · rename_i _ c
    have hf : (beginL H s.q e i).1.first = i := beginL_first (by omega)
    refine ⟨⟨pw_snoc d1 (fun y hy => ?_), fun m hm => ?_⟩, key _ g1 g3⟩
    · show y.start < (beginL H s.q e i).1.first
      rw [hf]; exact (d2 y hy).2
    · rcases List.mem_append.1 hm with hm | hm
      · exact d3 m hm
      · have : m = doneM i (beginL H s.q e i).1 := by simpa using hm
        subst this
        refine ⟨rfl, ?_⟩
        show (beginL H s.q e i).1.first ≤ i
        omega
  split
  · exact ⟨⟨d1, d3⟩, key [] (by simp) (by simp)⟩
  split
  · rename_i _ _ _ c
    have hf : (beginL H s.q e i).1.first = i := beginL_first (by omega)
    refine ⟨⟨d1, d3⟩, key _ (pw_snoc g1 (fun y hy => ?_)) (fun r hr => ?_)⟩
    · rw [hf]; exact g2 y hy
    · rcases List.mem_append.1 hr with hr | hr
      · exact g3 r hr
      · have : r = (beginL H s.q e i).1 := by simpa using hr
        subst this; omega
  · exact ⟨⟨d1, d3⟩, key _ g1 g3⟩
/-- behind events, from a number on -/
def fedL (H : HH) : StoreL → List Evt → Int → StoreL × Nat
  | s, [], _ => (s, 0)
  | s, e :: l, i => ((fedL H (feedL H s e i).1 l (i + 1)).1, (feedL H s e i).2.length + (fedL H (feedL H s e i).1 l (i + 1)).2)
theorem fedL_append (H : HH) : ∀ (a b : List Evt) (s : StoreL) (i : Int), fedL H s (a ++ b) i = ((fedL H (fedL H s a i).1 b (i + a.length)).1, (fedL H s a i).2 + (fedL H (fedL H s a i).1 b (i + a.length)).2)
  | [], b, s, i => by
    show fedL H s b i = _
    simp [fedL]
  | e :: a, b, s, i => by
    have e1 : i + ((e :: a).length : Int) = (i + 1) + (a.length : Int) := by simp only [List.length_cons]; omega
    show ((fedL H (feedL H s e i).1 (a ++ b) (i + 1)).1, (feedL H s e i).2.length + (fedL H (feedL H s e i).1 (a ++ b) (i + 1)).2) = _
    rw [fedL_append H a b, e1]
    simp only [fedL, Nat.add_assoc]
theorem fedL_snoc (H : HH) (a : List Evt) (e : Evt) (s : StoreL) (i : Int) : fedL H s (a ++ [e]) i = ((feedL H (fedL H s a i).1 e (i + a.length)).1, (fedL H s a i).2 + (feedL H (fedL H s a i).1 e (i + a.length)).2.length) := by
  rw [fedL_append]; simp [fedL]
theorem fedL_q (H : HH) : ∀ (l : List Evt) (s : StoreL) (i : Int), (fedL H s l i).1.q = s.q
  | [], s, i => rfl
  | e :: l, s, i => by
    show (fedL H (feedL H s e i).1 l (i + 1)).1.q = _
    rw [fedL_q H l, feedL_q]
theorem fedL_len (H : HH) : ∀ (l : List Evt) (s : StoreL) (i : Int), (fedL H s l i).2 ≤ 6 * l.length
  | [], s, i => by simp [fedL]
  | e :: l, s, i => by
    have := fedL_len H l (feedL H s e i).1 (i + 1)
    have := feedL_len H s e i
    simp only [fedL, List.length_cons]
    omega
theorem fm_self {α : Type} (f : α → Option α) : ∀ l : List α, (∀ x ∈ l, f x = some x) → l.filterMap f = l
  | [], _ => rfl
  | x :: l, h => by rw [List.filterMap_cons, h x (by simp)]; dsimp only; rw [fm_self f l (fun y hy => h y (by simp [hy]))]
/-- an event that no step takes, ahead of all runs, or at their time, changes no store -/
theorem feedL_other {H : HH} {s : StoreL} (hq : Made s.q) {e : Evt} {at' : Int} (he : ∀ r ∈ s.r, e.at_ ≤ r.at_)
    (hn : ∀ i : Int, 0 ≤ i → i < s.q.steps.length → takesL H (stp s.q.steps i) e = false ∧ forbidsL H (stp s.q.steps i) e = false) : feedL H s e at' = (s, []) := by
  by_cases h : ¬ mayS s ∨ s.over ≠ -1
  · exact feedL_over h
  have hs : mayS s := by
    by_cases h2 : mayS s
    · exact h2
    · exact absurd (.inl h2) h
  have hr : ∀ r ∈ s.r, nextL H s.q r e = (r, 0) := by
    intro r hr
    obtain ⟨h0, h1, _⟩ := hs.2.1 r hr
    have := he r hr
    by_cases ht : e.at_ = r.at_
    · exact next_other h0 h1 hq.w0 ht hn
    · unfold nextL; rw [if_neg (by omega), if_pos (by omega)]
  have l1 : leftOf H s.q e s.r = s.r := by
    exact fm_self _ _ (fun r hr' => by rw [hr r hr']; rfl)
  have l2 : doneOf H s.q e at' s.r = [] := by
    unfold doneOf
    rw [List.filterMap_eq_nil_iff]
    intro r hr'
    rw [hr r hr']; rfl
  unfold feedL
  rw [if_neg h, begin_other hn, if_neg (by decide), if_neg (by rintro ⟨h, _⟩; cases h), if_neg (by decide), l1, l2]
/-- a run as they are behind events -/
def RunOk (q : Query) (r : Run) : Prop := (∃ t, RunInv q r t) ∧ fateL q r = 0
theorem RunOk.may {q : Query} (hq : Made q) {r : Run} (h : RunOk q r) : mayR q r ∧ r.many ≤ 4 := by
  obtain ⟨⟨t, h⟩, hf⟩ := h
  have ha := hq.st q.aggStep hq.s0 hq.s1
  have hs := hq.st r.step h.s0 h.s1
  have n0 := h.n0
  have n1 := h.n1
  have : 0 ≤ r.many ∧ r.many ≤ 4 := by
    rcases Int.lt_trichotomy r.step q.aggStep with g | g | g
    · rw [h.m0 g]; omega
    · rw [h.m1 g]; omega
    · have := h.m2 g; omega
  exact ⟨⟨h.s0, h.s1, this.1, n0, n1, hf⟩, this.2⟩
theorem RunOk_next {H : HH} {q : Query} (hq : Made q) {r : Run} (h : RunOk q r) {e : Evt} (h2 : (nextL H q r e).2 = 0) : RunOk q (nextL H q r e).1 := by
  obtain ⟨⟨t, h⟩, hf⟩ := h
  refine ⟨⟨_, RunInv_next hq h e (by omega)⟩, ?_⟩
  rcases nextL_cases H q r e h.s0 h.s1 with c | c | ⟨_, _, c⟩ | ⟨_, c⟩
  · rw [c] at h2; cases h2
  · rw [c]; exact hf
  · rw [c] at h2 ⊢; exact h2
  · rw [c] at h2 ⊢; exact h2
theorem RunOk_begin {H : HH} {q : Query} (hq : Made q) {e : Evt} {at' : Int} (h : (beginL H q e at').2 = 0) : RunOk q (beginL H q e at').1 := by
  refine ⟨⟨_, RunInv_begin hq (by omega)⟩, ?_⟩
  rcases beginL_may (H := H) hq (e := e) (at' := at') with c | ⟨c, _⟩
  · omega
  · omega
theorem nextL_at (H : HH) (q : Query) (r : Run) (e : Evt) : (nextL H q r e).1.at_ = r.at_ := by
  by_cases h : r.step < 0 ∨ r.step ≥ q.steps.length
  · unfold nextL; rw [if_pos h]
  · rcases nextL_cases H q r e (by omega) (by omega) with c | c | ⟨_, _, c⟩ | ⟨_, c⟩ <;> rw [c]
    · exact (toldL_keep q { r with step := r.step + 1, n := 1 } e.v).2.1
    · exact (toldL_keep q { r with n := w64 (r.n + 1) } e.v).2.1
/-- a store as they are behind events, the last one at a time -/
structure StInv (q : Query) (s : StoreL) (t : Int) : Prop where
  qq : s.q = q
  len : s.r.length ≤ 5
  over : s.over = -1 ∨ s.over ≥ 0 ∧ s.r.length = 0
  run : ∀ r ∈ s.r, RunOk q r ∧ 0 ≤ r.at_ ∧ r.at_ ≤ t ∧ t - r.at_ ≤ q.within
theorem StInv.may {q : Query} (hq : Made q) {s : StoreL} {t : Int} (h : StInv q s t) : mayS s := ⟨h.len, fun r hr => by rw [h.qq]; exact ((h.run r hr).1.may hq).1, h.over⟩
theorem StInv_feed {H : HH} {q : Query} (hq : Made q) {s : StoreL} {t : Int} (h : StInv q s t) {e : Evt} (h0 : 0 ≤ e.at_) (h1 : t ≤ e.at_) (h2 : e.at_ ≤ 1125899906842624) (at' : Int) : StInv q (feedL H s e at').1 e.at_ := by
  have hm := h.may hq
  obtain ⟨e1, e2, e3, e4⟩ := h
  by_cases ho : s.over = -1
  case neg =>
    rw [feedL_over (.inr ho)]
    refine ⟨e1, e2, e3, ?_⟩
    rcases e3 with e3 | ⟨_, e3⟩
    · exact absurd e3 ho
    · rw [List.eq_nil_of_length_eq_zero e3]; simp
  have hl : ∀ r ∈ leftOf H s.q e s.r, RunOk q r ∧ 0 ≤ r.at_ ∧ r.at_ ≤ e.at_ ∧ e.at_ - r.at_ ≤ q.within := by
    intro y hy
    obtain ⟨r, g1, g2, rfl⟩ := leftOf_mem hy
    obtain ⟨g3, g4, g5, g6⟩ := e4 r g1
    rw [e1] at g2 ⊢
    refine ⟨RunOk_next hq g3 g2, ?_⟩
    rw [nextL_at]
    refine ⟨g4, by omega, ?_⟩
    obtain ⟨⟨_, gi⟩, _⟩ := g3
    have := (next_within (H := H) (e := e) gi.s0 gi.s1 hq.w0 (by have := hq.w1; omega) g4 (by omega) (by omega)).2.1 (by omega)
    by_cases g7 : e.at_ > r.at_ + q.within
    · rw [this g7] at g2; cases g2
    · omega
  have l1 := leftOf_len H s.q e s.r
  unfold feedL
  rw [if_neg (by intro hh; rcases hh with hh | hh; exact hh hm; exact hh ho)]
  split
  · exact ⟨e1, by dsimp only; omega, .inl ho, hl⟩
  split
  · exact ⟨e1, by simp, .inr ⟨by dsimp only; omega, rfl⟩, by simp⟩
  split
  · rename_i _ c2 c3
    refine ⟨e1, ?_, .inl ho, fun y hy => ?_⟩
    · simp only [List.length_append, List.length_cons, List.length_nil]
      have : (leftOf H s.q e s.r).length ≠ 5 := fun h2 => c2 ⟨c3, h2⟩
      omega
    · rcases List.mem_append.1 hy with hy | hy
      · exact hl y hy
      · have : y = (beginL H s.q e at').1 := by simpa using hy
        subst this
        rw [e1] at c3 ⊢
        have hw := hq.w0
        rcases beginL_may (H := H) hq (e := e) (at' := at') with c | ⟨_, _, c, _⟩
        · omega
        · exact ⟨RunOk_begin hq c3, by omega, by omega, by omega⟩
  · exact ⟨e1, by dsimp only; omega, .inl ho, hl⟩
theorem StInv_fed {H : HH} {q : Query} (hq : Made q) : ∀ (l : List Evt) {s : StoreL} {t : Int} (i : Int), StInv q s t → (∀ e ∈ l, 0 ≤ e.at_ ∧ e.at_ ≤ 1125899906842624) → (t :: l.map (·.at_)).Pairwise (· ≤ ·) →
    StInv q (fedL H s l i).1 ((l.map (·.at_)).getLastD t)
  | [], s, t, i, h, _, _ => h
  | e :: l, s, t, i, h, h1, h2 => by
    have hp := List.pairwise_cons.1 h2
    have a1 := h1 e (by simp)
    have := StInv_feed (H := H) hq h a1.1 (hp.1 e.at_ (by simp)) a1.2 i
    have := StInv_fed (H := H) hq l (i + 1) this (fun x hx => h1 x (by simp [hx])) hp.2
    rw [List.map_cons, List.getLastD_cons]
    exact this
end Go.Eng
