/- Subscriptions in plain words: what is done to one, and what is so of that. -/
import Derived.Test.YtbjeikmkngcjlaaZM2
set_option linter.unusedVariables false
set_option linter.unusedSimpArgs false
namespace Go.Eng
open Go Go.Eng
structure SubL where
  id : Int
  sess : Int
  s : StoreL
  ack : Int
  sent : Int
  m : List Mat
  hold : Bool
  fin : Int
  told : Bool
structure NoteL where
  sub : Int
  seq : Int
  fin : Int
  m : Mat
def rMayL (a s : Int) (m : List Mat) : Prop := 0 ≤ a ∧ (m.length : Int) ≤ 6 ∧ a + m.length ≤ 1099511627776 ∧ a ≤ s ∧ s ≤ a + m.length
instance (a s : Int) (m : List Mat) : Decidable (rMayL a s m) := by unfold rMayL; infer_instance
def mayU (u : SubL) : Prop := 0 ≤ u.id ∧ 0 ≤ u.sess ∧ mayS u.s ∧ rMayL u.ack u.sent u.m ∧
  ((u.fin = 0 ∧ u.s.over = -1 ∧ u.told = false) ∨ ((u.fin = 1 ∧ u.s.over ≠ -1 ∨ u.fin = 2) ∧ u.s.r.length = 0 ∧ (u.told = false ∨ u.sent = u.ack + u.m.length)))
instance (u : SubL) : Decidable (mayU u) := by unfold mayU; infer_instance
def putM (a s : Int) : List Mat → List Mat → Bool × List Mat
  | m, [] => (true, m)
  | m, x :: l => if rMayL a s m ∧ m.length ≠ 6 ∧ a + m.length ≠ 1099511627776 then putM a s (m ++ [x]) l else (false, m)
def feedU (H : HH) (u : SubL) (e : Evt) (at' : Int) : SubL :=
  if ¬ mayU u ∨ u.fin ≠ 0 then u
  else if (putM u.ack u.sent u.m (feedL H u.s e at').2).1 = false then
    { u with s := ⟨(feedL H u.s e at').1.q, [], (feedL H u.s e at').1.over⟩, m := (putM u.ack u.sent u.m (feedL H u.s e at').2).2.take (u.sent - u.ack).toNat, fin := 2 }
  else { u with s := (feedL H u.s e at').1, m := (putM u.ack u.sent u.m (feedL H u.s e at').2).2, fin := if (feedL H u.s e at').1.over ≠ -1 then 1 else 0 }
def noNote : NoteL := ⟨0, 0, 0, default⟩
def giveU (u : SubL) : SubL × NoteL × Bool :=
  if ¬ mayU u ∨ u.hold = true then (u, noNote, false)
  else if u.sent ≠ u.ack + u.m.length then ({ u with sent := u.sent + 1 }, ⟨u.id, u.sent + 1, 0, u.m.getD (u.sent - u.ack).toNat default⟩, true)
  else if u.fin = 0 ∨ u.told = true then (u, noNote, false)
  else ({ u with told := true }, ⟨u.id, 0, u.fin, default⟩, true)
def whyL (a s : Int) (m : List Mat) (x : Int) : Int := if rMayL a s m then (if x < a ∨ s < x then 9 else 0) else 1
def ackL (u : SubL) (x : Int) : SubL := { u with ack := x, m := u.m.drop (x - u.ack).toNat }
def goL (u : SubL) (x : Int) : SubL := { u with sent := x, hold := false, told := false }
def holdL (u : SubL) : SubL := { u with hold := true }
theorem whyL_zero {a s : Int} {m : List Mat} {x : Int} : whyL a s m x = 0 ↔ rMayL a s m ∧ a ≤ x ∧ x ≤ s := by
  unfold whyL
  split
  · rename_i h
    split
    · constructor
      · intro h; cases h
      · intro h; omega
    · exact ⟨fun _ => ⟨h, by omega⟩, fun _ => rfl⟩
  · rename_i h
    exact ⟨(by intro h; cases h), fun h2 => absurd h2.1 h⟩
theorem putM_room {a s : Int} : ∀ (l m : List Mat), rMayL a s m → m.length + l.length ≤ 6 → a + m.length + l.length ≤ 1099511627776 → putM a s m l = (true, m ++ l)
  | [], m, _, _, _ => by simp [putM]
  | x :: l, m, h, h1, h2 => by
    simp only [List.length_cons] at h1 h2
    obtain ⟨g1, g2, g3, g4, g5⟩ := h
    unfold putM
    rw [if_pos ⟨⟨g1, g2, g3, g4, g5⟩, by omega, by omega⟩, putM_room l (m ++ [x])]
    · simp
    · refine ⟨g1, ?_, ?_, g4, ?_⟩ <;> simp only [List.length_append, List.length_cons, List.length_nil] <;> omega
    · simp only [List.length_append, List.length_cons, List.length_nil]; omega
    · simp only [List.length_append, List.length_cons, List.length_nil]; omega
theorem putM_full {a s : Int} : ∀ (l m : List Mat), rMayL a s m → (m.length + l.length > 6 ∨ a + m.length + l.length > 1099511627776) → ∃ k, putM a s m l = (false, m ++ l.take k)
  | [], m, h, h1 => by
    simp only [List.length_nil] at h1
    obtain ⟨g1, g2, g3, g4, g5⟩ := h
    omega
  | x :: l, m, h, h1 => by
    simp only [List.length_cons] at h1
    obtain ⟨g1, g2, g3, g4, g5⟩ := h
    unfold putM
    by_cases c : rMayL a s m ∧ m.length ≠ 6 ∧ a + m.length ≠ 1099511627776
    · rw [if_pos c]
      obtain ⟨k, hk⟩ := putM_full (a := a) (s := s) l (m ++ [x]) (by
        refine ⟨g1, ?_, ?_, g4, ?_⟩ <;> simp only [List.length_append, List.length_cons, List.length_nil] <;> omega) (by
        simp only [List.length_append, List.length_cons, List.length_nil]; omega)
      exact ⟨k + 1, by rw [hk]; simp⟩
    · rw [if_neg c]; exact ⟨0, by simp⟩
theorem putM_cases {a s : Int} {l m : List Mat} (h : rMayL a s m) : (m.length + l.length ≤ 6 ∧ a + m.length + l.length ≤ 1099511627776 ∧ putM a s m l = (true, m ++ l)) ∨
    ((m.length + l.length > 6 ∨ a + m.length + l.length > 1099511627776) ∧ (putM a s m l).1 = false ∧ (putM a s m l).2.take (s - a).toNat = m.take (s - a).toNat) := by
  by_cases c : m.length + l.length ≤ 6 ∧ a + m.length + l.length ≤ 1099511627776
  · exact .inl ⟨c.1, c.2, putM_room l m h c.1 c.2⟩
  · right
    have c' : m.length + l.length > 6 ∨ a + m.length + l.length > 1099511627776 := by omega
    obtain ⟨k, hk⟩ := putM_full (a := a) (s := s) l m h c'
    refine ⟨c', by rw [hk], ?_⟩
    rw [hk]
    obtain ⟨g1, g2, g3, g4, g5⟩ := h
    exact List.take_append_of_le_length (by omega)
theorem rMayL_take {a s : Int} {m : List Mat} (h : rMayL a s m) : rMayL a s (m.take (s - a).toNat) ∧ a + ((m.take (s - a).toNat).length : Int) = s := by
  obtain ⟨g1, g2, g3, g4, g5⟩ := h
  have e : ((m.take (s - a).toNat).length : Int) = s - a := by rw [List.length_take]; omega
  exact ⟨⟨g1, by omega, by omega, g4, by omega⟩, by omega⟩
theorem mayS_nil {s : StoreL} (h : mayS s) : mayS ⟨s.q, [], s.over⟩ := ⟨by simp, by simp, by rcases h.2.2 with h | h; exact .inl h; exact .inr ⟨h.1, rfl⟩⟩
theorem giveU_may {u : SubL} (h : mayU u) : mayU (giveU u).1 ∧ (giveU u).1.ack = u.ack ∧ (giveU u).1.sent ≥ u.sent := by
  unfold giveU
  split
  · exact ⟨h, rfl, Int.le_refl _⟩
  rename_i c0
  obtain ⟨h1, h2, h3, ⟨g1, g2, g3, g4, g5⟩, h5⟩ := h
  split
  · rename_i c
    refine ⟨⟨h1, h2, h3, ⟨g1, g2, g3, by dsimp only; omega, by dsimp only; omega⟩, ?_⟩, rfl, by dsimp only; omega⟩
    rcases h5 with h5 | ⟨h5, h6, h7 | h7⟩
    · exact .inl h5
    · exact .inr ⟨h5, h6, .inl h7⟩
    · exact absurd h7 c
  rename_i c
  split
  · exact ⟨⟨h1, h2, h3, ⟨g1, g2, g3, g4, g5⟩, h5⟩, rfl, Int.le_refl _⟩
  rename_i c2
  refine ⟨⟨h1, h2, h3, ⟨g1, g2, g3, g4, g5⟩, ?_⟩, rfl, Int.le_refl _⟩
  rcases h5 with h5 | ⟨h5, h6, h7⟩
  · exact absurd (.inl h5.1) c2
  · refine .inr ⟨h5, h6, .inr ?_⟩
    by_cases c3 : u.sent = u.ack + u.m.length
    · exact c3
    · exact absurd c3 c
theorem feedU_may {H : HH} {u : SubL} (hq : Made u.s.q) (h : mayU u) (hm : ∀ r ∈ u.s.r, r.many ≤ 1099511627776) (e : Evt) (at' : Int) : mayU (feedU H u e at') := by
  unfold feedU
  split
  · exact h
  rename_i c0
  obtain ⟨h1, h2, h3, h4, h5⟩ := h
  have hf := feedL_room (H := H) hq h3 hm e at'
  have h6 : u.told = false := by
    rcases h5 with h5 | h5
    · exact h5.2.2
    · have : u.fin = 0 := by
        by_cases c : u.fin = 0
        · exact c
        · exact absurd (.inr c) c0
      omega
  rcases putM_cases (l := (feedL H u.s e at').2) h4 with ⟨p1, p2, p3⟩ | ⟨p1, p2, p3⟩
  · rw [p3]
    rw [if_neg (by simp)]
    obtain ⟨g1, g2, g3, g4, g5⟩ := h4
    refine ⟨h1, h2, hf.1, ⟨g1, ?_, ?_, g4, ?_⟩, ?_⟩
    · simp only [List.length_append]; omega
    · simp only [List.length_append]; omega
    · simp only [List.length_append]; omega
    · by_cases c : (feedL H u.s e at').1.over = -1
      · exact .inl ⟨by simp [c], c, h6⟩
      · refine .inr ⟨.inl ⟨by simp [c], c⟩, ?_, .inl h6⟩
        show (feedL H u.s e at').1.r.length = 0
        rw [hf.2.2.2.2 c]; rfl
  · rw [if_pos p2, p3]
    obtain ⟨k1, k2⟩ := rMayL_take h4
    exact ⟨h1, h2, mayS_nil hf.1, k1, .inr ⟨.inr rfl, rfl, .inl h6⟩⟩
theorem feedU_keep (H : HH) (u : SubL) (e : Evt) (at' : Int) : (feedU H u e at').ack = u.ack ∧ (feedU H u e at').sent = u.sent ∧ (feedU H u e at').hold = u.hold := by
  unfold feedU
  repeat' split
  all_goals exact ⟨rfl, rfl, rfl⟩
theorem ackL_may {u : SubL} (h : mayU u) {x : Int} (hx : whyL u.ack u.sent u.m x = 0) : mayU (ackL u x) := by
  obtain ⟨h1, h2, h3, ⟨g1, g2, g3, g4, g5⟩, h5⟩ := h
  obtain ⟨_, k1, k2⟩ := whyL_zero.1 hx
  have e : ((u.m.drop (x - u.ack).toNat).length : Int) = u.m.length - (x - u.ack) := by rw [List.length_drop]; omega
  refine ⟨h1, h2, h3, ⟨by show (0 : Int) ≤ x; omega, ?_, ?_, k2, ?_⟩, ?_⟩
  · show ((u.m.drop (x - u.ack).toNat).length : Int) ≤ 6; omega
  · show x + ((u.m.drop (x - u.ack).toNat).length : Int) ≤ _; omega
  · show u.sent ≤ x + ((u.m.drop (x - u.ack).toNat).length : Int); omega
  · rcases h5 with h5 | ⟨h5, h6, h7 | h7⟩
    · exact .inl h5
    · exact .inr ⟨h5, h6, .inl h7⟩
    · refine .inr ⟨h5, h6, .inr ?_⟩
      show u.sent = x + ((u.m.drop (x - u.ack).toNat).length : Int); omega
theorem goL_may {u : SubL} (h : mayU u) {x : Int} (hx : whyL u.ack u.sent u.m x = 0) : mayU (goL u x) := by
  obtain ⟨h1, h2, h3, ⟨g1, g2, g3, g4, g5⟩, h5⟩ := h
  obtain ⟨_, k1, k2⟩ := whyL_zero.1 hx
  refine ⟨h1, h2, h3, ⟨g1, g2, g3, k1, by show x ≤ u.ack + u.m.length; omega⟩, ?_⟩
  rcases h5 with h5 | ⟨h5, h6, h7⟩
  · exact .inl ⟨h5.1, h5.2.1, rfl⟩
  · exact .inr ⟨h5, h6, .inl rfl⟩
theorem holdL_may {u : SubL} (h : mayU u) : mayU (holdL u) := h
theorem feedU_evicts {H : HH} {u : SubL} (h : mayU u) (h0 : u.fin = 0) (e : Evt) (at' : Int) :
    (u.m.length + (feedL H u.s e at').2.length ≤ 6 ∧ u.ack + u.m.length + (feedL H u.s e at').2.length ≤ 1099511627776 ∧ (feedU H u e at').fin ≠ 2 ∧ (feedU H u e at').m.length = u.m.length + (feedL H u.s e at').2.length) ∨
    ((u.m.length + (feedL H u.s e at').2.length > 6 ∨ u.ack + u.m.length + (feedL H u.s e at').2.length > 1099511627776) ∧ (feedU H u e at').fin = 2 ∧ (feedU H u e at').s.r = [] ∧
      (feedU H u e at').ack = u.ack ∧ (feedU H u e at').sent = u.sent ∧ u.ack + ((feedU H u e at').m.length : Int) = u.sent ∧ (feedU H u e at').m = u.m.take (u.sent - u.ack).toNat) := by
  unfold feedU
  rw [if_neg (show ¬ (¬ mayU u ∨ u.fin ≠ 0) by intro c; rcases c with c | c; exact c h; exact c h0)]
  rcases putM_cases (l := (feedL H u.s e at').2) h.2.2.2.1 with ⟨p1, p2, p3⟩ | ⟨p1, p2, p3⟩
  · left
    rw [p3]
    rw [if_neg (by simp)]
    refine ⟨p1, p2, ?_, by simp⟩
    dsimp only
    split <;> decide
  · right
    rw [if_pos p2]
    refine ⟨p1, rfl, rfl, rfl, rfl, ?_, p3⟩
    show u.ack + ((List.take _ _ : List Mat).length : Int) = u.sent
    rw [p3]
    exact (rMayL_take h.2.2.2.1).2
theorem giveU_next {u : SubL} (h : mayU u) (h1 : u.hold = false) (h2 : u.sent ≠ u.ack + u.m.length) :
    giveU u = ({ u with sent := u.sent + 1 }, ⟨u.id, u.sent + 1, 0, u.m.getD (u.sent - u.ack).toNat default⟩, true) := by
  unfold giveU
  rw [if_neg (by intro c; rcases c with c | c; exact c h; rw [h1] at c; cases c), if_pos h2]
theorem giveU_last {u : SubL} (h : mayU u) (h1 : u.hold = false) (h2 : u.sent = u.ack + u.m.length) :
    giveU u = if u.fin = 0 ∨ u.told = true then (u, noNote, false) else ({ u with told := true }, ⟨u.id, 0, u.fin, default⟩, true) := by
  unfold giveU
  rw [if_neg (by intro c; rcases c with c | c; exact c h; rw [h1] at c; cases c), if_neg (by omega)]
end Go.Eng
