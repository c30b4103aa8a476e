/- What is given, time after time: in plain words. -/
import Derived.Test.YtbjeikmkngcjlaaZM3
set_option linter.unusedVariables false
set_option linter.unusedSimpArgs false
namespace Go.Eng
open Go Go.Eng
def ovAt (u : SubL) (i : Nat) : SubL := if u.sent + i ≤ u.ack + u.m.length then { u with sent := u.sent + i } else { u with sent := u.ack + u.m.length, told := true }
theorem mayU_sent {u : SubL} (h : mayU u) {x : Int} (h1 : u.ack ≤ x) (h2 : x ≤ u.ack + u.m.length) (h3 : u.told = false) : mayU { u with sent := x } := by
  obtain ⟨g1, g2, g3, ⟨k1, k2, k3, k4, k5⟩, g5⟩ := h
  refine ⟨g1, g2, g3, ⟨k1, k2, k3, h1, h2⟩, ?_⟩
  rcases g5 with g5 | ⟨g5, g6, g7⟩
  · exact .inl g5
  · exact .inr ⟨g5, g6, .inl h3⟩
theorem mayU_told {u : SubL} (h : mayU u) (h1 : u.fin ≠ 0) : mayU { u with sent := u.ack + u.m.length, told := true } := by
  obtain ⟨g1, g2, g3, ⟨k1, k2, k3, k4, k5⟩, g5⟩ := h
  refine ⟨g1, g2, g3, ⟨k1, k2, k3, by dsimp only; omega, Int.le_refl _⟩, ?_⟩
  rcases g5 with g5 | ⟨g5, g6, g7⟩
  · exact absurd g5.1 h1
  · exact .inr ⟨g5, g6, .inr rfl⟩
def ovN (u : SubL) : Nat := (u.ack + u.m.length - u.sent).toNat
theorem ovN_le {u : SubL} (h : mayU u) : ovN u ≤ 6 := by
  obtain ⟨g1, g2, g3, ⟨k1, k2, k3, k4, k5⟩, g5⟩ := h
  unfold ovN; omega
theorem ov_give {u : SubL} (h : mayU u) (h1 : u.fin ≠ 0) (h2 : u.hold = false) (h3 : u.told = false) {i : Nat} (hi : i ≤ ovN u) :
    mayU (ovAt u i) ∧ (giveU (ovAt u i)).1 = ovAt u (i + 1) ∧ (giveU (ovAt u i)).2.2 = true ∧ ((giveU (ovAt u i)).2.1.fin ≠ 0 ↔ i = ovN u) := by
  have hr := h.2.2.2.1
  obtain ⟨k1, k2, k3, k4, k5⟩ := hr
  have e : ((ovN u : Nat) : Int) = u.ack + u.m.length - u.sent := by unfold ovN; omega
  have e1 : ovAt u i = { u with sent := u.sent + i } := by unfold ovAt; rw [if_pos (by omega)]
  have hm : mayU { u with sent := u.sent + (i : Int) } := mayU_sent h (by omega) (by omega) h3
  rw [e1]
  refine ⟨hm, ?_⟩
  by_cases c : i = ovN u
  · have es : u.sent + (i : Int) = u.ack + u.m.length := by omega
    rw [giveU_last hm h2 es, if_neg (by rintro (hh | hh); exact h1 hh; rw [show ({ u with sent := u.sent + (i : Int) } : SubL).told = u.told from rfl, h3] at hh; cases hh)]
    refine ⟨?_, rfl, fun _ => c, fun _ => h1⟩
    unfold ovAt
    rw [if_neg (by omega)]
    show ({ u with sent := u.sent + (i : Int), told := true } : SubL) = _
    rw [es]
  · have es : u.sent + (i : Int) ≠ u.ack + u.m.length := by omega
    rw [giveU_next hm h2 es]
    refine ⟨?_, rfl, fun hh => absurd rfl hh, fun hh => absurd hh c⟩
    unfold ovAt
    rw [if_pos (by omega)]
    show ({ u with sent := u.sent + (i : Int) + 1 } : SubL) = { u with sent := u.sent + ((i + 1 : Nat) : Int) }
    have : u.sent + (i : Int) + 1 = u.sent + ((i + 1 : Nat) : Int) := by omega
    rw [this]
theorem ov_end {u : SubL} (h : mayU u) (h1 : u.fin ≠ 0) (h2 : u.hold = false) : ovAt u (ovN u + 1) = { u with sent := u.ack + u.m.length, told := true } ∧ giveU (ovAt u (ovN u + 1)) = (ovAt u (ovN u + 1), noNote, false) := by
  have hr := h.2.2.2.1
  obtain ⟨k1, k2, k3, k4, k5⟩ := hr
  have e : ((ovN u : Nat) : Int) = u.ack + u.m.length - u.sent := by unfold ovN; omega
  have e1 : ovAt u (ovN u + 1) = { u with sent := u.ack + u.m.length, told := true } := by unfold ovAt; rw [if_neg (by omega)]
  refine ⟨e1, ?_⟩
  rw [e1, giveU_last (mayU_told h h1) h2 rfl, if_pos (.inr rfl)]
theorem told_give {u : SubL} (h : mayU u) (h1 : u.fin ≠ 0) (h2 : u.hold = false) (h3 : u.told = true) : giveU u = (u, noNote, false) := by
  have es : u.sent = u.ack + u.m.length := by
    rcases h.2.2.2.2 with g | ⟨_, _, g | g⟩
    · exact absurd g.1 h1
    · rw [g] at h3; cases h3
    · exact g
  rw [giveU_last h h2 es, if_pos (.inr h3)]
theorem feed_over {H : HH} {u : SubL} (h1 : u.fin ≠ 0) (e : Evt) (at' : Int) : feedU H u e at' = u := by unfold feedU; rw [if_pos (.inr h1)]
theorem anew_give {u : SubL} (h : mayU u) {x : Int} (hx : whyL u.ack u.sent u.m x = 0) {i : Nat} (h1 : x ≤ u.ack + i) (hi : i < u.m.length) :
    giveU { goL u x with sent := u.ack + i } = ({ goL u x with sent := u.ack + (i + 1 : Nat) }, ⟨u.id, u.ack + i + 1, 0, u.m[i]⟩, true) := by
  obtain ⟨hr, k1, k2⟩ := whyL_zero.1 hx
  have hm := goL_may h hx
  have hm2 : mayU { goL u x with sent := u.ack + (i : Int) } := mayU_sent hm (by show u.ack ≤ _; omega) (by show u.ack + (i : Int) ≤ u.ack + (u.m.length : Int); omega) rfl
  rw [giveU_next hm2 rfl (by show u.ack + (i : Int) ≠ u.ack + (u.m.length : Int); omega)]
  have e1 : u.ack + (i : Int) + 1 = u.ack + ((i + 1 : Nat) : Int) := by omega
  have e2 : (u.ack + (i : Int) - u.ack).toNat = i := by omega
  show (({ goL u x with sent := u.ack + (i : Int) + 1 } : SubL), (NoteL.mk u.id (u.ack + i + 1) 0 (u.m.getD (u.ack + (i : Int) - u.ack).toNat default)), true) = _
  rw [e2, getD_of _ _ _ hi]
  simp only [e1]
theorem anew_end {u : SubL} (h : mayU u) {x : Int} (hx : whyL u.ack u.sent u.m x = 0) :
    (giveU { goL u x with sent := u.ack + (u.m.length : Nat) }).2 = if u.fin = 0 then (noNote, false) else (⟨u.id, 0, u.fin, default⟩, true) := by
  obtain ⟨hr, k1, k2⟩ := whyL_zero.1 hx
  obtain ⟨r1, r2, r3, r4, r5⟩ := hr
  have hm := goL_may h hx
  have hm2 : mayU { goL u x with sent := u.ack + (u.m.length : Int) } := mayU_sent hm (by show u.ack ≤ _; omega) (Int.le_refl _) rfl
  rw [giveU_last hm2 rfl rfl]
  by_cases c : u.fin = 0
  · rw [if_pos (.inl c), if_pos c]
  · rw [if_neg (by rintro (hh | hh); exact c hh; cases hh), if_neg c]
    rfl
end Go.Eng
