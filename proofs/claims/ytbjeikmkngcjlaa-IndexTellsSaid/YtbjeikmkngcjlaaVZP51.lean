/- The law of what is asked: shared. -/
import Derived.Test.YtbjeikmkngcjlaaVZP49
import Derived.Test.YtbjeikmkngcjlaaVZLI4
set_option linter.unusedVariables false
set_option linter.unusedSimpArgs false
namespace Go.Eng
open Go Go.Eng
theorem addP_mem {m : List Pred} {p x : Pred} : x ∈ addP m p ↔ x ∈ m ∨ x = p := by
 unfold addP
 split
 ·rename_i h
  exact ⟨Or.inl, fun h2 => h2.elim id (fun e => e ▸ h)⟩
 ·rw [List.mem_append, List.mem_singleton]
theorem foldP_mem : ∀ (ps : List Pred) {m : List Pred} {x : Pred}, x ∈ ps.foldl addP m ↔ x ∈ m ∨ x ∈ ps
 | [], m, x => by simp
 | p :: ps, m, x => by rw [List.foldl_cons, foldP_mem ps, addP_mem, List.mem_cons, or_assoc]
theorem allP_len {l : List Query} (h : fewQ l) : (allP l).length ≤ 96 := by
 have a1 := foldP_len (l.flatMap (fun q => q.steps.flatMap asks)) ([] : List Pred)
 have a2 := asksQ_len l (fun q hq => (h.2 q hq).1)
 have a3 := h.1
 unfold allP
 simp only [List.length_nil] at a1
 omega
theorem allP_short {l : List Query} (h : fewQ l) : ∀ p ∈ allP l, p.ifs.length ≤ maxLen := by
 have := asksQ_short (l := l) (fun q hq => (h.2 q hq).short)
 intro p hp
 unfold allP at hp
 rw [foldP_mem] at hp
 rcases hp with hp | hp
 ·cases hp
 ·exact Nat.le_trans (this p hp) (by decide)
theorem findL_mem {m : List Pred} {p : Pred} (h : p ∈ m) : ∃ (i : Nat) (hi : i < m.length), findL m p = i ∧ m[i] = p := by
 have h1 : (m.findIdx? (fun x => decide (x = p))).isSome = true := by
  rw [List.findIdx?_isSome, List.any_eq_true]; exact ⟨p, h, by simp⟩
 obtain ⟨i, hi⟩ := Option.isSome_iff_exists.mp h1
 obtain ⟨hl, hp, _⟩ := List.findIdx?_eq_some_iff_getElem.mp hi
 refine ⟨i, hl, ?_, by simpa using hp⟩
 unfold findL; rw [hi]
theorem bif_same (b : Bool) : (bif b == b then false else true) = false := by cases b <;> rfl
end Go.Eng
