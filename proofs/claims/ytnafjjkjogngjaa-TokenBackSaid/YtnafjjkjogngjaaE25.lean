/- A region's operations in any order that its edges leave free. -/
import Derived.Test.YtnafjjkjogngjaaE24
set_option linter.unusedVariables false
set_option linter.unusedSimpArgs false
namespace Go.Eng
open Go Go.RowKit

/-- must b come first of a, b < a? -/
def bit (bs : Array Nat) (a b : Nat) : Bool := (bs.getD a 0).testBit b

/-- none stands behind one that it must come first of -/
def Topo (bs : Array Nat) (l : List Nat) : Prop := l.Pairwise fun a b => ¬ (b < a ∧ bit bs a b = true)

def Free (bs : Array Nat) (i j : Nat) : Prop := bit bs (max i j) (min i j) = false

structure Sound (bs : Array Nat) (ops : Array Oper) (ns : List Note) : Prop where
  notes : ∀ x ∈ ns, ∀ y ∈ ns, x.i ≠ y.i → Free bs x.i y.i → meddle x y = false
  apart : ∀ i j oi oj, ops[i]? = some oi → ops[j]? = some oj → i ≠ j → Free bs i j → oi.apart ops oj = true

section
variable {cx : Cx} {cl : CL} {ops : Array Oper} {base : Nat} {bs : Array Nat}

theorem Step1.notes {i : Nat} {st st' : St} {ns : List Note} (h : Step1 cx cl ops base i st st' ns) : ∀ x ∈ ns, x.i = i := by
  cases h with
  | skip => intro x hx; cases hx
  | run o v h' n h1 h2 h3 =>
    intro x hx
    obtain rfl := List.mem_singleton.1 hx
    cases h3 <;> rfl
theorem Step1.at_ {i : Nat} {st st' : St} {ns : List Note} (h : Step1 cx cl ops base i st st' ns) : ∃ o, ops[i]? = some o := by
  cases h with
  | skip o h1 => exact ⟨o, h1⟩
  | run o v h' n h1 => exact ⟨o, h1⟩

theorem Free.symm {i j : Nat} (h : Free bs i j) : Free bs j i := by unfold Free at *; rwa [Nat.max_comm, Nat.min_comm]

/-- one is brought to the front -/
theorem front {j : Nat} {l2 : List Nat} : ∀ (l1 : List Nat) (st st' : St) (ns : List Note), Exec cx cl ops base (l1 ++ j :: l2) st st' ns → Sound bs ops ns → (∀ i ∈ l1, i ≠ j ∧ Free bs i j) →
    ∃ st1 n1 n2, Step1 cx cl ops base j st st1 n1 ∧ Exec cx cl ops base (l1 ++ l2) st1 st' n2 ∧ ∀ x, x ∈ n1 ++ n2 ↔ x ∈ ns
  | [], st, st', ns, h, _, _ => by
    cases h with
    | cons h1 h2 => exact ⟨_, _, _, h1, h2, fun x => Iff.rfl⟩
  | i :: l1, st, st', ns, h, hs, hf => by
    cases h with
    | cons h1 h2 =>
      rename_i stm n1 n2
      obtain ⟨st1, m1, m2, k1, k2, k3⟩ := front l1 _ _ _ h2 ⟨fun x hx y hy => hs.notes x (List.mem_append.2 (.inr hx)) y (List.mem_append.2 (.inr hy)), hs.apart⟩ (fun q hq => hf q (List.mem_cons_of_mem _ hq))
      obtain ⟨hne, hfr⟩ := hf i List.mem_cons_self
      obtain ⟨oi, hoi⟩ := h1.at_
      obtain ⟨oj, hoj⟩ := k1.at_
      obtain ⟨sw, s1, s2⟩ := swap hoi hoj (hs.apart i j oi oj hoi hoj hne hfr) h1 k1 (fun x hx y hy => by
        have ex := h1.notes x hx
        have ey := k1.notes y hy
        exact hs.notes x (List.mem_append.2 (.inl hx)) y (List.mem_append.2 (.inr ((k3 y).1 (List.mem_append.2 (.inl hy))))) (by rw [ex, ey]; exact hne) (by rw [ex, ey]; exact hfr))
      refine ⟨sw, m1, n1 ++ m2, s1, .cons s2 k2, fun x => ?_⟩
      have := k3 x
      simp only [List.mem_append] at this ⊢
      constructor
      · rintro (h | h | h)
        · exact .inr (this.1 (.inl h))
        · exact .inl h
        · exact .inr (this.1 (.inr h))
      · rintro (h | h)
        · exact .inr (.inl h)
        · rcases this.2 h with h | h
          · exact .inl h
          · exact .inr (.inr h)

theorem reorder : ∀ (σ l : List Nat) (st st' : St) (ns : List Note), Exec cx cl ops base l st st' ns → Sound bs ops ns → l.Nodup → σ.Nodup → (∀ x, x ∈ σ ↔ x ∈ l) → Topo bs l → Topo bs σ →
    ∃ ns', Exec cx cl ops base σ st st' ns' ∧ ∀ x, x ∈ ns' ↔ x ∈ ns
  | [], l, st, st', ns, h, _, _, _, hm, _, _ => by
    have : l = [] := by
      cases l with
      | nil => rfl
      | cons x l => have := (hm x).2 List.mem_cons_self; cases this
    subst this
    exact ⟨ns, h, fun _ => Iff.rfl⟩
  | j :: σ, l, st, st', ns, h, hs, hl, hσ, hm, tl, tσ => by
    obtain ⟨l1, l2, rfl⟩ := List.append_of_mem ((hm j).1 List.mem_cons_self)
    have hnd := List.nodup_append.1 hl
    have hj1 : ∀ i ∈ l1, i ≠ j := fun i hi => hnd.2.2 i hi j List.mem_cons_self
    have hj2 : ∀ i ∈ l2, i ≠ j := fun i hi e => (List.nodup_cons.1 hnd.2.1).1 (e ▸ hi)
    have hjσ := List.nodup_cons.1 hσ
    have hpl := List.pairwise_append.1 tl
    have hpσ := List.pairwise_cons.1 tσ
    have hmem : ∀ x, x ∈ σ ↔ x ∈ l1 ++ l2 := fun x => by
      have := hm x
      simp only [List.mem_cons, List.mem_append] at this ⊢
      constructor
      · intro hx
        have hne : x ≠ j := fun e => hjσ.1 (e ▸ hx)
        rcases this.1 (.inr hx) with h | h | h
        · exact .inl h
        · exact absurd h hne
        · exact .inr h
      · intro hx
        have hne : x ≠ j := by rcases hx with h | h
                               · exact hj1 x h
                               · exact hj2 x h
        rcases this.2 (by rcases hx with h | h
                          · exact .inl h
                          · exact .inr (.inr h)) with h | h
        · exact absurd h hne
        · exact h
    obtain ⟨st1, n1, n2, k1, k2, k3⟩ := front l1 _ _ _ h hs (fun i hi => by
      refine ⟨hj1 i hi, ?_⟩
      have h1 := hpl.2.2 i hi j List.mem_cons_self
      have h2 := hpσ.1 i ((hmem i).2 (List.mem_append.2 (.inl hi)))
      unfold Free
      rcases Nat.lt_or_ge i j with h | h
      · rw [Nat.max_eq_right (Nat.le_of_lt h), Nat.min_eq_left (Nat.le_of_lt h)]
        cases hb : bit bs j i with
        | false => rfl
        | true => exact absurd ⟨h, hb⟩ h2
      · have h' : j < i := Nat.lt_of_le_of_ne h (Ne.symm (hj1 i hi))
        rw [Nat.max_eq_left h, Nat.min_eq_right h]
        cases hb : bit bs i j with
        | false => rfl
        | true => exact absurd ⟨h', hb⟩ h1)
    have hsub : (l1 ++ l2).Sublist (l1 ++ j :: l2) := List.Sublist.append (List.Sublist.refl _) (List.sublist_cons_self _ _)
    obtain ⟨ns', q1, q2⟩ := reorder σ (l1 ++ l2) st1 st' n2 k2 ⟨fun x hx y hy => hs.notes x ((k3 x).1 (List.mem_append.2 (.inr hx))) y ((k3 y).1 (List.mem_append.2 (.inr hy))), hs.apart⟩ (hl.sublist hsub) hjσ.2 hmem (tl.sublist hsub) hpσ.2
    refine ⟨n1 ++ ns', .cons k1 q1, fun x => ?_⟩
    rw [← k3 x]
    simp only [List.mem_append, q2 x]
end

/-- what the evaluator checks of a drawn region's notes -/
theorem notes_sound {bs : Array Nat} : ∀ (ns : List Note), notesOk bs ns = true → ∀ x ∈ ns, ∀ y ∈ ns, x.i ≠ y.i → Free bs x.i y.i → meddle x y = false
  | [], _, x, hx, _, _, _, _ => by cases hx
  | z :: r, h, x, hx, y, hy, hne, hf => by
    simp only [notesOk, Bool.and_eq_true, List.all_eq_true, Bool.or_eq_true, Bool.not_eq_true'] at h
    have one : ∀ y ∈ r, Free bs z.i y.i → meddle z y = false := fun y hy hf => by
      rcases h.1 y hy with h1 | h1
      · unfold Free bit at hf; rw [hf] at h1; cases h1
      · exact h1
    rcases List.mem_cons.1 hx with e1 | hx' <;> rcases List.mem_cons.1 hy with e2 | hy'
    · exact absurd (by rw [e1, e2]) hne
    · rw [e1] at hf ⊢; exact one y hy' hf
    · rw [e2] at hf ⊢; rw [meddle_comm]; exact one x hx' hf.symm
    · exact notes_sound r h.2 x hx' y hy' hne hf
end Go.Eng
