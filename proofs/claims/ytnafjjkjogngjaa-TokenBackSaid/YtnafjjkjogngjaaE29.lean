/- Code. -/
import Derived.Test.YtnafjjkjogngjaaE28
import Derived.LoopN
import Derived.Scope
set_option linter.unusedVariables false
set_option linter.unusedSimpArgs false
namespace Go.Eng
open Go Go.RowKit

section
variable {P : Program} {cx : Cx} {ok : Nat → Prop} {w0 : World} {ρ : Rho} {st st' : St} {a : Act} {w : World}

theorem lk_push (h : Heap) (b : Option Blk) (n : Nat) : lk (h ++ [b]) n = if n = h.length then b else lk h n := by
  unfold lk
  rw [List.getD_eq_getElem?_getD, List.getD_eq_getElem?_getD, List.getElem?_append]
  by_cases h1 : n < h.length
  · rw [if_pos h1, if_neg (by omega)]
  · rw [if_neg h1]
    by_cases h2 : n = h.length
    · subst h2; simp
    · rw [if_neg h2, List.getElem?_eq_none (by simp; omega), List.getElem?_eq_none (by omega)]

/-- an empty row of the call's own that no block lies behind -/
theorem turns_push (T : TypeId) (t : ET) : ∀ (ok : Nat → Prop) (w0 : World) (ρ : Rho) (a : Act) (w : World), Inv cx ok w0 ρ st a w →
    Inv cx ok w0 ρ ⟨st.env, st.heap ++ [some (.arr T t [])], st.fb⟩ a w ∧ (∀ k, okc ok w0.heap.size st.heap ρ k ↔ okc ok w0.heap.size (st.heap ++ [some (.arr T t [])]) ρ k) := by
  intro ok w0 ρ a w hi
  have hn0 : ρ st.heap.length = none := hi.fresh _ (Nat.le_refl _)
  have hlive : ∀ n, n ≠ st.heap.length → lk (st.heap ++ [some (.arr T t [])]) n = lk st.heap n := fun n hn => by rw [lk_push, if_neg hn]
  have he : ∀ k, okc ok w0.heap.size st.heap ρ k ↔ okc ok w0.heap.size (st.heap ++ [some (.arr T t [])]) ρ k := fun k => by
    constructor
    · refine fun h => ⟨h.1, fun n hn => ?_⟩
      by_cases e : n = st.heap.length
      · rw [e, hn0]; intro h; cases h
      · rw [hlive n e] at hn; exact h.2 n hn
    · refine fun h => ⟨h.1, fun n hn => ?_⟩
      have e : n ≠ st.heap.length := fun e => by have := lk_lt hn; omega
      exact h.2 n (by rw [hlive n e]; exact hn)
  have hx : ∀ N, Ext N (okc ok w0.heap.size st.heap ρ) (okc ok w0.heap.size (st.heap ++ [some (.arr T t [])]) ρ) ρ ρ w w := fun N => ⟨fun _ _ _ e => e, fun _ _ _ => rfl, fun k _ h => (he k).1 h, fun _ _ => rfl, Nat.le_refl _⟩
  refine ⟨⟨hi.size, fun t ht => Ext.all_V hx hi.hv.lt (hi.env t ht), fun n b hn => ?_, fun n m b hn hm h1 h2 => ?_, hi.own, fun n hn => hi.fresh n (by simp at hn; omega), hi.below, hi.defers⟩, he⟩
  · have hn : lk (st.heap ++ [some (.arr T t [])]) n = some b := hn
    by_cases e : n = st.heap.length
    · rw [lk_push, if_pos e] at hn; injection hn with hn; subst hn; subst e
      exact .inl ⟨rfl, hn0⟩
    · rw [hlive n e] at hn
      exact Ext.all_B hx hi.hv.lt (fun _ _ => rfl) (fun h => h) (hi.heap n b hn)
  · have e1 : n ≠ st.heap.length := fun e => by rw [e, hn0] at h1; cases h1
    have e2 : m ≠ st.heap.length := fun e => by rw [e, hn0] at h2; cases h2
    have hn : (lk (st.heap ++ [some (.arr T t [])]) n).isSome = true := hn
    have hm : (lk (st.heap ++ [some (.arr T t [])]) m).isSome = true := hm
    rw [hlive n e1] at hn; rw [hlive m e2] at hm
    exact hi.inj n m b hn hm h1 h2

theorem acc_refine {s : Nat} {j : Option Nat} {c c' : C} (hg : accGet st s j = some c) (hs : accSet st s j c' = some st') (hi : Inv cx ok w0 ρ st a w)
    (hr : ∀ x, RC cx ρ (okc ok w0.heap.size st.heap ρ) w c x → RC cx ρ (okc ok w0.heap.size st.heap ρ) w c' x) : Inv cx ok w0 ρ st' a w ∧ Goes ok w0.heap.size st.fb ρ st.heap w ρ st'.heap w := by
  unfold accGet at hg
  split at hg
  · rename_i c0 hv
    injection hg with hg; subst hg
    simp only [accSet, hv] at hs
    injection hs with hs; subst hs
    refine ⟨⟨by simp [hi.size], fun t ht => ?_, hi.heap, hi.inj, hi.own, hi.fresh, hi.below, hi.defers⟩, Goes.refl _ _ _ _ _ _⟩
    have hl : t < st.env.length := by simpa using ht
    by_cases e : s = t
    · subst e
      have e1 : (st.env.set s (.v false [c'])).getD s .any = .v false [c'] := by simp [List.getD_eq_getElem?_getD, hl]
      show RV cx ρ _ w ((st.env.set s (.v false [c'])).getD s .any) _
      rw [e1]
      have := hi.env s hl
      rw [hv] at this
      exact RV_of_c (hr _ (RV_c this))
    · have e1 : (st.env.set s (.v false [c'])).getD t .any = st.env.getD t .any := by simp [List.getD_eq_getElem?_getD, List.getElem?_set, e]
      show RV cx ρ _ w ((st.env.set s (.v false [c'])).getD t .any) _
      rw [e1]; exact hi.env t hl
  · rename_i n o j hv
    split at hg
    · rename_i B cs hk
      simp only [accSet, hv, hk] at hs
      injection hs with hs; subst hs
      have hnl := lk_lt (lkh hk)
      have hlive : ∀ m, (lk (st.heap.set n (some (.box B (cs.set (o + j) c')))) m).isSome = (lk st.heap m).isSome := fun m => by
        by_cases e : m = n
        · subst e; rw [lk_set_same hnl, hk]; rfl
        · rw [lk_set_ne e]
      have he : ∀ k, okc ok w0.heap.size st.heap ρ k ↔ okc ok w0.heap.size (st.heap.set n (some (.box B (cs.set (o + j) c')))) ρ k := fun k => by
        unfold okc; simp only [hlive]
      have hx : ∀ N, Ext N (okc ok w0.heap.size st.heap ρ) (okc ok w0.heap.size (st.heap.set n (some (.box B (cs.set (o + j) c')))) ρ) ρ ρ w w := fun N => ⟨fun _ _ _ e => e, fun _ _ _ => rfl, fun k _ h => (he k).1 h, fun _ _ => rfl, Nat.le_refl _⟩
      refine ⟨⟨hi.size, fun t ht => Ext.all_V hx hi.hv.lt (hi.env t ht), fun m b hm => ?_, fun m1 m2 b hm1 hm2 => ?_, hi.own, fun m hm => hi.fresh m (by simpa using hm), hi.below, hi.defers⟩, ⟨hx _, ⟨fun _ _ => rfl, fun m _ hm => ?_, fun h => by simpa using h⟩⟩⟩
      · have hm : lk (st.heap.set n (some (.box B (cs.set (o + j) c')))) m = some b := hm
        by_cases e : m = n
        · subst e
          rw [lk_set_same hnl] at hm
          injection hm with hm; subst hm
          obtain ⟨b, vs, q1, q2, q3⟩ := hi.heap m _ hk
          refine Ext.all_B hx hi.hv.lt (fun _ _ => rfl) (fun h => h) (show RB cx ρ (okc ok w0.heap.size st.heap ρ) w m (.box B (cs.set (o + j) c')) from ⟨b, vs, q1, q2, by simpa using q3.1, fun q hq => ?_⟩)
          have hq' : q < cs.length := by simpa using hq
          by_cases e2 : o + j = q
          · subst e2
            have e3 : (cs.set (o + j) c').getD (o + j) (.d .nils) = c' := by simp [List.getD_eq_getElem?_getD, hq']
            rw [e3]
            have h4 := q3.2 (o + j) hq'
            have e5 : cs.getD (o + j) (.d .nils) = c := by rw [List.getD_eq_getElem?_getD, hg]; rfl
            rw [e5] at h4
            exact hr _ h4
          · have e3 : (cs.set (o + j) c').getD q (.d .nils) = cs.getD q (.d .nils) := by simp [List.getD_eq_getElem?_getD, List.getElem?_set, e2]
            rw [e3]; exact q3.2 q hq'
        · rw [lk_set_ne e] at hm
          exact Ext.all_B hx hi.hv.lt (fun _ _ => rfl) (fun h => h) (hi.heap m b hm)
      · have hm1 : (lk (st.heap.set n (some (.box B (cs.set (o + j) c')))) m1).isSome = true := hm1
        have hm2 : (lk (st.heap.set n (some (.box B (cs.set (o + j) c')))) m2).isSome = true := hm2
        rw [hlive] at hm1 hm2
        exact hi.inj m1 m2 b hm1 hm2
      · show lk (st.heap.set n (some (.box B (cs.set (o + j) c')))) m = none
        have := hlive m
        rw [hm] at this
        cases h : lk (st.heap.set n (some (.box B (cs.set (o + j) c')))) m with
        | none => rfl
        | some b => rw [h] at this; cases this
    · cases hg
  · cases hg

theorem acc_fb {s : Nat} {j : Option Nat} {c : C} (hs : accSet st s j c = some st') : st'.fb = st.fb ∧ st'.heap.length = st.heap.length := by
  unfold accSet at hs
  split at hs
  · injection hs with hs; subst hs; exact ⟨rfl, rfl⟩
  · split at hs
    · injection hs with hs; subst hs; exact ⟨rfl, by simp⟩
    · cases hs
  · cases hs

theorem accGet_push {s : Nat} {j : Option Nat} {c : C} {b : Option Blk} (hg : accGet st s j = some c) : accGet ⟨st.env, st.heap ++ [b], st.fb⟩ s j = some c := by
  unfold accGet at hg ⊢
  split at hg
  · rename_i hv; simp only [hv]; exact hg
  · rename_i n o j hv
    simp only [hv]
    split at hg
    · rename_i B cs hk
      have : n ≠ st.heap.length := fun e => by have := lk_lt (lkh hk); omega
      rw [lk_push, if_neg this, hk]; exact hg
    · cases hg
  · cases hg

theorem turns_begin : ∀ (as : List (Nat × Option Nat × ET × TypeId)) (st st' : St), begin_ as st = some st' → Turns cx st st'
  | [], st, st', h => by simp only [begin_] at h; injection h with h; subst h; exact Turns.refl
  | (s, j, t, T) :: r, st, st', h => by
    simp only [begin_] at h
    split at h
    · cases h
    · rename_i c hg
      split at h
      · cases h
      · rename_i c' h' hp
        split at h
        · cases h
        · rename_i st1 hs
          refine Turns.trans ?_ (turns_begin r st1 st' h)
          have push : c' = .own st.heap.length t true 0 0 → h' = st.heap ++ [some (.arr T t [])] → (∀ ok ρ w x, RC cx ρ ok w c x → ∃ A, x = .slice A 0 0) → Turns cx st st1 := fun e1 e2 hz => by
            subst e1; subst e2
            obtain ⟨f1, f2⟩ := acc_fb hs
            refine ⟨f1, fun hl => by rw [f2]; simp; omega, fun ok w0 ρ a w hi hl => ?_⟩
            obtain ⟨i1, i2⟩ := turns_push (st := st) T t ok w0 ρ a w hi
            obtain ⟨k1, k2⟩ := acc_refine (accGet_push hg) hs i1 (fun x hx => by
              obtain ⟨A, rfl⟩ := hz _ _ _ _ hx
              exact ⟨A, 0, rfl, Nat.le_refl _, fun _ => rfl, fun h => absurd rfl h⟩)
            refine ⟨ρ, k1, Goes.trans ⟨⟨fun _ _ _ e => e, fun _ _ _ => rfl, fun k _ h => (i2 k).1 h, fun _ _ => rfl, Nat.le_refl _⟩, ⟨fun _ _ => rfl, fun n hn hd => ?_, fun h => by simp; omega⟩⟩ k2⟩
            rw [lk_push, if_neg (by omega)]; exact hd
          unfold promote at hp
          split at hp
          · injection hp with hp; injection hp with e1 e2
            exact push e1.symm e2.symm (fun ok ρ w x hx => by cases hx; exact ⟨none, rfl⟩)
          · rename_i nl full t' l
            split at hp
            · rename_i hc
              injection hp with hp; injection hp with e1 e2
              simp only [Bool.and_eq_true] at hc
              have hl : l = [] := by simpa using hc.2
              refine push e1.symm e2.symm (fun ok ρ w x hx => ?_)
              subst hl
              cases hx with
              | sl0 _ _ _ A cap q1 q2 q3 q4 => rw [q3 hc.1.2]; exact ⟨A, rfl⟩
              | sl _ _ _ _ b off cap vs h0 => exact absurd rfl h0
            · cases hp
          · injection hp with hp; injection hp with e1 e2; subst e1; subst e2
            obtain ⟨f1, f2⟩ := acc_fb hs
            refine ⟨f1, fun hl => by rw [f2]; exact hl, fun ok w0 ρ a w hi hl => ?_⟩
            obtain ⟨k1, k2⟩ := acc_refine hg hs hi (fun x hx => hx)
            exact ⟨ρ, k1, k2⟩
          · cases hp
end
end Go.Eng
