/- A round's head: slices made the call's own, names brought back, what is not needed left. -/
import Derived.Test.YtnafjjkjogngjaaE27
set_option linter.unusedVariables false
set_option linter.unusedSimpArgs false
namespace Go.Eng
open Go Go.RowKit

section
variable {P : Program} {cx : Cx} {ok : Nat → Prop} {w0 : World} {ρ : Rho} {st st' : St} {a : Act} {w : World}

/-- the state is looked at otherwise, and nothing runs -/
def Turns (cx : Cx) (st st' : St) : Prop :=
  st'.fb = st.fb ∧ (st.fb ≤ st.heap.length → st.fb ≤ st'.heap.length) ∧ ∀ (ok : Nat → Prop) (w0 : World) (ρ : Rho) (a : Act) (w : World), Inv cx ok w0 ρ st a w → st.fb ≤ st.heap.length → ∃ ρ', Inv cx ok w0 ρ' st' a w ∧ Goes ok w0.heap.size st.fb ρ st.heap w ρ' st'.heap w

theorem Turns.refl : Turns cx st st := ⟨rfl, id, fun _ _ ρ _ _ hi _ => ⟨ρ, hi, Goes.refl _ _ _ _ _ _⟩⟩
theorem Turns.trans {s1 s2 s3 : St} (x : Turns cx s1 s2) (y : Turns cx s2 s3) : Turns cx s1 s3 := by
  refine ⟨y.1.trans x.1, fun h => ?_, fun ok w0 ρ a w hi hl => ?_⟩
  · rw [← x.1]; exact y.2.1 (by rw [x.1]; exact x.2.1 h)
  · obtain ⟨ρ1, i1, g1⟩ := x.2.2 ok w0 ρ a w hi hl
    obtain ⟨ρ2, i2, g2⟩ := y.2.2 ok w0 ρ1 a w i1 (by rw [x.1]; exact x.2.1 hl)
    rw [x.1] at g2
    exact ⟨ρ2, i2, g1.trans g2⟩

theorem turns_keep (keep : List Nat) : Turns cx st ⟨keepOnly keep st.env, st.heap, st.fb⟩ := by
  refine ⟨rfl, id, fun ok w0 ρ a w hi _ => ⟨ρ, ⟨?_, fun t ht => ?_, hi.heap, hi.inj, hi.own, hi.fresh, hi.below, hi.defers⟩, Goes.refl _ _ _ _ _ _⟩⟩
  · show a.tmps.size = (keepOnly keep st.env).length
    rw [hi.size]; simp [keepOnly]
  · have hl : t < st.env.length := by simpa [keepOnly] using ht
    have e : (keepOnly keep st.env).getD t .any = if keep.contains t then st.env.getD t .any else .any := by
      simp [keepOnly, List.getD_eq_getElem?_getD, hl]
    show RV cx ρ _ w ((keepOnly keep st.env).getD t .any) _
    rw [e]
    split
    · exact hi.env t hl
    · trivial

/-- names that are not brought along -/
theorem RC_low {ok' : Nat → Prop} {base : Nat} {c : C} {x : Value} (hk : ∀ k, ok k → ok' k) (hl : lowC base c = true) (h : RC cx ρ ok w c x) : RC cx (fun n => if n < base then ρ n else none) ok' w c x := by
  cases c with
  | d y => exact RD.ext h (fun _ _ _ => rfl) (fun k _ => hk k) (Nat.le_refl _)
  | ptr n off =>
    have hl : n < base := by simpa [lowC] using hl
    obtain ⟨b, h1, h2⟩ := h
    exact ⟨b, by simpa [hl] using h1, h2⟩
  | ep n t i j =>
    have hl : n < base := by simpa [lowC] using hl
    obtain ⟨b, h1, h2⟩ := h
    exact ⟨b, by simpa [hl] using h1, h2⟩
  | own n t full off len =>
    have hl : n < base := by simpa [lowC] using hl
    obtain ⟨A, cap, h1, h2, h3, h4⟩ := h
    exact ⟨A, cap, h1, h2, h3, fun hc => by obtain ⟨b, h5, h6⟩ := h4 hc; exact ⟨b, by simpa [hl] using h5, h6⟩⟩
  | clo f first caps =>
    simp only [lowC, Bool.and_eq_true, List.all_eq_true, decide_eq_true_eq] at hl
    have key : ∀ (ns : List Nat) (us : List Value), (∀ n ∈ ns, n < base) → ptrsTo ρ ns us → ptrsTo (fun n => if n < base then ρ n else none) ns us := fun ns us hn hp => ⟨hp.1, fun i hi => by
      obtain ⟨b, h1, h2⟩ := hp.2 i hi
      exact ⟨b, by have := hn _ (getD_mem (d := 0) hi); simp only [this, if_true]; exact h1, h2⟩⟩
    obtain ⟨u, v, h1, h2, h3⟩ := h
    exact ⟨u, v, h1, key _ _ hl.1 h2, key _ _ hl.2 h3⟩
theorem RCs_low {ok' : Nat → Prop} {base : Nat} {cs : List C} {vs : List Value} (hk : ∀ k, ok k → ok' k) (hl : cs.all (lowC base) = true) (h : RCs cx ρ ok w cs vs) : RCs cx (fun n => if n < base then ρ n else none) ok' w cs vs :=
  ⟨h.1, fun j hj => RC_low hk (List.all_eq_true.1 hl _ (getD_mem hj)) (h.2 j hj)⟩
theorem RA_low {ok' : Nat → Prop} {base : Nat} {g : Bool} {cs : List C} {x : Value} (hk : ∀ k, ok k → ok' k) (hl : cs.all (lowC base) = true) (h : RA cx ρ ok w (g, cs) x) : RA cx (fun n => if n < base then ρ n else none) ok' w (g, cs) x := by
  cases g with
  | true => obtain ⟨vs, h1, h2⟩ := h; exact ⟨vs, h1, RCs_low hk hl h2⟩
  | false =>
    obtain ⟨c, h1, h2⟩ := h
    subst h1
    exact ⟨c, rfl, RC_low hk (by simpa using hl) h2⟩
theorem RV_low {ok' : Nat → Prop} {base : Nat} {v : V} {x : Value} (hk : ∀ k, ok k → ok' k) (hl : lowV base v = true) (h : RV cx ρ ok w v x) : RV cx (fun n => if n < base then ρ n else none) ok' w v x := by
  cases v with
  | any => trivial
  | v g cs => exact RA_low hk hl h
  | tup vs =>
    obtain ⟨xs, h1, h2⟩ := h
    refine ⟨xs, h1, h2.1, fun j hj => ?_⟩
    have := List.all_eq_true.1 hl _ (getD_mem (d := (false, [])) hj)
    exact RA_low (g := (vs.getD j (false, [])).1) (cs := (vs.getD j (false, [])).2) hk this (h2.2 j hj)

theorem lk_take (h : Heap) (base n : Nat) : lk (h.take base) n = if n < base then lk h n else none := by
  unfold lk
  rw [List.getD_eq_getElem?_getD, List.getD_eq_getElem?_getD, List.getElem?_take]
  split <;> rfl

theorem turns_clean {hint : Hint} {base : Nat} (hc : clean hint base st = some st') : Turns cx st st' := by
  unfold clean at hc
  simp only at hc
  split at hc
  · rename_i hcond
    injection hc with hc; subst hc
    simp only [Bool.and_eq_true, decide_eq_true_eq] at hcond
    obtain ⟨⟨hfb, henv⟩, hheap⟩ := hcond
    refine (turns_keep hint.keep).trans ⟨rfl, fun h => by show st.fb ≤ (st.heap.take base).length; rw [List.length_take]; have : st.fb ≤ st.heap.length := h; omega, fun ok w0 ρ a w hi hl => ?_⟩
    have hl : st.fb ≤ st.heap.length := hl
    have hlive : ∀ n, (lk (st.heap.take base) n).isSome = true → n < base ∧ (lk st.heap n).isSome = true := fun n hn => by
      rw [lk_take] at hn
      split at hn
      · exact ⟨‹_›, hn⟩
      · cases hn
    have hk : ∀ k, okc ok w0.heap.size st.heap ρ k → okc ok w0.heap.size (st.heap.take base) (fun n => if n < base then ρ n else none) k := fun k hk => ⟨hk.1, fun n hn => by
      obtain ⟨h1, h2⟩ := hlive n hn
      simp only [h1, if_true]
      exact hk.2 n h2⟩
    refine ⟨fun n => if n < base then ρ n else none, ⟨hi.size, fun t ht => RV_low hk (List.all_eq_true.1 henv _ (getD_mem ht)) (hi.env t ht), fun n b hn => ?_, fun n m b hn hm h1 h2 => ?_, fun n b hn => ?_, fun n hn => ?_, hi.below, hi.defers⟩, ?_, ?_⟩
    · have hn' : lk st.heap n = some b ∧ n < base := by
        have hn : lk (st.heap.take base) n = some b := hn
        rw [lk_take] at hn
        split at hn
        · exact ⟨hn, ‹_›⟩
        · cases hn
      have hlen : n < (st.heap.take base).length := by rw [List.length_take]; have := lk_lt (lkh hn'.1); omega
      have hlow : lowB base (some b) = true := by
        have := List.all_eq_true.1 hheap _ (getD_mem (d := none) hlen)
        have e : (st.heap.take base).getD n none = some b := hn
        rw [e] at this; exact this
      have hB := hi.heap n b hn'.1
      cases b with
      | box T cs =>
        obtain ⟨k, vs, q1, q2, q3⟩ := hB
        exact ⟨k, vs, by simp only [hn'.2, if_true]; exact q1, q2, RCs_low hk hlow q3⟩
      | arr T t l =>
        rcases hB with ⟨q1, q2⟩ | ⟨k, vs, q1, q2, q3, q4⟩
        · exact .inl ⟨q1, by simp only [hn'.2, if_true]; exact q2⟩
        · exact .inr ⟨k, vs, by simp only [hn'.2, if_true]; exact q1, q2, q3, fun i j hi' hj => (q4 i j hi' hj).ext (fun _ _ _ => rfl) (fun k _ => hk k) (Nat.le_refl _)⟩
    · obtain ⟨a1, a2⟩ := hlive n hn
      obtain ⟨b1, b2⟩ := hlive m hm
      simp only [a1, b1, if_true] at h1 h2
      exact hi.inj n m b a2 b2 h1 h2
    · have hn : (if n < base then ρ n else none) = some b := hn
      split at hn
      · exact hi.own n b hn
      · cases hn
    · have hn : (st.heap.take base).length ≤ n := hn
      rw [List.length_take] at hn
      show (if n < base then ρ n else none) = none
      split
      · exact hi.fresh n (by show st.heap.length ≤ n; omega)
      · rfl
    · refine ⟨fun n b hn h => ?_, fun _ _ _ => rfl, fun k _ h => hk k h, fun _ _ => rfl, Nat.le_refl _⟩
      have : n < base := Nat.lt_of_lt_of_le hn hfb
      simp only [this, if_true]; exact h
    · refine ⟨fun n hn => ?_, fun n hn hd => ?_, fun h => ?_⟩
      · have : n < base := Nat.lt_of_lt_of_le hn hfb
        simp only [this, if_true]
      · show lk (st.heap.take base) n = none
        rw [lk_take]; split
        · exact hd
        · rfl
      · show st.fb ≤ (st.heap.take base).length
        rw [List.length_take]; omega
  · cases hc

/-- a name is brought back to where it was -/
theorem RC_ren {ok' : Nat → Prop} {n m : Nat} {c : C} {x : Value} (hk : ∀ k, ok k → ok' k) (hl : noRefC m c = true) (h : RC cx ρ ok w c x) : RC cx (upd ρ m (ρ n)) ok' w (renC n m c) x := by
  have key : ∀ k b, k ≠ m → ρ k = some b → upd ρ m (ρ n) (ren n m k) = some b := fun k b hne e => by
    unfold ren
    by_cases hkn : k = n
    · rw [if_pos hkn, upd_same, ← hkn]; exact e
    · rw [if_neg hkn, upd_ne hne]; exact e
  cases c with
  | d y => exact RD.ext h (fun _ _ _ => rfl) (fun k _ => hk k) (Nat.le_refl _)
  | ptr k off =>
    have hl : k ≠ m := by simpa [noRefC] using hl
    obtain ⟨b, h1, h2⟩ := h
    exact ⟨b, key k b hl h1, h2⟩
  | ep k t i j =>
    have hl : k ≠ m := by simpa [noRefC] using hl
    obtain ⟨b, h1, h2⟩ := h
    exact ⟨b, key k b hl h1, h2⟩
  | own k t full off len =>
    have hl : k ≠ m := by simpa [noRefC] using hl
    obtain ⟨A, cap, h1, h2, h3, h4⟩ := h
    exact ⟨A, cap, h1, h2, h3, fun hc => by obtain ⟨b, h5, h6⟩ := h4 hc; exact ⟨b, key k b hl h5, h6⟩⟩
  | clo f first caps =>
    simp only [noRefC, Bool.and_eq_true, Bool.not_eq_true', List.contains_eq_mem, decide_eq_false_iff_not] at hl
    have kk : ∀ (ns : List Nat) (us : List Value), m ∉ ns → ptrsTo ρ ns us → ptrsTo (upd ρ m (ρ n)) (ns.map (ren n m)) us := fun ns us hn hp => ⟨by simpa using hp.1, fun i hi => by
      have hi' : i < ns.length := by simpa using hi
      obtain ⟨b, h1, h2⟩ := hp.2 i hi'
      have hne : ns.getD i 0 ≠ m := fun e => hn (e ▸ getD_mem hi')
      have e : (ns.map (ren n m)).getD i 0 = ren n m (ns.getD i 0) := by simp [List.getD_eq_getElem?_getD, hi']
      exact ⟨b, by rw [e]; exact key _ b hne h1, h2⟩⟩
    obtain ⟨u, v, h1, h2, h3⟩ := h
    exact ⟨u, v, h1, kk _ _ hl.1 h2, kk _ _ hl.2 h3⟩
theorem RCs_ren {ok' : Nat → Prop} {n m : Nat} {cs : List C} {vs : List Value} (hk : ∀ k, ok k → ok' k) (hl : cs.all (noRefC m) = true) (h : RCs cx ρ ok w cs vs) : RCs cx (upd ρ m (ρ n)) ok' w (cs.map (renC n m)) vs :=
  ⟨by simpa using h.1, fun j hj => by
    have hj' : j < cs.length := by simpa using hj
    have e : (cs.map (renC n m)).getD j (.d .nils) = renC n m (cs.getD j (.d .nils)) := by simp [List.getD_eq_getElem?_getD, hj']
    rw [e]
    exact RC_ren hk (List.all_eq_true.1 hl _ (getD_mem hj')) (h.2 j hj')⟩
theorem RA_ren {ok' : Nat → Prop} {n m : Nat} {g : Bool} {cs : List C} {x : Value} (hk : ∀ k, ok k → ok' k) (hl : cs.all (noRefC m) = true) (h : RA cx ρ ok w (g, cs) x) : RA cx (upd ρ m (ρ n)) ok' w (g, cs.map (renC n m)) x := by
  cases g with
  | true => obtain ⟨vs, h1, h2⟩ := h; exact ⟨vs, h1, RCs_ren hk hl h2⟩
  | false =>
    obtain ⟨c, h1, h2⟩ := h
    subst h1
    exact ⟨_, rfl, RC_ren hk (by simpa using hl) h2⟩
theorem RV_ren {ok' : Nat → Prop} {n m : Nat} {v : V} {x : Value} (hk : ∀ k, ok k → ok' k) (hl : noRefV m v = true) (h : RV cx ρ ok w v x) : RV cx (upd ρ m (ρ n)) ok' w (renV n m v) x := by
  cases v with
  | any => trivial
  | v g cs => exact RA_ren hk hl h
  | tup vs =>
    obtain ⟨xs, h1, h2⟩ := h
    refine ⟨xs, h1, by simpa using h2.1, fun j hj => ?_⟩
    have hj' : j < vs.length := by simpa using hj
    have := List.all_eq_true.1 hl _ (getD_mem (d := (false, [])) hj')
    have e : (vs.map fun (g, cs) => ((g, cs.map (renC n m)) : Arg)).getD j (false, []) = ((vs.getD j (false, [])).1, (vs.getD j (false, [])).2.map (renC n m)) := by simp [List.getD_eq_getElem?_getD, hj']
    rw [e]
    exact RA_ren (g := (vs.getD j (false, [])).1) (cs := (vs.getD j (false, [])).2) hk this (h2.2 j hj')

theorem lk_map (h : Heap) (f : Blk → Blk) (n : Nat) : lk (h.map (Option.map f)) n = (lk h n).map f := by
  unfold lk
  rw [List.getD_eq_getElem?_getD, List.getD_eq_getElem?_getD, List.getElem?_map]
  cases h[n]? <;> rfl

theorem turns_back1 {s : Nat} {j : Option Nat} {home : Nat} (hb : back1 s j home st = some st') : Turns cx st st' := by
  unfold back1 at hb
  split at hb
  · rename_i n _ _ _ _ hg
    split at hb
    · injection hb with hb; subst hb; exact Turns.refl
    · rename_i hne
      split at hb
      · rename_i b h1 h2
        split at hb
        · rename_i hcond
          injection hb with hb; subst hb
          simp only [Bool.and_eq_true, decide_eq_true_eq] at hcond
          obtain ⟨⟨⟨c1, c2⟩, c3⟩, c4⟩ := hcond
          have hlen : (((st.heap.map (Option.map (renB n home))).set n none).set home (some (renB n home b))).length = st.heap.length := by simp
          have hlk : ∀ m, lk (((st.heap.map (Option.map (renB n home))).set n none).set home (some (renB n home b))) m = if m = home then some (renB n home b) else if m = n then none else (lk st.heap m).map (renB n home) := fun m => by
            have hnl : n < st.heap.length := lk_lt (lkh h2)
            rw [lk_set]
            by_cases e1 : m = home
            · subst e1; simp [c2]
            · rw [if_neg (fun h => e1 h.1), if_neg e1, lk_set]
              by_cases e2 : m = n
              · subst e2; simp [hnl]
              · rw [if_neg (fun h => e2 h.1), if_neg e2, lk_map]
          have hlive : ∀ m, (lk (((st.heap.map (Option.map (renB n home))).set n none).set home (some (renB n home b))) m).isSome = true → ∃ m', (lk st.heap m').isSome = true ∧ ∀ ρ : Rho, upd ρ home (ρ n) m = ρ m' := fun m hm => by
            rw [hlk m] at hm
            by_cases e1 : m = home
            · subst e1; exact ⟨n, lkh h2, fun ρ => upd_same _ _ _⟩
            · rw [if_neg e1] at hm
              by_cases e2 : m = n
              · rw [if_pos e2] at hm; cases hm
              · rw [if_neg e2] at hm
                exact ⟨m, by cases h : lk st.heap m <;> simp [h] at hm ⊢, fun ρ => upd_ne e1⟩
          refine ⟨rfl, fun h => by show st.fb ≤ List.length _; rw [hlen]; exact h, fun ok w0 ρ a w hi hl => ?_⟩
          have hk : ∀ k, okc ok w0.heap.size st.heap ρ k → okc ok w0.heap.size (((st.heap.map (Option.map (renB n home))).set n none).set home (some (renB n home b))) (upd ρ home (ρ n)) k := fun k hk => ⟨hk.1, fun m hm => by
            obtain ⟨m', e1, e2⟩ := hlive m hm
            rw [e2]; exact hk.2 m' e1⟩
          have hren : ∀ m c, m = n → noRefB home (some c) = true → RB cx ρ (okc ok w0.heap.size st.heap ρ) w m c → RB cx (upd ρ home (ρ n)) (okc ok w0.heap.size (((st.heap.map (Option.map (renB n home))).set n none).set home (some (renB n home b))) (upd ρ home (ρ n))) w home (renB n home c) := fun m c hm hno hB => by
            subst hm
            cases c with
            | box T cs =>
              obtain ⟨k, vs, q1, q2, q3⟩ := hB
              exact ⟨k, vs, by rw [upd_same]; exact q1, q2, RCs_ren hk hno q3⟩
            | arr T t l =>
              rcases hB with ⟨q1, q2⟩ | ⟨k, vs, q1, q2, q3, q4⟩
              · exact .inl ⟨q1, by rw [upd_same]; exact q2⟩
              · exact .inr ⟨k, vs, by rw [upd_same]; exact q1, q2, q3, fun i j hi' hj => (q4 i j hi' hj).ext (fun _ _ _ => rfl) (fun k _ => hk k) (Nat.le_refl _)⟩
          have hno : ∀ m c, lk st.heap m = some c → noRefB home (some c) = true := fun m c hm => by
            have hml := lk_lt (lkh hm)
            have := List.all_eq_true.1 c4 _ (getD_mem (d := none) hml)
            have e : st.heap.getD m none = some c := hm
            rw [e] at this; exact this
          refine ⟨upd ρ home (ρ n), ⟨by show a.tmps.size = (st.env.map (renV n home)).length; rw [hi.size]; simp, fun t ht => ?_, fun m c hm => ?_, fun m1 m2 k hm1 hm2 e1 e2 => ?_, fun m k hm => ?_, fun m hm => ?_, hi.below, hi.defers⟩, ?_, ?_⟩
          · have ht' : t < st.env.length := by simpa using ht
            have e : (st.env.map (renV n home)).getD t .any = renV n home (st.env.getD t .any) := by simp [List.getD_eq_getElem?_getD, ht']
            show RV cx _ _ w ((st.env.map (renV n home)).getD t .any) _
            rw [e]
            exact RV_ren hk (List.all_eq_true.1 c3 _ (getD_mem ht')) (hi.env t ht')
          · have hm : lk (((st.heap.map (Option.map (renB n home))).set n none).set home (some (renB n home b))) m = some c := hm
            rw [hlk m] at hm
            by_cases e1 : m = home
            · rw [if_pos e1] at hm; injection hm with hm; subst hm; rw [e1]
              exact hren n b rfl (hno n b h2) (hi.heap n b h2)
            · rw [if_neg e1] at hm
              by_cases e2 : m = n
              · rw [if_pos e2] at hm; cases hm
              · rw [if_neg e2] at hm
                cases hc : lk st.heap m with
                | none => rw [hc] at hm; cases hm
                | some c0 =>
                  rw [hc] at hm; simp only [Option.map_some, Option.some.injEq] at hm; subst hm
                  have hB := hi.heap m c0 hc
                  have hn0 := hno m c0 hc
                  cases c0 with
                  | box T cs =>
                    obtain ⟨k, vs, q1, q2, q3⟩ := hB
                    exact ⟨k, vs, by rw [upd_ne e1]; exact q1, q2, RCs_ren hk hn0 q3⟩
                  | arr T t l =>
                    rcases hB with ⟨q1, q2⟩ | ⟨k, vs, q1, q2, q3, q4⟩
                    · exact .inl ⟨q1, by rw [upd_ne e1]; exact q2⟩
                    · exact .inr ⟨k, vs, by rw [upd_ne e1]; exact q1, q2, q3, fun i j hi' hj => (q4 i j hi' hj).ext (fun _ _ _ => rfl) (fun k _ => hk k) (Nat.le_refl _)⟩
          · have d1 := hm1; have d2 := hm2
            rw [hlk m1] at d1; rw [hlk m2] at d2
            by_cases f1 : m1 = home <;> by_cases f2 : m2 = home
            · rw [f1, f2]
            · rw [f1, upd_same] at e1; rw [upd_ne f2] at e2
              rw [if_neg f2] at d2
              by_cases g2 : m2 = n
              · rw [if_pos g2] at d2; cases d2
              · rw [if_neg g2] at d2
                have : (lk st.heap m2).isSome = true := by cases h : lk st.heap m2 <;> simp [h] at d2 ⊢
                exact absurd (hi.inj m2 n k this (lkh h2) e2 e1) g2
            · rw [f2, upd_same] at e2; rw [upd_ne f1] at e1
              rw [if_neg f1] at d1
              by_cases g1 : m1 = n
              · rw [if_pos g1] at d1; cases d1
              · rw [if_neg g1] at d1
                have : (lk st.heap m1).isSome = true := by cases h : lk st.heap m1 <;> simp [h] at d1 ⊢
                exact absurd (hi.inj m1 n k this (lkh h2) e1 e2) g1
            · rw [upd_ne f1] at e1; rw [upd_ne f2] at e2
              rw [if_neg f1] at d1; rw [if_neg f2] at d2
              have k1 : (lk st.heap m1).isSome = true := by
                split at d1
                · cases d1
                · cases h : lk st.heap m1 <;> simp [h] at d1 ⊢
              have k2 : (lk st.heap m2).isSome = true := by
                split at d2
                · cases d2
                · cases h : lk st.heap m2 <;> simp [h] at d2 ⊢
              exact hi.inj m1 m2 k k1 k2 e1 e2
          · by_cases e1 : m = home
            · rw [e1, upd_same] at hm; exact hi.own n k hm
            · rw [upd_ne e1] at hm; exact hi.own m k hm
          · have hm : List.length (((st.heap.map (Option.map (renB n home))).set n none).set home (some (renB n home b))) ≤ m := hm
            rw [hlen] at hm
            rw [upd_ne (by omega)]; exact hi.fresh m hm
          · refine ⟨fun m k hm e => ?_, fun _ _ _ => rfl, fun k _ h => hk k h, fun _ _ => rfl, Nat.le_refl _⟩
            rw [upd_ne (by omega)]; exact e
          · refine ⟨fun m hm => upd_ne (by omega), fun m hm hd => ?_, fun h => by show st.fb ≤ List.length _; rw [hlen]; exact h⟩
            show lk (((st.heap.map (Option.map (renB n home))).set n none).set home (some (renB n home b))) m = none
            rw [hlk m, if_neg (by omega), hd]
            split <;> rfl
        · cases hb
      · cases hb
  · cases hb

theorem turns_backs : ∀ (as : List (Nat × Option Nat × ET × TypeId)) (ns : List Nat) (st st' : St), backs as ns st = some st' → Turns cx st st'
  | [], _, st, st', h => by
    simp only [backs] at h; injection h with h; subst h; exact Turns.refl
  | (s, j, t, T) :: r, [], st, st', h => by simp [backs] at h
  | (s, j, t, T) :: r, n :: ns, st, st', h => by
    simp only [backs] at h
    split at h
    · rename_i st1 h1
      exact (turns_back1 h1).trans (turns_backs r ns st1 st' h)
    · cases h

theorem lk_frz (h h0 : Heap) (n : Nat) : lk (h.map (frzB h0)) n = frzB h0 (lk h n) := by
  unfold lk
  rw [List.getD_eq_getElem?_getD, List.getD_eq_getElem?_getD, List.getElem?_map]
  cases h[n]? <;> rfl
theorem frz_live {h h0 : Heap} {n : Nat} (hn : (lk (h.map (frzB h0)) n).isSome = true) : ∃ T cs, lk h n = some (.box T cs) := by
  rw [lk_frz] at hn
  unfold frzB at hn
  split at hn
  · rename_i T cs hk; exact ⟨T, cs, hk⟩
  · cases hn
theorem RC_frz {h : Heap} (hi : HInv cx ok w0 ρ h w) {c : C} {x : Value} (hc : frzOk h c = true) (hr : RC cx ρ (okc ok w0.heap.size h ρ) w c x) : RC cx ρ (okc ok w0.heap.size (h.map (frzB h)) ρ) w (frzC h c) x := by
  have hk : ∀ k, okc ok w0.heap.size h ρ k → okc ok w0.heap.size (h.map (frzB h)) ρ k := fun k hk => ⟨hk.1, fun n hn => by
    obtain ⟨T, cs, e⟩ := frz_live hn
    exact hk.2 n (lkh e)⟩
  have plain : RC cx ρ (okc ok w0.heap.size (h.map (frzB h)) ρ) w c x := by
    cases c with
    | d y => exact RD.ext hr (fun _ _ _ => rfl) (fun k _ => hk k) (Nat.le_refl _)
    | _ => exact hr
  cases c with
  | own n t full off len =>
    cases hl : lk h n with
    | none => simp only [frzC, hl]; exact plain
    | some b =>
      cases b with
      | box T cs => simp only [frzC, hl]; exact plain
      | arr T t' l =>
        by_cases e : t' = t
        · subst e
          simp only [frzOk, hl, if_true] at hc
          simp only [frzC, hl, dite_true]
          refine dem0_ok hi (c := .own n t' full off len) (ks := [n]) (p := true) (d := .sl none full t' (sub l off (off + len))) ?_ rfl ⟨fun m hm => ?_, fun m hm => ?_⟩ hr
          · simp only [dem0, hl, dite_true, hc]
          · obtain rfl := List.mem_singleton.1 hm
            rw [lk_frz, hl]; rfl
          · obtain ⟨T, cs, e⟩ := frz_live hm
            exact lkh e
        · simp only [frzC, hl, e, dite_false]; exact plain
  | _ => exact plain
theorem RCs_frz {h : Heap} (hi : HInv cx ok w0 ρ h w) {cs : List C} {vs : List Value} (hc : cs.all (frzOk h) = true) (hr : RCs cx ρ (okc ok w0.heap.size h ρ) w cs vs) : RCs cx ρ (okc ok w0.heap.size (h.map (frzB h)) ρ) w (cs.map (frzC h)) vs :=
  ⟨by simpa using hr.1, fun j hj => by
    have hj' : j < cs.length := by simpa using hj
    have e : (cs.map (frzC h)).getD j (.d .nils) = frzC h (cs.getD j (.d .nils)) := by simp [List.getD_eq_getElem?_getD, hj']
    rw [e]
    exact RC_frz hi (List.all_eq_true.1 hc _ (getD_mem hj')) (hr.2 j hj')⟩
theorem RA_frz {h : Heap} (hi : HInv cx ok w0 ρ h w) {g : Bool} {cs : List C} {x : Value} (hc : cs.all (frzOk h) = true) (hr : RA cx ρ (okc ok w0.heap.size h ρ) w (g, cs) x) : RA cx ρ (okc ok w0.heap.size (h.map (frzB h)) ρ) w (g, cs.map (frzC h)) x := by
  cases g with
  | true => obtain ⟨vs, h1, h2⟩ := hr; exact ⟨vs, h1, RCs_frz hi hc h2⟩
  | false =>
    obtain ⟨c, h1, h2⟩ := hr
    subst h1
    exact ⟨_, rfl, RC_frz hi (by simpa using hc) h2⟩
theorem RV_frz {h : Heap} (hi : HInv cx ok w0 ρ h w) {v : V} {x : Value} (hc : frzOkV h v = true) (hr : RV cx ρ (okc ok w0.heap.size h ρ) w v x) : RV cx ρ (okc ok w0.heap.size (h.map (frzB h)) ρ) w (frzV h v) x := by
  cases v with
  | any => trivial
  | v g cs => exact RA_frz hi hc hr
  | tup vs =>
    obtain ⟨xs, h1, h2⟩ := hr
    refine ⟨xs, h1, by simpa using h2.1, fun j hj => ?_⟩
    have hj' : j < vs.length := by simpa using hj
    have := List.all_eq_true.1 hc _ (getD_mem (d := (false, [])) hj')
    have e : (vs.map fun (g, cs) => ((g, cs.map (frzC h)) : Arg)).getD j (false, []) = ((vs.getD j (false, [])).1, (vs.getD j (false, [])).2.map (frzC h)) := by simp [List.getD_eq_getElem?_getD, hj']
    rw [e]
    exact RA_frz hi (g := (vs.getD j (false, [])).1) (cs := (vs.getD j (false, [])).2) this (h2.2 j hj')

theorem turns_freeze (hf : freezeOk st = true) : Turns cx st (freeze st) := by
  unfold freezeOk at hf
  simp only [Bool.and_eq_true] at hf
  obtain ⟨h1, h2⟩ := hf
  refine ⟨rfl, fun h => by show st.fb ≤ (st.heap.map (frzB st.heap)).length; simpa using h, fun ok w0 ρ a w hi hl => ?_⟩
  have hk : ∀ k, okc ok w0.heap.size st.heap ρ k → okc ok w0.heap.size (st.heap.map (frzB st.heap)) ρ k := fun k hk => ⟨hk.1, fun n hn => by
    obtain ⟨T, cs, e⟩ := frz_live hn
    exact hk.2 n (lkh e)⟩
  refine ⟨ρ, ⟨by show a.tmps.size = (st.env.map (frzV st.heap)).length; rw [hi.size]; simp, fun t ht => ?_, fun n b hn => ?_, fun n m b hn hm => ?_, hi.own, fun n hn => hi.fresh n (by have hn : (st.heap.map (frzB st.heap)).length ≤ n := hn; simpa using hn), hi.below, hi.defers⟩, ⟨fun _ _ _ e => e, fun _ _ _ => rfl, fun k _ h => hk k h, fun _ _ => rfl, Nat.le_refl _⟩, fun _ _ => rfl, fun n _ hn => ?_, fun h => by show st.fb ≤ (st.heap.map (frzB st.heap)).length; simpa using h⟩
  · have ht' : t < st.env.length := by have ht : t < (st.env.map (frzV st.heap)).length := ht; simpa using ht
    have e : (st.env.map (frzV st.heap)).getD t .any = frzV st.heap (st.env.getD t .any) := by simp [List.getD_eq_getElem?_getD, ht']
    show RV cx ρ _ w ((st.env.map (frzV st.heap)).getD t .any) _
    rw [e]
    exact RV_frz hi.hv (List.all_eq_true.1 h1 _ (getD_mem ht')) (hi.env t ht')
  · have hn : lk (st.heap.map (frzB st.heap)) n = some b := hn
    obtain ⟨T, cs, e⟩ := frz_live (lkh hn)
    rw [lk_frz, e] at hn
    simp only [frzB, Option.some.injEq] at hn
    subst hn
    obtain ⟨k, vs, q1, q2, q3⟩ := hi.heap n _ e
    refine ⟨k, vs, q1, q2, RCs_frz hi.hv ?_ q3⟩
    have := List.all_eq_true.1 h2 _ (getD_mem (d := none) (lk_lt (lkh e)))
    have e2 : st.heap.getD n none = some (.box T cs) := e
    rw [e2] at this; exact this
  · have hn : (lk (st.heap.map (frzB st.heap)) n).isSome = true := hn
    have hm : (lk (st.heap.map (frzB st.heap)) m).isSome = true := hm
    obtain ⟨T1, c1, e1⟩ := frz_live hn
    obtain ⟨T2, c2, e2⟩ := frz_live hm
    exact hi.inj n m b (lkh e1) (lkh e2)
  · show lk (st.heap.map (frzB st.heap)) n = none
    rw [lk_frz, hn]; rfl
end
end Go.Eng
