/- What an operation reads of the heap, and what it changes there: all operations. -/
import Derived.Test.YtnafjjkjogngjaaE22
set_option linter.unusedVariables false
set_option linter.unusedSimpArgs false
namespace Go.Eng
open Go Go.RowKit

section
variable {cx : Cx} {env : List V} {h h' : Heap}

theorem lkh {n : Nat} {b : Blk} (hk : lk h n = some b) : (lk h n).isSome = true := by rw [hk]; rfl

theorem load_local {nm : Nat} {T : TypeId} {x : Operand} {e : Eff} (he : loadE cx T env h x = some e) : Loc (fun h' => loadE cx T env h' x) nm h e := by
  unfold loadE at he
  split at he
  · cases he
  · rename_i i hT
    split at he
    · rename_i n off hx
      split at he
      · rename_i B cs hk
        split at he
        · rename_i hle
          injection he with he; subst he
          refine ⟨[], rfl, fun p hp => by simp at hp, fun h' hh => ?_⟩
          have := hh n (List.mem_singleton.2 rfl)
          simp only [loadE, hT, hx, this, hk, if_pos hle]; rfl
        · cases he
      · cases he
    · rename_i n t k j hx
      split at he
      · rename_i B t' l hk
        split at he
        · rename_i ett; subst ett
          split at he
          · rename_i hle
            injection he with he; subst he
            refine ⟨[], rfl, fun p hp => by simp at hp, fun h' hh => ?_⟩
            have := hh n (List.mem_singleton.2 rfl)
            simp only [loadE, hT, hx, this, hk, if_pos hle, dite_true]; rfl
          · cases he
        · cases he
      · cases he
    · rename_i cs hx
      split at he
      · rename_i hle
        simp only [pure1] at he
        injection he with he; subst he
        refine ⟨[], rfl, fun p hp => by simp at hp, fun h' hh => ?_⟩
        simp only [loadE, hT, hx, if_pos hle, pure1]; rfl
      · cases he
    · cases he

theorem store_local {nm : Nat} {T : TypeId} {x y : Operand} {e : Eff} (he : storeE cx T env h x y = some e) : Loc (fun h' => storeE cx T env h' x y) nm h e := by
  unfold storeE at he
  split at he
  · cases he
  · rename_i i hT
    split at he
    · rename_i g ys hy
      split at he
      · rename_i hlen
        split at he
        · rename_i n off hx
          split at he
          · rename_i B cs hk
            split at he
            · rename_i hle
              injection he with he; subst he
              refine ⟨[(n, some (.box B (putL cs off ys)))], rfl, fun p hp => ?_, fun h' hh => ?_⟩
              · obtain rfl := List.mem_singleton.1 hp
                exact ⟨List.mem_singleton.2 rfl, .inr (.inr (lkh hk))⟩
              · have := hh n (List.mem_singleton.2 rfl)
                simp only [storeE, hT, hy, if_pos hlen, hx, this, hk, if_pos hle]; rfl
            · cases he
          · cases he
        · rename_i n t k j hx
          split at he
          · rename_i B t' l ds hk hds
            split at he
            · rename_i ett; subst ett
              split at he
              · rename_i hle
                split at he
                · rename_i z hz
                  injection he with he; subst he
                  refine ⟨[(n, _)], rfl, fun p hp => ?_, fun h' hh => ?_⟩
                  · obtain rfl := List.mem_singleton.1 hp
                    exact ⟨List.mem_singleton.2 rfl, .inr (.inr (lkh hk))⟩
                  · have := hh n (List.mem_singleton.2 rfl)
                    simp only [storeE, hT, hy, if_pos hlen, hx, this, hk, hds, if_pos hle, dite_true, hz]; rfl
                · cases he
              · cases he
            · cases he
          · cases he
        · cases he
      · cases he
    · cases he

theorem append_local {nm : Nat} {T : TypeId} {s x : C} {e : Eff} (he : appendE cx T nm h s x = some e) : Loc (fun h' => appendE cx T nm h' s x) nm h e := by
  unfold appendE at he
  split at he
  · rename_i E t n1 z1 es1 hT
    split at he
    · cases he
    · rename_i t2 l2 f2 r2 p hsl
      split at he
      · rename_i e2; subst e2
        split at he
        · injection he with he; subst he
          refine ⟨[(nm, _)], rfl, fun p hp => ?_, fun h' hh => ?_⟩
          · obtain rfl := List.mem_singleton.1 hp
            exact ⟨List.mem_singleton.2 rfl, .inr (.inl rfl)⟩
          · have := slOf_local hsl (h' := h') hh
            simp only [appendE, hT, this, dite_true]; rfl
        · rename_i nl full t' l
          split at he
          · rename_i e1; subst e1
            injection he with he; subst he
            refine ⟨[(nm, _)], rfl, fun p hp => ?_, fun h' hh => ?_⟩
            · obtain rfl := List.mem_singleton.1 hp
              exact ⟨List.mem_singleton.2 rfl, .inr (.inl rfl)⟩
            · have := slOf_local hsl (h' := h') hh
              simp only [appendE, hT, this, dite_true]; rfl
          · cases he
        · rename_i n t' full len
          split at he
          · rename_i e' t'' l hk
            split at he
            · rename_i e1; subst e1
              split at he
              · rename_i hc
                injection he with he; subst he
                refine ⟨[(n, none), (nm, _)], rfl, fun p hp => ?_, fun h' hh => ?_⟩
                · rcases List.mem_cons.1 hp with rfl | hp
                  · exact ⟨List.mem_cons_self, .inl rfl⟩
                  · obtain rfl := List.mem_singleton.1 hp
                    exact ⟨List.mem_cons_of_mem _ (List.mem_singleton.2 rfl), .inr (.inl rfl)⟩
                · have h1 := slOf_local hsl (h' := h') (fun m hm => hh m (List.mem_cons_of_mem _ hm))
                  have h2 := hh n List.mem_cons_self
                  simp only [appendE, hT, h1, h2, hk, dite_true, if_pos hc]; rfl
              · cases he
            · cases he
          · cases he
        · cases he
      · cases he
  · cases he

theorem copy_local {nm : Nat} {E : TypeId} {t : ET} {s x : C} {e : Eff} (he : copyE E t h s x = some e) : Loc (fun h' => copyE E t h' s x) nm h e := by
  unfold copyE at he
  split at he
  · rename_i n tn full off len
    split at he
    · rename_i htn
      split at he
      · rename_i B t' l t2 l2 f2 r2 p hk hsl
        split at he
        · rename_i e1; subst e1
          split at he
          · rename_i e2; subst e2
            split at he
            · rename_i hc
              injection he with he; subst he
              refine ⟨[(n, _)], rfl, fun p hp => ?_, fun h' hh => ?_⟩
              · obtain rfl := List.mem_singleton.1 hp
                exact ⟨List.mem_singleton.2 rfl, .inr (.inr (lkh hk))⟩
              · have h1 := slOf_local hsl (h' := h') (fun m hm => hh m (List.mem_cons_of_mem _ hm))
                have h2 := hh n List.mem_cons_self
                simp only [copyE, htn, h1, h2, hk, dite_true, if_pos hc, if_true]; rfl
            · cases he
          · cases he
        · cases he
      · cases he
    · cases he
  · cases he

theorem clear_local {nm : Nat} {E : TypeId} {t : ET} {s : C} {e : Eff} (he : clearE E t h s = some e) : Loc (fun h' => clearE E t h' s) nm h e := by
  unfold clearE at he
  split at he
  · rename_i n tn full off len
    split at he
    · rename_i htn
      split at he
      · rename_i B t' l hk
        split at he
        · rename_i e1; subst e1
          injection he with he; subst he
          refine ⟨[(n, _)], rfl, fun p hp => ?_, fun h' hh => ?_⟩
          · obtain rfl := List.mem_singleton.1 hp
            exact ⟨List.mem_singleton.2 rfl, .inr (.inr (lkh hk))⟩
          · have h2 := hh n (List.mem_singleton.2 rfl)
            simp only [clearE, htn, h2, hk, dite_true, if_true]; rfl
        · cases he
      · cases he
    · cases he
  · cases he

theorem callG_local {nm : Nat} {G : List DArg → Option Ret} {as : List Arg} {e : Eff} (he : callG G nm h as = some e) : Loc (fun h' => callG G nm h' as) nm h e := by
  unfold callG at he
  split at he
  · cases he
  · rename_i ds ks p hd
    split at he
    · cases he
    · rename_i r hr
      injection he with he; subst he
      rcases r with ⟨ro, row, vals⟩
      rcases row with _ | ⟨T, t, l⟩
      · refine ⟨(lentOf (Ret.lends ⟨ro, none, vals⟩) ks).map fun k => (k, none), kill_patch _ h, fun p hp => ?_, fun h' hh => ?_⟩
        · obtain ⟨k, hk, rfl⟩ := List.mem_map.1 hp
          exact ⟨List.mem_cons_of_mem _ hk, .inl rfl⟩
        · simp only [callG, demArgs_local as _ _ _ hd hh, hr, kill_patch]
      · refine ⟨((lentOf (Ret.lends ⟨ro, some (T, ⟨t, l⟩), vals⟩) ks).map fun k => (k, none)) ++ [(nm, some (.arr T t l))], ?_, fun p hp => ?_, fun h' hh => ?_⟩
        · rw [patch_append]; simp only [kill_patch]; rfl
        · rcases List.mem_append.1 hp with hp | hp
          · obtain ⟨k, hk, rfl⟩ := List.mem_map.1 hp
            exact ⟨List.mem_cons_of_mem _ hk, .inl rfl⟩
          · obtain rfl := List.mem_singleton.1 hp
            exact ⟨List.mem_cons_self, .inr (.inl rfl)⟩
        · simp only [callG, demArgs_local as _ _ _ hd hh, hr, kill_patch, patch_append]; rfl

theorem blt_local {b : Builtin} {nm : Nat} {vs : List V} {ts : List TypeId} {e : Eff} (he : bltE cx b nm h vs ts = some e) : Loc (fun h' => bltE cx b nm h' vs ts) nm h e := by
  have quiet : (∀ h1 h2, bltE cx b nm h2 vs ts = (bltE cx b nm h1 vs ts).map fun e => ⟨e.ok, e.val, h2, e.rd, e.wr⟩) → Loc (fun h' => bltE cx b nm h' vs ts) nm h e := fun hq => Loc.quiet he hq
  have he0 := he
  unfold bltE at he
  split at he
  · refine quiet fun h1 h2 => ?_
    simp only [bltE, pure1]
    split <;> simp_all
  · rename_i s x T T2
    split at he
    · rename_i hT2
      obtain ⟨dl, h1, h2, h3⟩ := append_local he
      exact ⟨dl, h1, h2, fun h' hh => by simp only [bltE, hT2]; exact h3 h' hh⟩
    · cases he
  · rename_i s x T T2
    split at he
    · rename_i hT
      obtain ⟨dl, h1, h2, h3⟩ := copy_local (nm := nm) he
      exact ⟨dl, h1, h2, fun h' hh => by simp only [bltE, hT]; exact h3 h' hh⟩
    · cases he
  · rename_i s T
    split at he
    · rename_i hT
      obtain ⟨dl, h1, h2, h3⟩ := clear_local (nm := nm) he
      exact ⟨dl, h1, h2, fun h' hh => by simp only [bltE, hT]; exact h3 h' hh⟩
    · cases he
  · refine quiet fun h1 h2 => ?_
    simp only [bltE, pure1]
    split <;> simp_all
  · refine quiet fun h1 h2 => ?_
    simp only [bltE, pure1]
    split <;> simp_all
  · cases he

theorem opE_local {nm : Nat} {o : Oper} {e : Eff} (he : opE cx nm env h o = some e) : Loc (fun h' => opE cx nm env h' o) nm h e := by
  cases hop : o.op
  case load T x =>
    simp only [opE, hop] at he ⊢
    exact load_local he
  case store T x y =>
    simp only [opE, hop] at he ⊢
    exact store_local he
  case alloc T =>
    simp only [opE, hop] at he ⊢
    split at he
    · injection he with he; subst he
      exact ⟨[(nm, _)], rfl, fun p hp => by obtain rfl := List.mem_singleton.1 hp; exact ⟨List.mem_singleton.2 rfl, .inr (.inl rfl)⟩, fun h' _ => rfl⟩
    · cases he
  case box T x =>
    simp only [opE, hop] at he ⊢
    split at he
    · rename_i i g cs hT hx
      split at he
      · rename_i hc
        injection he with he; subst he
        exact ⟨[(nm, _)], rfl, fun p hp => by obtain rfl := List.mem_singleton.1 hp; exact ⟨List.mem_singleton.2 rfl, .inr (.inl rfl)⟩, fun h' _ => by simp only [hT, hx, if_pos hc]; rfl⟩
      · cases he
    · cases he
  case makeSlice T x y =>
    simp only [opE, hop] at he ⊢
    split at he
    · injection he with he; subst he
      exact ⟨[(nm, _)], rfl, fun p hp => by obtain rfl := List.mem_singleton.1 hp; exact ⟨List.mem_singleton.2 rfl, .inr (.inl rfl)⟩, fun h' _ => rfl⟩
    · cases he
  case buildSlice T n ps =>
    simp only [opE, hop] at he ⊢
    split at he
    · rename_i E t n1 z1 es1 hT
      split at he
      · rename_i l ks p hr
        split at he
        · rename_i hn
          injection he with he; subst he
          refine ⟨(ks.map fun k => (k, none)) ++ [(nm, some (.arr E t l))], ?_, fun p hp => ?_, fun h' hh => ?_⟩
          · rw [patch_append]; simp only [kill_patch]; rfl
          · rcases List.mem_append.1 hp with hp | hp
            · obtain ⟨k, hk, rfl⟩ := List.mem_map.1 hp
              exact ⟨List.mem_cons_of_mem _ hk, .inl rfl⟩
            · obtain rfl := List.mem_singleton.1 hp
              exact ⟨List.mem_cons_self, .inr (.inl rfl)⟩
          · simp only [rowsB_local ps.toList _ _ _ _ _ _ hr hh, if_pos hn, kill_patch, patch_append]; rfl
        · cases he
      · cases he
    · cases he
  case call c =>
    simp only [opE, hop] at he ⊢
    split at he
    · exact blt_local he
    · split at he
      · rename_i G as hw
        obtain ⟨dl, h1, h2, h3⟩ := callG_local he
        exact ⟨dl, h1, h2, fun h' hh => by simp only [hw]; exact h3 h' hh⟩
      · cases he
  case makeFunc fn first caps =>
    refine Loc.quiet he fun h1 h2 => ?_
    simp only [opE, hop, pure1]
    cases fn
    case func f =>
      simp only
      generalize first.toList.map (opv env) = A
      generalize caps.toList.map (opv env) = B
      rcases A with _ | ⟨a, A⟩ <;> rcases B with _ | ⟨b, B⟩ <;> simp only
      · rfl
      all_goals
        generalize ptrs _ = p1
        generalize ptrs _ = p2
        generalize refs _ = q1
        generalize refs _ = q2
        cases p1 <;> cases p2 <;> cases q1 <;> cases q2 <;> rfl
    all_goals rfl
  case build T ps =>
    refine Loc.quiet he fun h1 h2 => ?_
    simp only [opE, hop, pure1]
    generalize cx.tt T = q
    rcases q with _ | ⟨kd, n, z, e⟩
    · rfl
    · cases kd
      case struct fs =>
        simp only
        generalize fillB cx T env ps.toList (z.map .d) = r
        cases r <;> rfl
      case array m F =>
        simp only
        generalize cx.tt F = q2
        rcases q2 with _ | fi
        · rfl
        · simp only
          generalize fillA cx F fi env ps.toList (z.map .d) = r
          cases r <;> rfl
      all_goals rfl
  case fieldAddr S x f =>
    refine Loc.quiet he fun h1 h2 => ?_
    simp only [opE, hop, pure1]
    generalize fieldOf cx S f = p
    rcases p with _ | ⟨off, F⟩
    · rfl
    · simp only
      split
      · rfl
      · split <;> simp_all
  all_goals
    refine Loc.quiet he fun h1 h2 => ?_
    simp only [opE, hop, pure1]
    first
      | rfl
      | (split <;> first | rfl | (simp_all; done) | (split <;> simp_all; done))
      | skip
end
end Go.Eng
