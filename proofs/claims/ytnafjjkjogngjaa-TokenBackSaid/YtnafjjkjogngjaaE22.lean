/- What an operation reads of the heap, and what it changes there. -/
import Derived.Test.YtnafjjkjogngjaaE21
set_option linter.unusedVariables false
set_option linter.unusedSimpArgs false
namespace Go.Eng
open Go Go.RowKit

def patch (h : Heap) : List (Nat × Option Blk) → Heap
  | [] => h
  | p :: ps => patch (h.set p.1 p.2) ps

theorem kill_patch : ∀ (ks : List Nat) (h : Heap), kill h ks = patch h (ks.map fun k => (k, none))
  | [], _ => rfl
  | k :: ks, h => by rw [kill, kill_patch ks]; rfl
theorem patch_append : ∀ (a b : List (Nat × Option Blk)) (h : Heap), patch h (a ++ b) = patch (patch h a) b
  | [], _, _ => rfl
  | p :: a, b, h => patch_append a b (h.set p.1 p.2)
theorem patch_length : ∀ (a : List (Nat × Option Blk)) (h : Heap), (patch h a).length = h.length
  | [], _ => rfl
  | p :: a, h => by rw [patch, patch_length a]; simp
theorem lk_patch : ∀ (a : List (Nat × Option Blk)) (h : Heap) (n : Nat), (∀ p ∈ a, p.1 ≠ n) → lk (patch h a) n = lk h n
  | [], _, _, _ => rfl
  | p :: a, h, n, hn => by
    rw [patch, lk_patch a _ n (fun q hq => hn q (List.mem_cons_of_mem _ hq)), lk_set_ne (fun e => hn p List.mem_cons_self e.symm)]

def Loc (F : Heap → Option Eff) (nm : Nat) (h : Heap) (e : Eff) : Prop :=
  ∃ dl, e.heap = patch h dl ∧ (∀ p ∈ dl, p.1 ∈ e.wr ∧ (p.2 = none ∨ p.1 = nm ∨ (lk h p.1).isSome = true)) ∧ ∀ h', (∀ n ∈ e.rd, lk h' n = lk h n) → F h' = some ⟨e.ok, e.val, patch h' dl, e.rd, e.wr⟩

section
variable {cx : Cx} {env : List V} {h h' : Heap}

theorem Loc.quiet {F : Heap → Option Eff} {nm : Nat} {e : Eff} (he : F h = some e) (hF : ∀ h1 h2, F h2 = (F h1).map fun e => ⟨e.ok, e.val, h2, e.rd, e.wr⟩) : Loc F nm h e := by
  refine ⟨[], ?_, fun p hp => by simp at hp, fun h' _ => by rw [hF h h', he]; rfl⟩
  have := hF h h
  rw [he] at this
  injection this with this
  rw [this]; rfl

theorem dem0_local {c : C} {d : D} {ks : List Nat} {p : Bool} (he : dem0 h c = some (d, ks, p)) (hh : ∀ n ∈ ks, lk h' n = lk h n) : dem0 h' c = some (d, ks, p) := by
  unfold dem0 at he ⊢
  cases c with
  | own n t full off len =>
    simp only at he ⊢
    have hn : n ∈ ks := by
      split at he
      · split at he
        · injection he with he; injection he with _ he; injection he with he _; rw [← he]; exact List.mem_singleton.2 rfl
        · cases he
      · cases he
    rw [hh n hn]; exact he
  | _ => exact he
theorem demL0_local : ∀ (cs : List C) (ds : List D) (ks : List Nat) (p : Bool), demL0 h cs = some (ds, ks, p) → (∀ n ∈ ks, lk h' n = lk h n) → demL0 h' cs = some (ds, ks, p)
  | [], _, _, _, he, _ => he
  | c :: cs, ds, ks, p, he, hh => by
    simp only [demL0] at he ⊢
    split at he
    · rename_i x a p1 xs b p2 h1 h2
      injection he with he; injection he with e1 he; injection he with e2 e3; subst e1; subst e2; subst e3
      rw [dem0_local h1 (fun n hn => hh n (List.mem_append.2 (.inl hn))), demL0_local cs _ _ _ h2 (fun n hn => hh n (List.mem_append.2 (.inr hn)))]
    · cases he
theorem demBoxes_local : ∀ (ns : List Nat) (rs : List (List D)) (ks : List Nat) (p : Bool), demBoxes h ns = some (rs, ks, p) → (∀ n ∈ ks, lk h' n = lk h n) → demBoxes h' ns = some (rs, ks, p)
  | [], _, _, _, he, _ => he
  | n :: ns, rs, ks, p, he, hh => by
    simp only [demBoxes] at he ⊢
    split at he
    · rename_i B cs hk
      split at he
      · rename_i xs a p1 r b p2 h1 h2
        injection he with he; injection he with e1 he; injection he with e2 e3; subst e1; subst e2; subst e3
        rw [hh n List.mem_cons_self, hk]
        simp only
        rw [demL0_local cs _ _ _ h1 (fun m hm => hh m (List.mem_cons_of_mem _ (List.mem_append.2 (.inl hm)))), demBoxes_local ns _ _ _ h2 (fun m hm => hh m (List.mem_cons_of_mem _ (List.mem_append.2 (.inr hm))))]
      · cases he
    · cases he
theorem dem_local {c : C} {d : D} {ks : List Nat} {p : Bool} (he : dem h c = some (d, ks, p)) (hh : ∀ n ∈ ks, lk h' n = lk h n) : dem h' c = some (d, ks, p) := by
  unfold dem at he ⊢
  split at he
  · rename_i f first caps
    split at he
    · rename_i a x1 p1 b y p2 h1 h2
      injection he with he; injection he with e1 he; injection he with e2 e3; subst e1; subst e2; subst e3
      rw [demBoxes_local first _ _ _ h1 (fun n hn => hh n (List.mem_append.2 (.inl hn))), demBoxes_local caps _ _ _ h2 (fun n hn => hh n (List.mem_append.2 (.inr hn)))]
    · cases he
  · exact dem0_local he hh
theorem demL_local : ∀ (cs : List C) (ds : List D) (ks : List Nat) (p : Bool), demL h cs = some (ds, ks, p) → (∀ n ∈ ks, lk h' n = lk h n) → demL h' cs = some (ds, ks, p)
  | [], _, _, _, he, _ => he
  | c :: cs, ds, ks, p, he, hh => by
    simp only [demL] at he ⊢
    split at he
    · rename_i x a p1 xs b p2 h1 h2
      injection he with he; injection he with e1 he; injection he with e2 e3; subst e1; subst e2; subst e3
      rw [dem_local h1 (fun n hn => hh n (List.mem_append.2 (.inl hn))), demL_local cs _ _ _ h2 (fun n hn => hh n (List.mem_append.2 (.inr hn)))]
    · cases he
theorem demArgs_local : ∀ (as : List Arg) (ds : List DArg) (ks : List Nat) (p : Bool), demArgs h as = some (ds, ks, p) → (∀ n ∈ ks, lk h' n = lk h n) → demArgs h' as = some (ds, ks, p)
  | [], _, _, _, he, _ => he
  | (g, cs) :: as, ds, ks, p, he, hh => by
    simp only [demArgs] at he ⊢
    split at he
    · rename_i x a p1 xs b p2 h1 h2
      injection he with he; injection he with e1 he; injection he with e2 e3; subst e1; subst e2; subst e3
      rw [demL_local cs _ _ _ h1 (fun n hn => hh n (List.mem_append.2 (.inl hn))), demArgs_local as _ _ _ h2 (fun n hn => hh n (List.mem_append.2 (.inr hn)))]
    · cases he

theorem rowsB_mono {e : TypeId} {t : ET} : ∀ (ps : List (Nat × Operand)) (l l' : List (Ty t)) (ks ks' : List Nat) (p p' : Bool), rowsB cx e t env h ps l ks p = some (l', ks', p') → ∀ n ∈ ks, n ∈ ks'
  | [], l, l', ks, ks', p, p', he, n, hn => by
    simp only [rowsB] at he
    injection he with he; injection he with _ he; injection he with he _; rw [← he]; exact hn
  | (i, x) :: r, l, l', ks, ks', p, p', he, n, hn => by
    simp only [rowsB] at he
    split at he
    · split at he
      · split at he
        · split at he
          · exact rowsB_mono r _ _ _ _ _ _ he n (List.mem_append.2 (.inl hn))
          · cases he
        · cases he
      · cases he
    · cases he
theorem rowsB_local {e : TypeId} {t : ET} : ∀ (ps : List (Nat × Operand)) (l l' : List (Ty t)) (ks ks' : List Nat) (p p' : Bool), rowsB cx e t env h ps l ks p = some (l', ks', p') → (∀ n ∈ ks', lk h' n = lk h n) → rowsB cx e t env h' ps l ks p = some (l', ks', p')
  | [], l, l', ks, ks', p, p', he, _ => he
  | (i, x) :: r, l, l', ks, ks', p, p', he, hh => by
    simp only [rowsB] at he ⊢
    split at he
    · rename_i g ys hy
      split at he
      · rename_i ds k q hd
        split at he
        · rename_i y hdec
          split at he
          · rename_i hlt
            have hm := rowsB_mono r _ _ _ _ _ _ he
            rw [demL_local ys _ _ _ hd (fun n hn => hh n (hm n (List.mem_append.2 (.inr hn))))]
            simp only [hdec, if_pos hlt]
            exact rowsB_local r _ _ _ _ _ _ he hh
          · cases he
        · cases he
      · cases he
    · cases he

theorem slOf_local {c : C} {s : Sl} (he : slOf h c = some s) (hh : ∀ n ∈ s.rd, lk h' n = lk h n) : slOf h' c = some s := by
  unfold slOf at he ⊢
  cases c with
  | own n t full off len =>
    simp only at he ⊢
    have hn : n ∈ s.rd := by
      split at he
      · split at he
        · injection he with he; rw [← he]; exact List.mem_singleton.2 rfl
        · cases he
      · cases he
    rw [hh n hn]; exact he
  | d x => cases x <;> exact he
  | _ => cases he
end
end Go.Eng
