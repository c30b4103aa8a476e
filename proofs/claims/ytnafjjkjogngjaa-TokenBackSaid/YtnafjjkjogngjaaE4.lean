/- What the call has made: how it grows, is written, is given up. -/
import Derived.Test.YtnafjjkjogngjaaE3
set_option linter.unusedVariables false
set_option linter.unusedSimpArgs false
namespace Go.Eng
open Go Go.RowKit

def upd (ρ : Rho) (n : Nat) (b : Option Nat) : Rho := fun m => if m = n then b else ρ m
theorem upd_same (ρ : Rho) (n : Nat) (b : Option Nat) : upd ρ n b n = b := by simp [upd]
theorem upd_ne {ρ : Rho} {n m : Nat} {b : Option Nat} (h : m ≠ n) : upd ρ n b m = ρ m := by simp [upd, h]

theorem lk_set (h : Heap) (n m : Nat) (b : Option Blk) : lk (h.set n b) m = if m = n ∧ n < h.length then b else lk h m := by
  unfold lk
  rw [List.getD_eq_getElem?_getD, List.getElem?_set, List.getD_eq_getElem?_getD]
  by_cases hm : n = m
  · subst hm
    by_cases hl : n < h.length
    · simp [hl]
    · simp [hl, List.getElem?_eq_none (Nat.le_of_not_lt hl)]
  · have : ¬ m = n := fun e => hm e.symm
    simp [hm, this]
theorem lk_set_same {h : Heap} {n : Nat} {b : Option Blk} (hl : n < h.length) : lk (h.set n b) n = b := by simp [lk_set, hl]
theorem lk_set_ne {h : Heap} {n m : Nat} {b : Option Blk} (hm : m ≠ n) : lk (h.set n b) m = lk h m := by simp [lk_set, hm]
theorem lk_lt {h : Heap} {n : Nat} (hs : (lk h n).isSome = true) : n < h.length := by
  rcases Nat.lt_or_ge n h.length with h1 | h1
  · exact h1
  · simp [lk, List.getD_eq_getElem?_getD, List.getElem?_eq_none h1] at hs
theorem lk_append (h : Heap) (k n : Nat) : lk (h ++ List.replicate k none) n = lk h n := by
  unfold lk
  rw [List.getD_eq_getElem?_getD, List.getD_eq_getElem?_getD, List.getElem?_append]
  split
  · rfl
  · rename_i hl
    rw [List.getElem?_replicate, List.getElem?_eq_none (Nat.le_of_not_lt hl)]
    split <;> rfl

structure HInv (cx : Cx) (ok : Nat → Prop) (w0 : World) (ρ : Rho) (h : Heap) (w : World) : Prop where
  heap : ∀ n b, lk h n = some b → RB cx ρ (okc ok w0.heap.size h ρ) w n b
  inj : ∀ n m b, (lk h n).isSome = true → (lk h m).isSome = true → ρ n = some b → ρ m = some b → n = m
  own : ∀ n b, ρ n = some b → w0.heap.size ≤ b ∧ b < w.heap.size
  fresh : ∀ n, h.length ≤ n → ρ n = none
  below : Below w0.heap.size w0 w

section
variable {cx : Cx} {ok : Nat → Prop} {w0 : World} {ρ : Rho} {st : St} {a : Act} {w : World} {h : Heap}

theorem Inv.hv (hi : Inv cx ok w0 ρ st a w) : HInv cx ok w0 ρ st.heap w := ⟨hi.heap, hi.inj, hi.own, hi.fresh, hi.below⟩
theorem HInv.lt (hi : HInv cx ok w0 ρ h w) : ∀ n b, ρ n = some b → b < w.heap.size := fun n b e => (hi.own n b e).2

theorem Inv.go {ρ' : Rho} {h' : Heap} {w' : World} (hi : Inv cx ok w0 ρ st a w) (hx : ∀ N, Ext N (okc ok w0.heap.size st.heap ρ) (okc ok w0.heap.size h' ρ') ρ ρ' w w') (hh : HInv cx ok w0 ρ' h' w') :
    Inv cx ok w0 ρ' ⟨st.env, h', st.fb⟩ a w' :=
  ⟨hi.size, fun t ht => Ext.all_V hx hi.hv.lt (hi.env t ht), hh.heap, hh.inj, hh.own, hh.fresh, hh.below, hi.defers⟩

theorem Inv.put {v : V} {x : Value} {dst : Option Tmp} (hi : Inv cx ok w0 ρ st a w) (hv : RV cx ρ (okc ok w0.heap.size st.heap ρ) w v x) :
    Inv cx ok w0 ρ ⟨putV st.env dst v, st.heap, st.fb⟩ (a.put dst x) w := by
  cases dst with
  | none => exact hi
  | some d =>
    refine ⟨by simp [putV, Act.put, hi.size], fun t ht => ?_, hi.heap, hi.inj, hi.own, hi.fresh, hi.below, hi.defers⟩
    have hl : t < st.env.length := by simpa [putV] using ht
    have ha : t < a.tmps.size := by rw [hi.size]; exact hl
    by_cases e : d = t
    · subst e
      have h1 : (putV st.env (some d) v).getD d .any = v := by simp [putV, List.getD_eq_getElem?_getD, List.getElem?_set, hl]
      have h2 : (a.put (some d) x).tmps.getD d undef = x := by simp [Act.put, ha]
      rw [h1, h2]
      exact hv
    · have h1 : (putV st.env (some d) v).getD t .any = st.env.getD t .any := by simp [putV, List.getD_eq_getElem?_getD, List.getElem?_set, e]
      have h2 : (a.put (some d) x).tmps.getD t undef = a.tmps.getD t undef := by simp [Act.put, ha, Array.getElem_setIfInBounds, e]
      rw [h1, h2]
      exact hi.env t hl

theorem Ext.refl (N : Nat) (ok : Nat → Prop) (ρ : Rho) (w : World) : Ext N ok ok ρ ρ w w := ⟨fun _ _ _ h => h, fun _ _ _ => rfl, fun _ _ h => h, fun _ _ => rfl, Nat.le_refl _⟩
theorem Ext.trans {N : Nat} {o1 o2 o3 : Nat → Prop} {r1 r2 r3 : Rho} {w1 w2 w3 : World} (x : Ext N o1 o2 r1 r2 w1 w2) (y : Ext N o2 o3 r2 r3 w2 w3) : Ext N o1 o3 r1 r3 w1 w3 :=
  ⟨fun n b hn h => y.rho n b hn (x.rho n b hn h), fun k hk ho => (y.cell k (Nat.lt_of_lt_of_le hk x.size) (x.okk k hk ho)).trans (x.cell k hk ho),
   fun k hk ho => y.okk k (Nat.lt_of_lt_of_le hk x.size) (x.okk k hk ho), fun k hk => (y.room k (Nat.lt_of_lt_of_le hk x.size)).trans (x.room k hk), Nat.le_trans x.size y.size⟩

theorem heap_alloc (w : World) (o : Obj) (k : Nat) (hk : k < w.heap.size) : (w.alloc o).heap[k]? = w.heap[k]? := Below.heap_alloc w o k hk
theorem heap_alloc_new (w : World) (o : Obj) : (w.alloc o).heap[w.heap.size]? = some o := by
  show (w.heap.push o)[w.heap.size]? = _
  simp
theorem roomOf_eq {w w' : World} {k : Nat} (h : w'.heap[k]? = w.heap[k]?) : World.roomOf w' k = World.roomOf w k := by unfold World.roomOf; rw [h]

/-- a new block -/
theorem ext_new (hi : HInv cx ok w0 ρ h w) {nm : Nat} (hρ : ρ nm = none) (o : Obj) (b : Option Blk) (N : Nat) :
    Ext N (okc ok w0.heap.size h ρ) (okc ok w0.heap.size (h.set nm b) (upd ρ nm (some w.heap.size))) ρ (upd ρ nm (some w.heap.size)) w (w.alloc o) := by
  refine ⟨fun n k _ hn => ?_, fun k hk _ => heap_alloc w o k hk, fun k hk ho => ⟨ho.1, fun n hs => ?_⟩, fun k hk => roomOf_eq (heap_alloc w o k hk), by simp⟩
  · have : n ≠ nm := fun e => by rw [e, hρ] at hn; cases hn
    rw [upd_ne this]; exact hn
  · by_cases e : n = nm
    · subst e; rw [upd_same]; intro h2; injection h2 with h2; omega
    · rw [upd_ne e]; rw [lk_set_ne e] at hs; exact ho.2 n hs
theorem HInv.new (hi : HInv cx ok w0 ρ h w) {nm : Nat} (hρ : ρ nm = none) (hl : nm < h.length) (hk : lk h nm = none) (o : Obj) (b : Blk)
    (hb : RB cx (upd ρ nm (some w.heap.size)) (okc ok w0.heap.size (h.set nm (some b)) (upd ρ nm (some w.heap.size))) (w.alloc o) nm b) :
    HInv cx ok w0 (upd ρ nm (some w.heap.size)) (h.set nm (some b)) (w.alloc o) := by
  have hx := ext_new hi hρ o (some b)
  refine ⟨fun n c hn => ?_, fun n m k hn hm h1 h2 => ?_, fun n k hn => ?_, fun n hn => ?_, hi.below.alloc hi.below.size _⟩
  · by_cases e : n = nm
    · subst e; rw [lk_set_same hl] at hn; injection hn with hn; subst hn; exact hb
    · rw [lk_set_ne e] at hn
      exact Ext.all_B hx hi.lt (fun k hk => heap_alloc w o k (hi.lt n k hk)) (fun h0 => by rw [upd_ne e]; exact h0) (hi.heap n c hn)
  · by_cases e1 : n = nm <;> by_cases e2 : m = nm
    · rw [e1, e2]
    · rw [e1, upd_same] at h1; rw [upd_ne e2] at h2; injection h1 with h1; have := hi.lt m k h2; omega
    · rw [e2, upd_same] at h2; rw [upd_ne e1] at h1; injection h2 with h2; have := hi.lt n k h1; omega
    · rw [upd_ne e1] at h1; rw [upd_ne e2] at h2; rw [lk_set_ne e1] at hn; rw [lk_set_ne e2] at hm; exact hi.inj n m k hn hm h1 h2
  · by_cases e : n = nm
    · rw [e, upd_same] at hn; injection hn with hn; subst hn; exact ⟨hi.below.size, by simp⟩
    · rw [upd_ne e] at hn; have := hi.own n k hn; exact ⟨this.1, by simp; omega⟩
  · have : n ≠ nm := fun e => by simp at hn; omega
    rw [upd_ne this]; exact hi.fresh n (by simpa using hn)

/-- what is given up is data from now on -/
theorem okc_kill {B0 n k : Nat} (ho : okc ok B0 h ρ k) : okc ok B0 (h.set n none) ρ k :=
  ⟨ho.1, fun m hs => ho.2 m (by
    by_cases e : m = n
    · subst e; rw [lk_set] at hs; split at hs
      · cases hs
      · exact hs
    · rwa [lk_set_ne e] at hs)⟩
theorem ext_kill (n N : Nat) (B0 : Nat) : Ext N (okc ok B0 h ρ) (okc ok B0 (h.set n none) ρ) ρ ρ w w :=
  ⟨fun _ _ _ e => e, fun _ _ _ => rfl, fun _ _ ho => okc_kill ho, fun _ _ => rfl, Nat.le_refl _⟩
theorem HInv.kill (hi : HInv cx ok w0 ρ h w) (n : Nat) : HInv cx ok w0 ρ (h.set n none) w := by
  have key : ∀ m, (lk (h.set n none) m).isSome = true → lk (h.set n none) m = lk h m := fun m hm => by
    rw [lk_set] at hm ⊢
    split at hm
    · cases hm
    · rename_i hc; rw [if_neg hc]
  refine ⟨fun m c hm => ?_, fun m1 m2 k h1 h2 => ?_, hi.own, fun m hm => hi.fresh m (by simpa using hm), hi.below⟩
  · have hs := key m (by rw [hm]; rfl)
    rw [hs] at hm
    exact Ext.all_B (fun N => ext_kill n N _) hi.lt (fun _ _ => rfl) (fun h0 => h0) (hi.heap m c hm)
  · rw [key m1 h1] at h1; rw [key m2 h2] at h2; exact hi.inj m1 m2 k h1 h2

/-- a block of the call's own is written -/
theorem ext_write (hi : HInv cx ok w0 ρ h w) {n b : Nat} (hs : (lk h n).isSome = true) (hn : ρ n = some b) {cs cs' : Array Value} {T : TypeId} (hb : w.heap[b]? = some (.cells cs T (0, 0))) (hz : cs'.size = cs.size)
    (blk : Blk) (N : Nat) : Ext N (okc ok w0.heap.size h ρ) (okc ok w0.heap.size (h.set n (some blk)) ρ) ρ ρ w (w.setRow b cs') := by
  have hne : ∀ k, k ≠ b → (w.setRow b cs').heap[k]? = w.heap[k]? := fun k hk => by
    simp only [World.setRow, Array.getElem?_modify]
    rw [if_neg (fun e => hk e.symm)]
  refine ⟨fun _ _ _ e => e, fun k _ ho => hne k (fun e => ho.2 n hs (by rw [e]; exact hn)), fun k _ ho => ⟨ho.1, fun m hm => ?_⟩, fun k _ => ?_, by simp [World.setRow]⟩
  · by_cases e : m = n
    · subst e; exact ho.2 m hs
    · rw [lk_set_ne e] at hm; exact ho.2 m hm
  · by_cases e : k = b
    · subst e
      unfold World.roomOf
      rw [hb, setRow_heap w k cs cs' T (0, 0) hb]
      exact hz
    · exact roomOf_eq (hne k e)
theorem HInv.write (hi : HInv cx ok w0 ρ h w) {n b : Nat} (hs : (lk h n).isSome = true) (hn : ρ n = some b) {cs cs' : Array Value} {T : TypeId} (hb : w.heap[b]? = some (.cells cs T (0, 0))) (hz : cs'.size = cs.size)
    (blk : Blk) (hblk : RB cx ρ (okc ok w0.heap.size (h.set n (some blk)) ρ) (w.setRow b cs') n blk) : HInv cx ok w0 ρ (h.set n (some blk)) (w.setRow b cs') := by
  have hx := ext_write hi hs hn hb hz blk
  have hl := lk_lt hs
  have key : ∀ m, (lk (h.set n (some blk)) m).isSome = true → (lk h m).isSome = true := fun m hm => by
    by_cases e : m = n
    · rw [e]; exact hs
    · rwa [lk_set_ne e] at hm
  refine ⟨fun m c hm => ?_, fun m1 m2 k h1 h2 => hi.inj m1 m2 k (key m1 h1) (key m2 h2), fun m k hm => ?_, fun m hm => hi.fresh m (by simpa using hm), ?_⟩
  · by_cases e : m = n
    · subst e; rw [lk_set_same hl] at hm; injection hm with hm; subst hm; exact hblk
    · rw [lk_set_ne e] at hm
      refine Ext.all_B hx hi.lt (fun k hk => ?_) (fun h0 => h0) (hi.heap m c hm)
      have : k ≠ b := fun e2 => e (hi.inj m n b (by rw [hm]; rfl) hs (by rw [← e2]; exact hk) hn)
      simp only [World.setRow, Array.getElem?_modify]
      rw [if_neg (fun e => this e.symm)]
  · have := hi.own m k hm; exact ⟨this.1, by simpa [World.setRow] using this.2⟩
  · have hB := (hi.own n b hn).1
    refine hi.below.trans ⟨rfl, rfl, rfl, by simp [World.setRow], fun k hk => ?_⟩
    simp only [World.setRow, Array.getElem?_modify]
    rw [if_neg (by omega)]
end
end Go.Eng
