/- The evaluator, part 2: the texts E16, E17, E18, E19, E20, E21, E22, E23, E24, E25, E26, E27, E28, E29 in one file. -/
import Derived.Test.YtbjeikmkngcjlaaVZE1
import Derived.MapKept
import Derived.RangeFuncRecord
import Derived.RangeFuncSeq
import Derived.LoopN
import Derived.Scope
/- Operations that make memory, third part: append. -/
set_option linter.unusedVariables false
set_option linter.unusedSimpArgs false
namespace Go.Eng
open Go Go.RowKit

section
variable {P : Program} {cx : Cx} {ok : Nat → Prop} {w0 : World} {ρ : Rho} {st : St} {a : Act} {w : World} {h : Heap}

theorem move_ok (hi : HInv cx ok w0 ρ h w) {n nm : Nat} {w' : World} (hs : (lk h n).isSome = true) (hne : n ≠ nm) (hρ : ρ nm = none) (hl : nm < h.length) (hk : lk h nm = none) (hw : ∀ k, ρ n ≠ some k → w'.heap[k]? = w.heap[k]?) (hsz : w'.heap.size = w.heap.size)
    (hroom : ∀ k, World.roomOf w' k = World.roomOf w k) (hB : Below w0.heap.size w0 w') {blk : Blk}
    (hblk : RB cx (upd ρ nm (ρ n)) (okc ok w0.heap.size ((h.set n none).set nm (some blk)) (upd ρ nm (ρ n))) w' nm blk) :
    (∀ N, Ext N (okc ok w0.heap.size h ρ) (okc ok w0.heap.size ((h.set n none).set nm (some blk)) (upd ρ nm (ρ n))) ρ (upd ρ nm (ρ n)) w w') ∧ HInv cx ok w0 (upd ρ nm (ρ n)) ((h.set n none).set nm (some blk)) w' := by
 have hlk : ∀ m, m ≠ nm → lk ((h.set n none).set nm (some blk)) m = if m = n then none else lk h m := fun m hm => by
  rw [lk_set_ne hm, lk_set]
  by_cases e : m = n
  ·rw [if_pos ⟨e, lk_lt hs⟩, if_pos e]
  ·rw [if_neg (fun x => e x.1), if_neg e]
 have live : ∀ m, m ≠ nm → (lk ((h.set n none).set nm (some blk)) m).isSome = true → m ≠ n ∧ (lk h m).isSome = true := fun m hm hx => by
  rw [hlk m hm] at hx
  split at hx
  ·cases hx
  ·rename_i e; exact ⟨e, hx⟩
 have hx : ∀ N, Ext N (okc ok w0.heap.size h ρ) (okc ok w0.heap.size ((h.set n none).set nm (some blk)) (upd ρ nm (ρ n))) ρ (upd ρ nm (ρ n)) w w' := fun N =>
  ⟨fun m b _ hm => by
   have : m ≠ nm := fun e => by rw [e, hρ] at hm; cases hm
   rw [upd_ne this]; exact hm,
   fun k _ ho => hw k (ho.ne hs),
   fun k _ ho => ⟨ho.1, fun m hm => by
    by_cases e : m = nm
    ·rw [e, upd_has]; exact ho.ne hs
    ·rw [upd_has_ne e]; exact ho.2 m (live m e hm).2⟩,
   fun k _ => hroom k, by rw [hsz]; exact Nat.le_refl _⟩
 refine ⟨hx, fun m c hm => ?_, fun m1 m2 k h1 h2 g1 g2 => ?_, fun m k hm => ?_, fun m hm => ?_, hB⟩
 ·by_cases e : m = nm
  ·subst e
   rw [lk_set_same (by simpa using hl)] at hm
   injection hm with hm; subst hm; exact hblk
  ·have hlv := live m e (by rw [hm]; rfl)
   rw [hlk m e, if_neg hlv.1] at hm
   refine Ext.all_B hx hi.lt (fun k hk2 => hw k (fun e2 => hlv.1 (hi.inj m n k hlv.2 hs hk2 (.inl e2)))) (upd_keep e) (hi.heap m c hm)
 ·by_cases e1 : m1 = nm <;> by_cases e2 : m2 = nm
  ·rw [e1, e2]
  ·rw [e1, upd_has] at g1; rw [upd_has_ne e2] at g2
   have := live m2 e2 h2
   exact absurd (hi.inj m2 n k this.2 hs g2 (.inl g1)) this.1
  ·rw [e2, upd_has] at g2; rw [upd_has_ne e1] at g1
   have := live m1 e1 h1
   exact absurd (hi.inj m1 n k this.2 hs g1 (.inl g2)) this.1
  ·rw [upd_has_ne e1] at g1; rw [upd_has_ne e2] at g2
   exact hi.inj m1 m2 k (live m1 e1 h1).2 (live m2 e2 h2).2 g1 g2
 ·by_cases e : m = nm
  ·rw [e, upd_has] at hm; have := hi.own n k (.inl hm); exact ⟨this.1, by rw [hsz]; exact this.2⟩
  ·rw [upd_has_ne e] at hm; have := hi.own m k hm; exact ⟨this.1, by rw [hsz]; exact this.2⟩
 ·have hm' : h.length ≤ m := by simpa using hm
  have : m ≠ nm := fun e => by omega
  have hf := hi.fresh m hm'
  exact ⟨by rw [upd_ne this]; exact hf.1, fun b hb => hf.2 b hb.2⟩

theorem cellAt_append {t : ET} {l m : List (Ty t)} {i j : Nat} : cellAt t (l ++ m) i j = if i < l.length then cellAt t l i j else cellAt t m (i - l.length) j := by
 unfold cellAt
 split
 ·rename_i hi
  congr 2
  simp [List.getD_eq_getElem?_getD, List.getElem?_append, hi]
 ·rename_i hi
  congr 2
  simp [List.getD_eq_getElem?_getD, List.getElem?_append, hi]

theorem RL_append {t : ET} {l m : List (Ty t)} {us vs rest : List Value} (h1 : us.length = l.length * width t) (h2 : vs.length = m.length * width t) (r1 : RL cx ok w t l us) (r2 : RL cx ok w t m vs) : RL cx ok w t (l ++ m) (us ++ vs ++ rest) := by
 intro i j hi hj
 rw [cellAt_append]
 rw [List.length_append] at hi
 split
 ·rename_i h
  have hlt := idx_lt h hj
  have := r1 i j h hj
  rw [show (us ++ vs ++ rest).getD (i * width t + j) undef = us.getD (i * width t + j) undef from by
   rw [List.append_assoc]
   simp [List.getD_eq_getElem?_getD, List.getElem?_append, show i * width t + j < us.length by omega]]
  exact this
 ·rename_i h
  have h' : i - l.length < m.length := by omega
  have hlt := idx_lt h' hj
  have := r2 (i - l.length) j h' hj
  have e : i * width t + j = us.length + ((i - l.length) * width t + j) := by
   rw [h1, ← Nat.add_assoc, ← Nat.add_mul]
   congr 2
   omega
  rw [show (us ++ vs ++ rest).getD (i * width t + j) undef = vs.getD ((i - l.length) * width t + j) undef from by
   rw [e, List.append_assoc]
   simp [List.getD_eq_getElem?_getD, List.getElem?_append, show (i - l.length) * width t + j < vs.length by omega]
   rw [if_neg (by omega)]
   rfl]
  exact this

theorem RL_take {t : ET} {l : List (Ty t)} {vs vs' : List Value} {n : Nat} (hn : n ≤ l.length) (r : RL cx ok w t l vs) (hv : ∀ q, q < n * width t → vs'.getD q undef = vs.getD q undef) : RL cx ok w t (l.take n) vs' := by
 intro i j hi hj
 have hi' : i < n := by simp at hi; omega
 rw [hv _ (idx_lt hi' hj)]
 have e : cellAt t (l.take n) i j = cellAt t l i j := by
  unfold cellAt
  congr 2
  simp [List.getD_eq_getElem?_getD, hi']
 rw [e]
 exact r i j (by omega) hj

theorem run_grow {T T2 e ty e2 : TypeId} {ie : TI} {t : ET} {lb lx : List (Ty t)} {f1 f2 o1 o2 : Bool} {d1 d2 : List Nat} {vb vx : Value} {A A2 : Option Addr} {cap cap2 : Nat} {olds news : List Value} (hu : P.underlying T = some (.slice e)) (hu2 : P.underlying T2 = some (.slice e2)) (hte : TyOk P cx e ie) (hsz : ie.size = width t)
    (hz : ie.zero.map zval = (enc t (dflt t)).map zval) (rb : SlRead cx ok w ⟨t, lb, f1, d1, o1⟩ vb A cap olds) (rx : SlRead cx ok w ⟨t, lx, f2, d2, o2⟩ vx A2 cap2 news) (hg : cap < lb.length + lx.length) (hb : (bif cx.wide then decide ((lb.length + lx.length) * szB t ≤ 140737488355328) else decide (lb.length + lx.length ≤ 1048576)) = true) (hby : ∀ inf, P.info? e = some inf → inf.bytes ≤ szB t) :
    ∃ cap' rest, (Builtin.append_ #[T, T2] ty #[vb, vx]).run P w = .ok (.slice (some ⟨w.heap.size, 0, none⟩) (lb.length + lx.length) cap') (w.drew.alloc (.cells (olds ++ news ++ rest).toArray e)) ∧ lb.length + lx.length ≤ cap' ∧ (olds ++ news ++ rest).length = cap' * width t := by
 obtain ⟨inf, g1, g2, g3, g4⟩ := hte.info
 have hcells := zval_cells hte hz hsz
 have hsb := rb.src (P := P) hu
 have hsx := rx.src (P := P) hu2
 simp only at hsb hsx
 have hw : inf.size = width t := by rw [g2, hsz]
 have hby' := hby inf g1
 have hsz4 : 1 ≤ szB t ∧ szB t ≤ 104 := by cases t <;> decide
 have hfit : Builtin.nextslicecap (lb.length + lx.length) cap * inf.bytes ≤ 281474976710656 ∧ lb.length + lx.length ≤ 140737488355328 := by
  have h1 := nextslicecap_le_wide hg
  generalize lb.length + lx.length = n at h1 hb
  cases hwd : cx.wide with
  | false =>
   rw [hwd] at hb
   simp only [cond_false, decide_eq_true_eq] at hb
   have h2 : Builtin.nextslicecap n cap * inf.bytes ≤ 1400000 * 4096 := Nat.mul_le_mul (by omega) g4
   omega
  | true =>
   rw [hwd] at hb
   simp only [cond_true, decide_eq_true_eq] at hb
   have h2 : Builtin.nextslicecap n cap * inf.bytes ≤ (n + n / 4 + 192) * szB t := Nat.mul_le_mul h1 hby'
   have h3 : (n + n / 4 + 192) * szB t = n * szB t + n / 4 * szB t + 192 * szB t := by rw [Nat.add_mul, Nat.add_mul]
   have h4 : 4 * (n / 4 * szB t) ≤ n * szB t := by rw [← Nat.mul_assoc]; exact Nat.mul_le_mul_right _ (by omega)
   have h5 : n ≤ n * szB t := Nat.le_mul_of_pos_right _ hsz4.1
   omega
 have hv := rb.shape
 have hcd := hsb.cellsD
 simp only at hv
 rw [hv] at hcd
 have hrun := run_append_grow_src w T T2 ty e inf _ hu g1 g3 A lb.length cap olds (by rw [hw]; exact hcd) vx lx.length news (by rw [hw]; exact hsx) hg (by have := hfit.2; omega) hfit.1
 rw [← hv, hcells] at hrun
 refine ⟨grownCap w (lb.length + lx.length) cap e, (Builtin.zeroCells ((enc t (dflt t)).map zval).toArray (grownCap w (lb.length + lx.length) cap e - (lb.length + lx.length))).toList, ?_, grownCap_ge w _ _ _, ?_⟩
 ·rw [hrun]
  congr 3
  apply Array.ext'
  simp
 ·have l1 := rb.len
  have l2 := rx.len
  simp only at l1 l2
  have hge := grownCap_ge w (lb.length + lx.length) cap e
  simp only [List.length_append, l1, l2, Array.length_toList, size_zeroCells]
  rw [← Nat.add_mul, show ((enc t (dflt t)).map zval).toArray.size = width t from by simp [enc_length], ← Nat.add_mul]
  congr 1
  omega

theorem grown_arr (hi : HInv cx ok w0 ρ h w) {h1 : Heap} {ks : List Nat} (hless : Less h h1 ks) (hi1 : HInv cx ok w0 ρ h1 w) {nm : Nat} (hρ : ρ nm = none) (hl : nm < h1.length) (hk : lk h1 nm = none) {e : TypeId} {t : ET} {lb lx : List (Ty t)} {olds news rest : List Value} {cap' : Nat}
    (l1 : olds.length = lb.length * width t) (l2 : news.length = lx.length * width t) (r1 : RL cx (okc ok w0.heap.size h ρ) w t lb olds) (r2 : RL cx (okc ok w0.heap.size h ρ) w t lx news) (hc1 : lb.length + lx.length ≤ cap') (hc2 : (olds ++ news ++ rest).length = cap' * width t) :
    (∀ N, Ext N (okc ok w0.heap.size h ρ) (okc ok w0.heap.size (h1.set nm (some (.arr e t (lb ++ lx)))) (upd ρ nm (some w.heap.size))) ρ (upd ρ nm (some w.heap.size)) w (w.drew.alloc (.cells (olds ++ news ++ rest).toArray e))) ∧
    HInv cx ok w0 (upd ρ nm (some w.heap.size)) (h1.set nm (some (.arr e t (lb ++ lx)))) (w.drew.alloc (.cells (olds ++ news ++ rest).toArray e)) ∧
    RC cx (upd ρ nm (some w.heap.size)) (okc ok w0.heap.size (h1.set nm (some (.arr e t (lb ++ lx)))) (upd ρ nm (some w.heap.size))) (w.drew.alloc (.cells (olds ++ news ++ rest).toArray e)) (.own nm t false 0 (lb.length + lx.length)) (.slice (some ⟨w.heap.size, 0, none⟩) (lb.length + lx.length) cap') := by
 have hrl : RL cx (okc ok w0.heap.size h1 ρ) w.drew t (lb ++ lx) (olds ++ news ++ rest) := (RL_append l1 l2 r1 r2).ext ((hless.ext (w := w) 0).trans (Ext.drew 0 _ _ _))
 have hcap : (lb ++ lx).length * width t ≤ (olds ++ news ++ rest).length := by
  rw [hc2, List.length_append]
  exact Nat.mul_le_mul_right _ hc1
 have key := new_arr (h := h1) (w := w.drew) hi1.drew hρ hl hk (T := e) (full := false) (cap := cap') hrl hcap (by omega) (by rw [List.length_append]; exact hc1) (fun e => by cases e)
 rw [List.length_append] at key
 refine ⟨fun N => ((hless.ext (w := w) N).trans (Ext.drew N _ _ _)).trans (ext_new (w := w.drew) hi1.drew hρ _ _ N), key.1, key.2⟩

theorem run_builtin {o : Oper} {cl : Call} {b : Builtin} {u : Value} {w' : World} (ho : o.op = .call cl) (hb : cl.callee = .builtin b) (hr : ∀ cs, (builtin b cl.argTypes o.type cs (cl.args.map a.eval)).run P w = .ok (.value u) w') : (execOp a.eval o).run P w = .ok (.value u) w' := by
 simp [execOp, ho, resolve, hb, invoke, hr]

theorem args_two {cl : Call} {x y : Operand} (h : cl.args.toList = [x, y]) : cl.args.map a.eval = #[a.eval x, a.eval y] := by
 have : cl.args = #[x, y] := Array.toList_inj.1 h
 rw [this]; simp
theorem args_one {cl : Call} {x : Operand} (h : cl.args.toList = [x]) : cl.args.map a.eval = #[a.eval x] := by
 have : cl.args = #[x] := Array.toList_inj.1 h
 rw [this]; simp

theorem app_grow (hi : Inv cx ok w0 ρ st a w) {nm : Nat} (hρ : ρ nm = none) (hl : nm < st.heap.length) {o : Oper} {S X : Operand} {T T2 E e2 : TypeId} {t : ET} {ie : TI} {h1 : Heap} {ks : List Nat} (hless : Less st.heap h1 ks) (hi1 : HInv cx ok w0 ρ h1 w) (hl1 : h1.length = st.heap.length) (hk : lk h1 nm = none)
    (run : ∀ u w', (Builtin.append_ #[T, T2] o.type #[a.eval S, a.eval X]).run P w = .ok u w' → (execOp a.eval o).run P w = .ok (.value u) w')
    (hu : P.underlying T = some (.slice E)) (hu2 : P.underlying T2 = some (.slice e2)) (hte : TyOk P cx E ie) (hsz : ie.size = width t) (hz : ie.zero.map zval = (enc t (dflt t)).map zval) {lb lx : List (Ty t)} {f1 f2 o1 o2 : Bool} {d1 d2 : List Nat} {A A2 : Option Addr} {cap cap2 : Nat} {olds news : List Value}
    (rb : SlRead cx (okc ok w0.heap.size st.heap ρ) w ⟨t, lb, f1, d1, o1⟩ (a.eval S) A cap olds) (rx : SlRead cx (okc ok w0.heap.size st.heap ρ) w ⟨t, lx, f2, d2, o2⟩ (a.eval X) A2 cap2 news) (hg : cap < lb.length + lx.length) (hb : (bif cx.wide then decide ((lb.length + lx.length) * szB t ≤ 140737488355328) else decide (lb.length + lx.length ≤ 1048576)) = true) (hby : ∀ inf, P.info? E = some inf → inf.bytes ≤ szB t) :
    Does P cx ok w0 ρ st a w nm o (.v false [.own nm t false 0 (lb.length + lx.length)]) (h1.set nm (some (.arr E t (lb ++ lx)))) := by
 obtain ⟨cap', rest, q1, q2, q3⟩ := run_grow (ty := o.type) hu hu2 hte hsz hz rb rx hg hb hby
 obtain ⟨k1, k2, k3⟩ := grown_arr hi.hv hless hi1 hρ (by omega) hk (e := E) rb.len rx.len rb.rl rx.rl q2 q3
 exact ⟨_, _, _, _, run _ _ q1, .inl rfl, fun q hq => upd_ne hq, k1, k2, RV_of_c k3⟩

theorem HInv.forget (hi : HInv cx ok w0 ρ h w) {n : Nat} {E : TypeId} {l : List (ByteArray × List Int)} {lo : List (Nat × ByteArray)} {p : Option ByteArray} (hn : lk h n = some (.mp E l lo p)) (p' : Option ByteArray) (hp : p' = p ∨ p = none) :
    HInv cx ok w0 ρ (h.set n (some (.mp E l [] p'))) w ∧ Less h (h.set n (some (.mp E l [] p'))) [] := by
 have hnl := lk_lt (lk_some hn)
 have hlive : ∀ m, (lk (h.set n (some (.mp E l [] p'))) m).isSome = true → (lk h m).isSome = true := fun m hm => by
  by_cases e : m = n
  ·rw [e]; exact lk_some hn
  ·rwa [lk_set_ne e] at hm
 have hless : Less h (h.set n (some (.mp E l [] p'))) [] := ⟨fun m hm => by (cases hm), hlive⟩
 refine ⟨⟨fun m c hm => ?_, fun m1 m2 k h1 h2 => hi.inj m1 m2 k (hlive m1 h1) (hlive m2 h2), hi.own, fun m hm => hi.fresh m (by simpa using hm), hi.below⟩, hless⟩
 by_cases e : m = n
 ·subst e
  rw [lk_set_same hnl] at hm; injection hm with hm; subst hm
  obtain ⟨b, es, ck, q1, q2, q3⟩ := hi.heap m _ hn
  refine ⟨b, es, ck, q1, q2, q3.keys, q3.nodup, fun i q e' h1 h2 h3 => q3.rows i q e' h1 h2 (fun hc => ?_), fun i j q q' e1 e2 b' h1 h2 h3 h4 h5 h6 h7 h8 => q3.apart i j q q' e1 e2 b' h1 h2 (fun hc => ?_) h4 h5 (fun hc => ?_) h7 h8, fun m k hm => by (cases hm), fun m k hm => by (cases hm)⟩
  ·rcases hp with rfl | rfl
   ·exact h3 hc
   ·cases hc
  ·rcases hp with rfl | rfl
   ·exact h3 hc
   ·cases hc
  ·rcases hp with rfl | rfl
   ·exact h6 hc
   ·cases hc
 ·rw [lk_set_ne e] at hm
  exact Ext.all_B (fun N => hless.ext (w := w) N) hi.lt (fun _ _ => rfl) has_keep (hi.heap m c hm)

def takeR (ρ : Rho) (n nm b : Nat) : Rho := ⟨fun q => if q = nm then some b else ρ q, fun q k => q ≠ nm ∧ ρ.g q k ∧ ¬ (q = n ∧ k = b)⟩
theorem take_out (hi : HInv cx ok w0 ρ h w) {n nm b : Nat} {E : TypeId} {l : List (ByteArray × List Int)} {lo : List (Nat × ByteArray)} {s : ByteArray} {w' : World} (hne : n ≠ nm) (hρ : ρ nm = none) (hl : nm < h.length) (hk : lk h nm = none) (hn : lk h n = some (.mp E l lo none)) (hb : ρ.g n b)
    {vs0 : List Value} {T0 : TypeId} (hc : w.heap[b]? = some (.cells vs0.toArray T0 (0, 0))) {i : Nat} {q : ByteArray × List Int} {e : MapEntry} (hi1 : l[i]? = some q) (hi2 : q.1 = s) (hi3 : ∃ b0 es ck, ρ n = some b0 ∧ w.heap[b0]? = some (.map es ck) ∧ es[i]? = some e ∧ rowB e.val = some b)
    (hw : ∀ k, k ≠ b → w'.heap[k]? = w.heap[k]?) (hsz : w'.heap.size = w.heap.size) (hroom : ∀ k, World.roomOf w' k = World.roomOf w k) (hB : Below w0.heap.size w0 w') {blk : Blk}
    (hblk : RB cx (takeR ρ n nm b) (okc ok w0.heap.size ((h.set n (some (.mp E l [] (some s)))).set nm (some blk)) (takeR ρ n nm b)) w' nm blk) :
    (∀ N, Ext N (okc ok w0.heap.size h ρ) (okc ok w0.heap.size ((h.set n (some (.mp E l [] (some s)))).set nm (some blk)) (takeR ρ n nm b)) ρ (takeR ρ n nm b) w w') ∧ HInv cx ok w0 (takeR ρ n nm b) ((h.set n (some (.mp E l [] (some s)))).set nm (some blk)) w' := by
 have hs := lk_some hn
 have hlk : ∀ m, m ≠ nm → lk ((h.set n (some (.mp E l [] (some s)))).set nm (some blk)) m = if m = n then some (.mp E l [] (some s)) else lk h m := fun m hm => by
  rw [lk_set_ne hm, lk_set]
  by_cases e : m = n
  ·rw [if_pos ⟨e, lk_lt hs⟩, if_pos e]
  ·rw [if_neg (fun x => e x.1), if_neg e]
 have live : ∀ m, m ≠ nm → (lk ((h.set n (some (.mp E l [] (some s)))).set nm (some blk)) m).isSome = true → (lk h m).isSome = true := fun m hm hx => by
  rw [hlk m hm] at hx
  split at hx
  ·rename_i e2; rw [e2]; exact hs
  ·exact hx
 have hf : ∀ m, m ≠ nm → takeR ρ n nm b m = ρ m := fun m hm => by simp [takeR, hm]
 have hfs : takeR ρ n nm b nm = some b := by simp [takeR]
 have has1 : ∀ m k, m ≠ nm → (takeR ρ n nm b).has m k → ρ.has m k := fun m k hm hh => by
  rcases hh with hh | hh
  ·rw [hf m hm] at hh; exact .inl hh
  ·exact .inr hh.2.1
 have has2 : ∀ k, (takeR ρ n nm b).has nm k → k = b := fun k hh => by
  rcases hh with hh | hh
  ·rw [hfs] at hh; injection hh with hh; exact hh.symm
  ·exact absurd rfl hh.1
 obtain ⟨b0, es, ck, j1, j2, j3, j4⟩ := hi3
 have hb0 : b0 ≠ b := fun e2 => by rw [e2, hc] at j2; cases j2
 have hasb : ¬ (takeR ρ n nm b).has n b := fun hh => by
  rcases hh with hh | hh
  ·rw [hf n hne, j1] at hh; injection hh with hh; exact hb0 hh
  ·exact hh.2.2 ⟨rfl, rfl⟩
 have hx : ∀ N, Ext N (okc ok w0.heap.size h ρ) (okc ok w0.heap.size ((h.set n (some (.mp E l [] (some s)))).set nm (some blk)) (takeR ρ n nm b)) ρ (takeR ρ n nm b) w w' := fun N =>
  ⟨fun m k _ hm => by
   have : m ≠ nm := fun e2 => by rw [e2, hρ] at hm; cases hm
   rw [hf m this]; exact hm,
   fun k _ ho => hw k (fun e2 => ho.2 n hs (.inr (e2 ▸ hb))),
   fun k _ ho => ⟨ho.1, fun m hm hh => by
    by_cases e2 : m = nm
    ·rw [e2] at hh
     exact ho.2 n hs (.inr ((has2 k hh) ▸ hb))
    ·exact ho.2 m (live m e2 hm) (has1 m k e2 hh)⟩,
   fun k _ => hroom k, by rw [hsz]; exact Nat.le_refl _⟩
 refine ⟨hx, fun m c hm => ?_, fun m1 m2 k h1 h2 g1 g2 => ?_, fun m k hm => ?_, fun m hm => ?_, hB⟩
 ·by_cases e2 : m = nm
  ·subst e2
   rw [lk_set_same (by simpa using hl)] at hm
   injection hm with hm; subst hm; exact hblk
  ·rw [hlk m e2] at hm
   split at hm
   ·rename_i e3
    subst e3
    injection hm with hm; subst hm
    obtain ⟨b1, es1, ck1, q1, q2, q3⟩ := hi.heap m _ hn
    rw [j1] at q1; injection q1 with q1; subst q1
    rw [j2] at q2; injection q2 with q2; injection q2 with q2 q4; subst q2; subst q4
    have j3' : es.toList[i]? = some e := by rw [Array.getElem?_toList]; exact j3
    refine ⟨b0, es, ck, by rw [hf m e2]; exact j1, by rw [hw b0 hb0]; exact j2, q3.keys, q3.nodup, fun j q' e' h1 h2 h3 => ?_, fun j j' q' q'' e1 e2 b' h1 h2 h3 h4 h5 h6 h7 h8 => q3.apart j j' q' q'' e1 e2 b' h1 h2 (by intro h; cases h) h4 h5 (by intro h; cases h) h7 h8, fun m k hm => by (cases hm), fun m k hm => by (cases hm)⟩
    have hr := q3.rows j q' e' h1 h2 (by intro h; cases h)
    have hjb : rowB e'.val ≠ some b := fun hc2 => by
     have := q3.apart j i q' q e' e b h1 h2 (by intro h; cases h) hi1 j3' (by intro h; cases h) hc2 j4
     subst this
     rw [hi1] at h1; injection h1 with h1; subst h1
     exact h3 (by rw [hi2])
    obtain ⟨A, cap, r1, r2, r3⟩ := hr
    refine ⟨A, cap, r1, r2, fun hcap => ?_⟩
    obtain ⟨b', vs, r4, r5, r6, r7, r8⟩ := r3 hcap
    have hbb : b' ≠ b := fun e3 => hjb (by
     obtain ⟨c2, rfl⟩ : ∃ c2, cap = c2 + 1 := ⟨cap - 1, by omega⟩
     rw [r1, r4]; simp [rowB, e3])
    exact ⟨b', vs, r4, ⟨e2, r5, fun hh => hbb hh.2⟩, by rw [hw b' hbb]; exact r6, r7, r8⟩
   ·rename_i e3
    refine Ext.all_B hx hi.lt (fun k hk2 => hw k (fun e4 => e3 (hi.inj m n k (lk_some hm) hs hk2 (.inr (e4 ▸ hb))))) ⟨fun h0 => by rw [hf m e2]; exact h0, fun k hk2 => ⟨e2, hk2, fun hh => e3 hh.1⟩⟩ (hi.heap m c hm)
 ·by_cases e1 : m1 = nm <;> by_cases e2 : m2 = nm
  ·rw [e1, e2]
  ·rw [e1] at g1
   have hkb := has2 k g1
   subst hkb
   have := hi.inj m2 n k (live m2 e2 h2) hs (has1 m2 k e2 g2) (.inr hb)
   rw [this] at g2; exact absurd g2 hasb
  ·rw [e2] at g2
   have hkb := has2 k g2
   subst hkb
   have := hi.inj m1 n k (live m1 e1 h1) hs (has1 m1 k e1 g1) (.inr hb)
   rw [this] at g1; exact absurd g1 hasb
  ·exact hi.inj m1 m2 k (live m1 e1 h1) (live m2 e2 h2) (has1 m1 k e1 g1) (has1 m2 k e2 g2)
 ·by_cases e1 : m = nm
  ·rw [e1] at hm
   have hkb := has2 k hm
   subst hkb
   have := hi.own n k (.inr hb); exact ⟨this.1, by rw [hsz]; exact this.2⟩
  ·have := hi.own m k (has1 m k e1 hm); exact ⟨this.1, by rw [hsz]; exact this.2⟩
 ·have hm' : h.length ≤ m := by simpa using hm
  have : m ≠ nm := fun e2 => by omega
  have hfr := hi.fresh m hm'
  exact ⟨by rw [hf m this]; exact hfr.1, fun k hk2 => hfr.2 k hk2.2.1⟩

theorem does_append (hcx : CxOk P cx) (hi : Inv cx ok w0 ρ st a w) {nm : Nat} (hρ : ρ nm = none) (hl : nm < st.heap.length) (hk : lk st.heap nm = none) {o : Oper} {cl : Call} {S X : Operand} {T T2 : TypeId} {s x : C} {e : Eff} (ho : o.op = .call cl) (hb : cl.callee = .builtin .append)
    (hargs : cl.args.toList = [S, X]) (hts : cl.argTypes.toList = [T, T2]) (hS : opv st.env S = .v false [s]) (hX : opv st.env X = .v false [x]) {e2 : TypeId} {t2 : ET} {n2 : Nat} {z2 : List D} {es2 : List (Option ET)} (hT2 : cx.tt T2 = some ⟨.slice e2 t2, n2, z2, es2⟩)
    (he : appendE cx T nm st.heap s x = some e) (hok : e.ok = true) : Does P cx ok w0 ρ st a w nm o e.val e.heap := by
 have hs := op_c hi hS
 have hx := op_c hi hX
 have hu2 : P.underlying T2 = some (.slice e2) := (und_of hcx hT2).1
 have hty : cl.argTypes = #[T, T2] := Array.toList_inj.1 hts
 have run : ∀ u w', (Builtin.append_ #[T, T2] o.type #[a.eval S, a.eval X]).run P w = .ok u w' → (execOp a.eval o).run P w = .ok (.value u) w' := fun u w' h =>
  run_builtin ho hb (fun cs => by rw [hty, args_two hargs]; simp [builtin, h])
 unfold appendE at he
 split at he
 ·rename_i E t sz z es hT
  obtain ⟨hu, ie, hie, hsz, hz⟩ := und_of hcx hT
  have hte := hcx.ty _ _ hie
  have hby := und_byt hcx hT
  obtain ⟨inf, g1, g2, _⟩ := hte.info
  have hw : inf.size = width t := by rw [g2, hsz]
  have nothing : ∀ (A : Option Addr) (n cap : Nat) (l2 : List (Ty t)) (f2 p : Bool) (r2 : List Nat) (A2 : Option Addr) (cap2 : Nat) (news : List Value), a.eval S = .slice A n cap → n ≤ cap → SlRead cx (okc ok w0.heap.size st.heap ρ) w ⟨t, l2, f2, r2, p⟩ (a.eval X) A2 cap2 news → l2 = [] →
      (Builtin.append_ #[T, T2] o.type #[a.eval S, a.eval X]).run P w = .ok (.slice A n cap) w := by
   intro A n cap l2 f2 p r2 A2 cap2 news hSe hle rx hm
   subst hm
   have hsx := rx.src (P := P) hu2
   have hn0 : news = [] := by have := rx.len; simpa using this
   subst hn0
   rw [hSe]
   exact run_append_nothing w T T2 o.type E inf hu g1 A n cap hle _ (by rw [hw]; exact hsx)
  split at he
  ·cases he
  ·rename_i t' l2 f2 r2 p hsl
   split at he
   ·rename_i ett; subst ett
    simp only at he
    split at he
    ·injection he with he; subst he
     simp only [Bool.and_eq_true, decide_eq_true_eq] at hok
     obtain ⟨A2, cap2, news, rx⟩ := sl_read hi.hv hx hsl hok.1
     have hSe : a.eval S = .slice none 0 0 := by
      generalize a.eval S = vs at hs
      cases hs; rfl
     have rb : SlRead cx (okc ok w0.heap.size st.heap ρ) w ⟨t', [], true, [], true⟩ (a.eval S) none 0 [] := ⟨hSe, Nat.le_refl _, fun _ => rfl, by simp, fun i j hi => by simp at hi, fun hne => absurd rfl hne⟩
     by_cases hm : l2 = []
     ·obtain ⟨q1, q2⟩ := no_arr hi.hv hρ hl hk (T := E) (t := t')
      have := nothing none 0 0 l2 f2 p r2 A2 cap2 news hSe (Nat.le_refl _) rx hm
      subst hm
      exact ⟨upd ρ nm none, w, _, .slice none 0 0, run _ _ this, .inl rfl, fun q hq => upd_ne hq, q2, q1, RV_of_c ⟨none, 0, rfl, Nat.le_refl _, (fun e => by cases e), (fun e => absurd rfl e)⟩⟩
     ·have hpos : 0 < l2.length := List.length_pos_iff.2 hm
      have := app_grow hi hρ hl (Less.refl _) hi.hv rfl hk run hu hu2 hte hsz hz rb rx (by simpa using hpos) (by simpa using hok.2) hby
      simpa using this
    ·rename_i nl full t'' l
     split at he
     ·rename_i e1; subst e1
      injection he with he; subst he
      simp only [Bool.and_eq_true, Bool.or_eq_true, decide_eq_true_eq] at hok
      obtain ⟨⟨⟨hp, hfull⟩, hem⟩, hbd⟩ := hok
      obtain ⟨A2, cap2, news, rx⟩ := sl_read hi.hv hx hsl hp
      obtain ⟨A, cap, olds, rb⟩ := sl_read hi.hv hs (s := ⟨t'', l, full, [], true⟩) rfl rfl
      have hcap : cap = l.length := rb.full hfull
      by_cases hm : l2 = []
      ·have hl0 : l = [] := by
         rcases hem with h | h
         ·simpa using h
         ·rw [hm] at h; simp at h
       subst hl0
       have hc0 : cap = 0 := by simpa using hcap
       subst hc0
       obtain ⟨q1, q2⟩ := no_arr hi.hv hρ hl hk (T := E) (t := t'')
       have := nothing A 0 0 l2 f2 p r2 A2 cap2 news rb.shape (Nat.le_refl _) rx hm
       subst hm
       exact ⟨upd ρ nm none, w, _, .slice A 0 0, run _ _ this, .inl rfl, fun q hq => upd_ne hq, q2, q1, RV_of_c ⟨A, 0, rfl, Nat.le_refl _, (fun e => by cases e), (fun e => absurd rfl e)⟩⟩
      ·have hpos : 0 < l2.length := List.length_pos_iff.2 hm
       exact app_grow hi hρ hl (Less.refl _) hi.hv rfl hk run hu hu2 hte hsz hz rb rx (by omega) hbd hby
     ·cases he
    ·rename_i n tn fulln len
     split at he
     ·rename_i E' t'' l hn
      split at he
      ·rename_i e1; subst e1
       split at he
       ·rename_i hcond
        simp only [Bool.and_eq_true, decide_eq_true_eq, beq_iff_eq, Bool.not_eq_true', List.contains_eq_mem, decide_eq_false_iff_not] at hcond
        obtain ⟨⟨htn, hE⟩, hr2⟩ := hcond
        subst htn; subst hE
        injection he with he; subst he
        simp only [Bool.and_eq_true, decide_eq_true_eq] at hok
        obtain ⟨⟨hp, hlen⟩, hbd⟩ := hok
        have hne : n ≠ nm := fun e => by rw [e, hk] at hn; cases hn
        obtain ⟨A2, cap2, news, rx⟩ := sl_read hi.hv hx hsl hp
        obtain ⟨A, cap, olds, rb⟩ := sl_read hi.hv hs (s := ⟨tn, sub l 0 (0 + len), fulln, [n], decide (0 + len ≤ l.length)⟩) (by simp [slOf, hn]) (by simpa using hlen)
        have etake : sub l 0 (0 + len) = l.take len := by simp [sub]
        rw [etake] at rb
        have elen : (l.take len).length = len := by simp; omega
        obtain ⟨A', cap', hSe, hle, hfl, hA⟩ := hs
        have hAA : A = A' ∧ cap = cap' := by
         have := rb.shape
         rw [hSe] at this
         injection this with q1 q2 q3
         exact ⟨q1.symm, q3.symm⟩
        obtain ⟨rfl, rfl⟩ := hAA
        by_cases hg : cap < len + l2.length
        ·have hk1 : lk (st.heap.set n none) nm = none := by rw [lk_set_ne (fun e => hne e.symm)]; exact hk
         have hless : Less st.heap (st.heap.set n none) [n] := by
          have := Less.kill st.heap [n]
          simpa [kill] using this
         have := app_grow hi hρ hl hless (hi.hv.kill n) (by simp) hk1 run hu hu2 hte hsz hz rb rx (by rw [elen]; exact hg) (by rw [elen]; exact hbd) hby
         rw [elen] at this
         exact this
        ·have hRB := hi.heap n _ hn
         by_cases hm : l2 = []
         ·have hrun := nothing A len cap l2 f2 p r2 A2 cap2 news hSe hle rx hm
          have mv := move_ok (w' := w) hi.hv (lk_some hn) hne hρ hl hk (fun _ _ => rfl) rfl (fun _ => rfl) hi.below (blk := .arr E' tn (l.take len ++ l2))
          subst hm
          rw [List.append_nil] at mv ⊢
          have hblk : RB cx (upd ρ nm (ρ n)) (okc ok w0.heap.size ((st.heap.set n none).set nm (some (.arr E' tn (l.take len)))) (upd ρ nm (ρ n))) w nm (.arr E' tn (l.take len)) := by
           rcases hRB with ⟨q1, q2⟩ | ⟨b, vs, q1, q2, q3, q4⟩
           ·exact .inl ⟨by rw [q1]; simp, by rw [upd_same]; exact q2⟩
           ·refine .inr ⟨b, vs, by rw [upd_same]; exact q1, q2, ?_, ?_⟩
            ·rw [elen]; exact Nat.le_trans (Nat.mul_le_mul_right _ hlen) q3
            ·refine RL_take hlen (vs := vs) (fun i j hi' hj => ?_) (fun _ _ => rfl)
             refine (q4 i j hi' hj).ext (fun _ _ _ => rfl) (fun k _ ho => ⟨ho.1, fun m hm => ?_⟩) (Nat.le_refl _)
             by_cases e : m = nm
             ·rw [e, upd_has]; exact ho.ne (lk_some hn)
             ·rw [upd_has_ne e]
              rw [lk_set_ne e, lk_set] at hm
              split at hm
              ·cases hm
              ·exact ho.2 m hm
          obtain ⟨k1, k2⟩ := mv hblk
          refine ⟨_, w, _, .slice A len cap, run _ _ hrun, .inl rfl, fun q hq => upd_ne hq, k1, k2, RV_of_c ⟨A, cap, rfl, hle, (fun e => by cases e), fun hc => ?_⟩⟩
          obtain ⟨b, r1, r2, r3⟩ := hA hc
          exact ⟨b, (upd_same _ _ _).trans r1, r2, r3⟩
         ·have hpos : 0 < l2.length := List.length_pos_iff.2 hm
          obtain ⟨b, r1, r2, r3⟩ := hA (by omega)
          rcases hRB with ⟨q1, q2⟩ | ⟨b', vs, q1, q2, q3, q4⟩
          ·rw [r1] at q2; cases q2
          ·rw [r1] at q1; injection q1 with q1; subst q1
           have hroomv : World.roomOf w b = vs.length := by unfold World.roomOf; rw [q2]; simp
           rw [hroomv, Nat.zero_add] at r3
           have hnl := rx.len
           simp only at hnl
           have hfit : len * width tn + news.length ≤ vs.length := by
            rw [hnl, ← Nat.add_mul]
            exact Nat.le_trans (Nat.mul_le_mul_right _ (by omega)) r3
           have hrun : (Builtin.append_ #[T, T2] o.type #[a.eval S, a.eval X]).run P w = .ok (.slice A (len + l2.length) cap) (w.setRow b (vs.take (len * width tn) ++ news ++ vs.drop (len * width tn + news.length)).toArray) := by
            have hsx := rx.src (P := P) hu2
            simp only at hsx
            rw [hSe, r2]
            have hst := run_storeCells_at P b (len * width tn) E' news 0 vs.toArray w q2 (by simpa using hfit) hsx.one
            simp only [Nat.add_zero] at hst
            have hwr : (Builtin.firstCells (width tn) l2.length (a.eval X)).run P w = .ok news.toArray w := hsx.cells
            have hln := hsx.len w
            have hroom' : len + l2.length ≤ cap := by omega
            simp [Builtin.append_, run_underlying hu, run_underlying hu2, sizeOf, typeInfo, g1, hw, hln, hroom', hwr, add_plain, hst]
           have hz' : ((vs.take (len * width tn) ++ news ++ vs.drop (len * width tn + news.length)).toArray).size = (vs.toArray).size := by simp; omega
           have hne' : ∀ k, ρ n ≠ some k → (w.setRow b (vs.take (len * width tn) ++ news ++ vs.drop (len * width tn + news.length)).toArray).heap[k]? = w.heap[k]? := fun k hk => setRow_other w b k _ (fun e => hk (by rw [e]; exact r1))
           have hrm : ∀ k, World.roomOf (w.setRow b (vs.take (len * width tn) ++ news ++ vs.drop (len * width tn + news.length)).toArray) k = World.roomOf w k := fun k => by
            by_cases e : k = b
            ·subst e
             unfold World.roomOf
             rw [q2, setRow_heap w k _ _ _ _ q2]
             exact hz'
            ·exact roomOf_eq (setRow_other w b k _ e)
           have hB : Below w0.heap.size w0 (w.setRow b (vs.take (len * width tn) ++ news ++ vs.drop (len * width tn + news.length)).toArray) := hi.below.trans ⟨rfl, rfl, rfl, by simp, fun k hk => setRow_other w b k _ (by have := (hi.own n b (.inl r1)).1; omega)⟩
           have mv := move_ok hi.hv (lk_some hn) hne hρ hl hk hne' (by simp) hrm hB (blk := .arr E' tn (l.take len ++ l2))
           have hoks : ∀ k, okc ok w0.heap.size st.heap ρ k → okc ok w0.heap.size ((st.heap.set n none).set nm (some (.arr E' tn (l.take len ++ l2)))) (upd ρ nm (ρ n)) k := fun k ho => ⟨ho.1, fun m hm => by
            by_cases e : m = nm
            ·rw [e, upd_has]; exact ho.ne (lk_some hn)
            ·rw [upd_has_ne e]
             rw [lk_set_ne e, lk_set] at hm
             split at hm
             ·cases hm
             ·exact ho.2 m hm⟩
           have hcell : ∀ k, okc ok w0.heap.size st.heap ρ k → (w.setRow b (vs.take (len * width tn) ++ news ++ vs.drop (len * width tn + news.length)).toArray).heap[k]? = w.heap[k]? := fun k ho => hne' k (ho.ne (lk_some hn))
           have hblk : RB cx (upd ρ nm (ρ n)) (okc ok w0.heap.size ((st.heap.set n none).set nm (some (.arr E' tn (l.take len ++ l2)))) (upd ρ nm (ρ n))) (w.setRow b (vs.take (len * width tn) ++ news ++ vs.drop (len * width tn + news.length)).toArray) nm (.arr E' tn (l.take len ++ l2)) := by
            refine .inr ⟨b, _, by rw [upd_same]; exact r1, setRow_heap w b _ _ _ _ q2, ?_, ?_⟩
            ·rw [List.length_append, elen, Nat.add_mul, ← hnl]
             simp; omega
            ·refine RL_append (by rw [elen, List.length_take]; have : len * width tn ≤ vs.length := by omega
                                  omega) hnl ?_ ?_
             ·refine RL_take hlen (vs := vs) (fun i j hi' hj => (q4 i j hi' hj).ext (fun k _ ho => hcell k ho) (fun k _ ho => hoks k ho) (by simp)) (fun q hq => ?_)
              simp [List.getD_eq_getElem?_getD, List.getElem?_take, hq]
             ·exact fun i j hi' hj => (rx.rl i j hi' hj).ext (fun k _ ho => hcell k ho) (fun k _ ho => hoks k ho) (by simp)
           obtain ⟨k1, k2⟩ := mv hblk
           refine ⟨_, _, _, .slice A (len + l2.length) cap, run _ _ hrun, .inl rfl, fun q hq => upd_ne hq, k1, k2, RV_of_c ⟨A, cap, rfl, by omega, (fun e => by cases e), fun hc => ⟨b, (upd_same _ _ _).trans r1, by rw [r2], ?_⟩⟩⟩
           rw [hrm b, hroomv, Nat.zero_add]
           exact r3
       ·cases he
      ·cases he
     ·cases he
    ·rename_i n mm len
     split at he
     ·rename_i E' l lo hn
      split at he
      ·rename_i key hkey
       split at he
       ·rename_i e1; subst e1
        split at he
        ·rename_i hcond
         simp only [Bool.and_eq_true, beq_iff_eq, Bool.not_eq_true', List.contains_eq_mem, decide_eq_false_iff_not] at hcond
         obtain ⟨hE, hr2⟩ := hcond
         subst hE
         injection he with he; subst he
         simp only [Bool.and_eq_true, decide_eq_true_eq] at hok
         obtain ⟨⟨hp, hlen⟩, hbd⟩ := hok
         have hne : n ≠ nm := fun e => by rw [e, hk] at hn; cases hn
         obtain ⟨A2, cap2, news, rx⟩ := sl_read hi.hv hx hsl hp
         obtain ⟨A, cap, olds, rb⟩ := sl_read hi.hv hs (s := ⟨.int, lookL l key, false, [n], decide (len = (lookL l key).length)⟩) (by simp [slOf, hn, hkey]) (by simpa using hlen)
         obtain ⟨A', cap', hSe, hle, hA⟩ := mrow_ok hi.hv hn hkey hlen hs
         have hAA : A = A' ∧ cap = cap' := by
          have := rb.shape
          rw [hSe] at this
          injection this with q1 q2 q3
          exact ⟨q1.symm, q3.symm⟩
         obtain ⟨rfl, rfl⟩ := hAA
         obtain ⟨hi1, hless⟩ := hi.hv.forget hn (some key) (.inr rfl)
         have hk1 : lk (st.heap.set n (some (.mp E' l [] (some key)))) nm = none := by rw [lk_set_ne (fun e => hne e.symm)]; exact hk
         by_cases hg : cap < len + l2.length
         ·have := app_grow hi hρ hl hless hi1 (by simp) hk1 run hu hu2 hte hsz hz rb rx (by rw [← hlen]; exact hg) (by rw [← hlen]; exact hbd) hby
          rw [← hlen] at this
          exact this
         ·by_cases hc0 : cap = 0
          ·subst hc0
           have hl0 : len = 0 := by omega
           have hm : l2 = [] := List.length_eq_zero_iff.1 (by omega)
           have hrow0 : lookL l key = [] := List.length_eq_zero_iff.1 (by omega)
           have hrun := nothing A len 0 l2 f2 p r2 A2 cap2 news hSe hle rx hm
           obtain ⟨q1, q2⟩ := no_arr hi1 hρ (by simpa using hl) hk1 (T := E') (t := .int)
           subst hm
           rw [hrow0, List.append_nil]
           refine ⟨upd ρ nm none, w, _, .slice A len 0, run _ _ hrun, .inl rfl, fun q hq => upd_ne hq, fun N => (hless.ext (w := w) N).trans (q2 N), q1, RV_of_c ⟨A, 0, by rw [hl0]; rfl, by rw [hl0]; exact Nat.le_refl _, (fun e => by cases e), (fun e => absurd rfl e)⟩⟩
          ·obtain ⟨b, vs, i, q, e', b1, b2, b3, b4, b5, b6, b7, b8, b9⟩ := hA hc0
           have hroomv : World.roomOf w b = vs.length := by unfold World.roomOf; rw [b4]; simp
           have hoks : ∀ blk k, okc ok w0.heap.size st.heap ρ k → okc ok w0.heap.size ((st.heap.set n (some (.mp E' l [] (some key)))).set nm (some blk)) (takeR ρ n nm b) k := fun blk k ho => ⟨ho.1, fun m hm hh => by
            by_cases e : m = nm
            ·subst e
             rcases hh with hh | hh
             ·have : k = b := by simp [takeR] at hh; exact hh.symm
              subst this; exact ho.2 n (lk_some hn) (.inr b3)
             ·exact hh.1 rfl
            ·have hm' : (lk st.heap m).isSome = true := by
               rw [lk_set_ne e, lk_set] at hm
               split at hm
               ·rename_i e3; rw [e3.1]; exact lk_some hn
               ·exact hm
             rcases hh with hh | hh
             ·have : ρ m = some k := by simpa [takeR, e] using hh
              exact ho.2 m hm' (.inl this)
             ·exact ho.2 m hm' (.inr hh.2.1)⟩
           have hnl := rx.len
           simp only [width, Nat.mul_one] at hnl
           by_cases hm : l2 = []
           ·have hrun := nothing A len cap l2 f2 p r2 A2 cap2 news hSe hle rx hm
            subst hm
            rw [List.append_nil]
            obtain ⟨k1, k2⟩ := take_out (s := key) hi.hv hne hρ hl hk hn b3 b4 b7 b8 b9 (w' := w) (fun _ _ => rfl) rfl (fun _ => rfl) hi.below (blk := .arr E' .int (lookL l key)) (.inr ⟨b, vs, by simp [takeR], b4, by simp only [width, Nat.mul_one]; omega, fun i j hi' hj => by
             have hj' : j = 0 := by have : j < 1 := hj; omega
             subst hj'
             show RD cx _ w (cellAt .int (lookL l key) i 0) (vs.getD (i * 1 + 0) undef)
             rw [Nat.mul_one, Nat.add_zero, b6 i (by omega)]
             exact RD.sc (.int .i64 _)⟩)
            refine ⟨_, w, _, .slice A len cap, run _ _ hrun, .inl rfl, fun q hq => by simp [takeR, hq], k1, k2, RV_of_c ⟨A, cap, rfl, hle, (fun e => by cases e), fun _ => ⟨b, by simp [takeR], by rw [b2]; simp, by simp only [width, Nat.mul_one, Nat.zero_add]; omega⟩⟩⟩
           ·have hpos : 0 < l2.length := List.length_pos_iff.2 hm
            have hfit : len + news.length ≤ vs.length := by omega
            have hrun : (Builtin.append_ #[T, T2] o.type #[a.eval S, a.eval X]).run P w = .ok (.slice A (len + l2.length) cap) (w.setRow b (vs.take len ++ news ++ vs.drop (len + news.length)).toArray) := by
             have hsx := rx.src (P := P) hu2
             simp only at hsx
             rw [hSe, b2]
             have hst := run_storeCells_at P b len E' news 0 vs.toArray w b4 (by simpa using hfit) hsx.one
             simp only [Nat.add_zero] at hst
             have hwr : (Builtin.firstCells (width ET.int) l2.length (a.eval X)).run P w = .ok news.toArray w := hsx.cells
             have hln := hsx.len w
             have hroom' : len + l2.length ≤ cap := by omega
             have hw1 : inf.size = 1 := hw
             have hwr' : (Builtin.firstCells 1 l2.length (a.eval X)).run P w = .ok news.toArray w := hwr
             simp [Builtin.append_, run_underlying hu, run_underlying hu2, sizeOf, typeInfo, g1, hw1, hln, hroom', hwr', add_plain, hst]
            have hz' : ((vs.take len ++ news ++ vs.drop (len + news.length)).toArray).size = (vs.toArray).size := by simp; omega
            have hne' : ∀ k, k ≠ b → (w.setRow b (vs.take len ++ news ++ vs.drop (len + news.length)).toArray).heap[k]? = w.heap[k]? := fun k hk => setRow_other w b k _ hk
            have hrm : ∀ k, World.roomOf (w.setRow b (vs.take len ++ news ++ vs.drop (len + news.length)).toArray) k = World.roomOf w k := fun k => by
             by_cases e : k = b
             ·subst e
              unfold World.roomOf
              rw [b4, setRow_heap w k _ _ _ _ b4]
              exact hz'
             ·exact roomOf_eq (setRow_other w b k _ e)
            have hB : Below w0.heap.size w0 (w.setRow b (vs.take len ++ news ++ vs.drop (len + news.length)).toArray) := hi.below.trans ⟨rfl, rfl, rfl, by simp, fun k hk => setRow_other w b k _ (by have := (hi.own n b (.inr b3)).1; omega)⟩
            obtain ⟨k1, k2⟩ := take_out (s := key) hi.hv hne hρ hl hk hn b3 b4 b7 b8 b9 hne' (by simp) hrm hB (blk := .arr E' .int (lookL l key ++ l2)) (.inr ⟨b, _, by simp [takeR], setRow_heap w b _ _ _ _ b4, by
             simp only [width, Nat.mul_one, List.length_append, List.length_take, List.length_drop]; omega, fun i j hi' hj => by
             have hj' : j = 0 := by have : j < 1 := hj; omega
             subst hj'
             show RD cx _ _ (cellAt .int (lookL l key ++ l2) i 0) ((vs.take len ++ news ++ vs.drop (len + news.length)).getD (i * 1 + 0) undef)
             rw [Nat.mul_one, Nat.add_zero]
             rw [List.length_append] at hi'
             by_cases hil : i < len
             ·have e1 : (vs.take len ++ news ++ vs.drop (len + news.length)).getD i undef = vs.getD i undef := by
                have hlt : (vs.take len).length = len := by rw [List.length_take]; omega
                rw [List.append_assoc]
                simp only [List.getD_eq_getElem?_getD]
                rw [List.getElem?_append_left (by omega), List.getElem?_take, if_pos hil]
              have e2 : (lookL l key ++ l2).getD i 0 = (lookL l key).getD i 0 := by
               simp [List.getD_eq_getElem?_getD, List.getElem?_append, show i < (lookL l key).length by omega]
              rw [e1, b6 i hil, ← e2]
              exact RD.sc (.int .i64 _)
             ·have hin : i - len < l2.length := by omega
              have hr := rx.rl (i - len) 0 hin (by show 0 < 1; omega)
              have e1 : (vs.take len ++ news ++ vs.drop (len + news.length)).getD i undef = news.getD (i - len) undef := by
               have hlt : (vs.take len).length = len := by rw [List.length_take]; omega
               rw [List.append_assoc]
               simp only [List.getD_eq_getElem?_getD]
               rw [List.getElem?_append_right (by omega), hlt, List.getElem?_append_left (by omega)]
              have e2 : cellAt .int (lookL l key ++ l2) i 0 = cellAt .int l2 (i - len) 0 := by
               rw [cellAt_append, if_neg (by omega), ← hlen]
              have hr' : RD cx (okc ok w0.heap.size st.heap ρ) w (cellAt .int l2 (i - len) 0) (news.getD ((i - len) * 1 + 0) undef) := hr
              rw [Nat.mul_one, Nat.add_zero] at hr'
              rw [e1, e2]
              exact hr'.ext (fun k _ ho => hne' k (fun e => ho.2 n (lk_some hn) (.inr (e ▸ b3)))) (fun k _ ho => hoks _ k ho) (by simp)⟩)
            refine ⟨_, _, _, .slice A (len + l2.length) cap, run _ _ hrun, .inl rfl, fun q hq => by simp [takeR, hq], k1, k2, RV_of_c ⟨A, cap, rfl, by omega, (fun e => by cases e), fun _ => ⟨b, by simp [takeR], by rw [b2]; simp, ?_⟩⟩⟩
            rw [hrm b, hroomv]
            simp only [width, Nat.mul_one, Nat.zero_add]; omega
        ·cases he
       ·cases he
      ·cases he
     ·cases he
    ·cases he
   ·cases he
 ·cases he
end
end Go.Eng
/- copy, clear. -/
set_option linter.unusedVariables false
set_option linter.unusedSimpArgs false
namespace Go.Eng
open Go Go.RowKit

section
variable {P : Program} {cx : Cx} {ok : Nat → Prop} {w0 : World} {ρ : Rho} {st : St} {a : Act} {w : World} {h : Heap}

theorem RL_put {t : ET} {l m : List (Ty t)} {vs us : List Value} {off : Nat} (hm : off + m.length ≤ l.length) (hv : l.length * width t ≤ vs.length) (hu : us.length = m.length * width t) (r1 : RL cx ok w t l vs) (r2 : RL cx ok w t m us) :
    RL cx ok w t (putL l off m) (putL vs (off * width t) us) := by
 intro i j hi hj
 rw [putL_length] at hi
 have hfit : off * width t + us.length ≤ vs.length := by
  rw [hu, ← Nat.add_mul]
  exact Nat.le_trans (Nat.mul_le_mul_right _ hm) hv
 have hc : cellAt t (putL l off m) i j = if off ≤ i ∧ i < off + m.length then cellAt t m (i - off) j else cellAt t l i j := by
  unfold cellAt
  rw [putL_getD (dflt t) m l off i hm]
  split <;> rfl
 rw [hc, putL_getD undef us vs _ _ hfit]
 by_cases hin : off ≤ i ∧ i < off + m.length
 ·have h1 : i - off < m.length := by omega
  have e : i * width t + j - off * width t = (i - off) * width t + j := by
   have : i * width t = off * width t + (i - off) * width t := by rw [← Nat.add_mul]; congr 1; omega
   omega
  have hlt := idx_lt h1 hj
  have hge : off * width t ≤ i * width t := Nat.mul_le_mul_right _ hin.1
  rw [if_pos hin, if_pos (by omega), e]
  exact r2 _ _ h1 hj
 ·rw [if_neg hin, if_neg]
  ·exact r1 i j hi hj
  ·intro hx
   apply hin
   rw [hu, ← Nat.add_mul] at hx
   constructor
   ·rcases Nat.lt_or_ge i off with h | h
    ·have : (i + 1) * width t ≤ off * width t := Nat.mul_le_mul_right _ h
     rw [Nat.add_mul, Nat.one_mul] at this
     omega
    ·exact h
   ·rcases Nat.lt_or_ge i (off + m.length) with h | h
    ·exact h
    ·have : (off + m.length) * width t ≤ i * width t := Nat.mul_le_mul_right _ h
     omega

theorem set_self {h : Heap} {n : Nat} {b : Option Blk} (e : lk h n = b) (hs : b.isSome = true) : h.set n b = h := by
 apply List.ext_getElem?
 intro m
 rw [List.getElem?_set]
 by_cases hm : n = m
 ·subst hm
  have hl : n < h.length := lk_lt (by rw [e]; exact hs)
  simp only [if_true, hl]
  rw [← e, lk, List.getD_eq_getElem?_getD, List.getElem?_eq_getElem hl]
  rfl
 ·rw [if_neg hm]

theorem does_part (hi : Inv cx ok w0 ρ st a w) {nm : Nat} {o : Oper} {n off : Nat} {B : TypeId} {t : ET} {l m : List (Ty t)} {us : List Value} {v : V} {x : Value} (hn : lk st.heap n = some (.arr B t l)) (hm : off + m.length ≤ l.length) (hne : m ≠ [])
    (hu : us.length = m.length * width t) (r2 : RL cx (okc ok w0.heap.size st.heap ρ) w t m us) {b : Nat} (hb : ρ n = some b) (hv : ∀ ok' w', RV cx ρ ok' w' v x)
    (run : ∀ vs : List Value, w.heap[b]? = some (.cells vs.toArray B (0, 0)) → off * width t + us.length ≤ vs.length → (execOp a.eval o).run P w = .ok (.value x) (w.setRow b (vs.take (off * width t) ++ us ++ vs.drop (off * width t + us.length)).toArray)) :
    Does P cx ok w0 ρ st a w nm o v (st.heap.set n (some (.arr B t (l.take off ++ m ++ l.drop (off + m.length))))) := by
 rcases hi.heap n _ hn with ⟨_, q2⟩ | ⟨b', vs, q1, q2, q3, q4⟩
 ·rw [hb] at q2; cases q2
 ·rw [hb] at q1; injection q1 with q1; subst q1
  have hfit : off * width t + us.length ≤ vs.length := by
   rw [hu, ← Nat.add_mul]
   exact Nat.le_trans (Nat.mul_le_mul_right _ hm) q3
  have hrun := run vs q2 hfit
  rw [← putL_eq us vs _ hfit] at hrun
  rw [← putL_eq m l off hm]
  have hz : ((putL vs (off * width t) us).toArray).size = (vs.toArray).size := by simp [putL_length]
  have hx := fun N => ext_write hi.hv (lk_some hn) hb q2 hz (.arr B t (putL l off m)) N
  refine ⟨ρ, _, _, x, hrun, .inl rfl, fun _ _ => rfl, hx, hi.hv.write (lk_some hn) hb q2 hz _ (.inr ⟨b, _, hb, setRow_heap w b _ _ _ _ q2, by simpa [putL_length] using q3, ?_⟩), hv _ _⟩
  exact (RL_put hm q3 hu (fun i j hi' hj => q4 i j hi' hj) r2).ext (hx 0)

theorem does_none (hi : Inv cx ok w0 ρ st a w) {nm : Nat} {o : Oper} {n : Nat} {blk : Blk} {v : V} {x : Value} (hn : lk st.heap n = some blk) (hv : ∀ ok' w', RV cx ρ ok' w' v x) (run : (execOp a.eval o).run P w = .ok (.value x) w) :
    Does P cx ok w0 ρ st a w nm o v (st.heap.set n (some blk)) := by
 rw [set_self hn rfl]
 exact ⟨ρ, w, _, x, run, .inl rfl, fun _ _ => rfl, fun N => Ext.refl N _ _ _, hi.hv, hv _ _⟩

theorem firstCells_take {s : Sl} {v : Value} {A : Option Addr} {cap k : Nat} {vs : List Value} (hr : SlRead cx ok w s v A cap vs) (hk : k ≤ s.l.length) : (Builtin.firstCells (width s.t) k v).run P w = .ok (vs.take (k * width s.t)).toArray w := by
 obtain ⟨rfl, h1, h2, h3, h4, h5⟩ := hr
 by_cases hl : s.l = []
 ·have e0 : s.l.length = 0 := by rw [hl]; rfl
  have ev : vs = [] := by apply List.length_eq_zero_iff.1; rw [h3, e0, Nat.zero_mul]
  have ek : k = 0 := by omega
  subst ek; subst ev
  cases A with
  | none => simpa using run_firstCells_none (P := P) w (width s.t) 0 s.l.length cap
  | some b => simpa using run_firstCells_some (P := P) w (width s.t) 0 b s.l.length cap [] (by simp) (fun j u hj => by simp at hj)
 ·obtain ⟨b, off, rfl, hc⟩ := h5 hl
  have hkl : k * width s.t ≤ vs.length := by rw [h3]; exact Nat.mul_le_mul_right _ hk
  refine run_firstCells_some (P := P) w (width s.t) k _ _ cap (vs.take (k * width s.t)) (by simp; omega) (fun j u hj => ?_)
  have hj' : j < k * width s.t := by
   rcases Nat.lt_or_ge j (k * width s.t) with h | h
   ·exact h
   ·rw [List.getElem?_eq_none (by simp; omega)] at hj; cases hj
  rw [add_plain, hc j (by omega)]
  rw [List.getElem?_take, if_pos hj'] at hj
  rw [List.getD_eq_getElem?_getD, hj]
  rfl

theorem does_copy (hcx : CxOk P cx) (hi : Inv cx ok w0 ρ st a w) {nm : Nat} {o : Oper} {cl : Call} {S X : Operand} {T T2 : TypeId} {s x : C} {e : Eff} (ho : o.op = .call cl) (hb : cl.callee = .builtin .copy)
    (hargs : cl.args.toList = [S, X]) (hts : cl.argTypes.toList = [T, T2]) (hS : opv st.env S = .v false [s]) (hX : opv st.env X = .v false [x]) {E : TypeId} {t : ET} {n2 : Nat} {z2 : List D} {es2 : List (Option ET)} (hT : cx.tt T = some ⟨.slice E t, n2, z2, es2⟩)
    (he : copyE E t st.heap s x = some e) (hok : e.ok = true) : Does P cx ok w0 ρ st a w nm o e.val e.heap := by
 have hs := op_c hi hS
 have hx := op_c hi hX
 obtain ⟨hu, ie, hie, hsz, hz⟩ := und_of hcx hT
 have hte := hcx.ty _ _ hie
 obtain ⟨inf, g1, g2, _⟩ := hte.info
 have hw : inf.size = width t := by rw [g2, hsz]
 have hty : cl.argTypes[0]? = some T := by rw [← Array.getElem?_toList, hts]; rfl
 have run : ∀ u w', (Builtin.copy_ cl.argTypes o.type #[a.eval S, a.eval X]).run P w = .ok u w' → (execOp a.eval o).run P w = .ok (.value u) w' := fun u w' h =>
  run_builtin ho hb (fun cs => by rw [args_two hargs]; simp [builtin, h])
 unfold copyE at he
 split at he
 ·rename_i n tn fulln off len
  split at he
  ·rename_i htn; subst htn
   split at he
   ·rename_i B t' l t2 l2 f2 r2 p hn hsl
    split at he
    ·rename_i e1; subst e1
     split at he
     ·rename_i e2; subst e2
      split at he
      ·injection he with he; subst he
       simp only [Bool.and_eq_true, decide_eq_true_eq] at hok
       obtain ⟨hp, hlen⟩ := hok
       obtain ⟨A2, cap2, news, rx⟩ := sl_read hi.hv hx hsl hp
       obtain ⟨A, cap, hSe, hle, hfl, hA⟩ := hs
       have hxl : ∀ w' : World, (Builtin.lenOf (a.eval X)).run P w' = .ok l2.length w' := fun w' => by rw [rx.shape]; rfl
       have hfc := firstCells_take (P := P) rx (k := min l2.length len) (Nat.min_le_left _ _)
       simp only at hfc
       have hk : (l2.take len).length = min l2.length len := by rw [List.length_take, Nat.min_comm]
       have hl2 : l2.take len = l2.take (min l2.length len) := by
        rcases Nat.le_total l2.length len with h | h
        ·rw [Nat.min_eq_left h, List.take_of_length_le h, List.take_of_length_le (Nat.le_refl _)]
        ·rw [Nat.min_eq_right h]
       by_cases hk0 : min l2.length len = 0
       ·have e3 : l2.take len = [] := List.length_eq_zero_iff.1 (by rw [hk, hk0])
        simp only [e3, hk0, Nat.add_zero, List.append_nil, List.take_append_drop]
        refine does_none hi hn (fun ok' w' => RV_of_sc (.int .i64 ((0 : Nat) : Int))) (run _ _ ?_)
        rw [hk0, Nat.zero_mul, List.take_zero] at hfc
        have hmin : Nat.min l2.length len = 0 := hk0
        cases A with
        | none => simp [Builtin.copy_, hty, hSe, run_underlying hu, hxl, hmin, sizeOf, typeInfo, g1, hw, hfc, goInt, Sc.val]
        | some A => simp [Builtin.copy_, hty, hSe, run_underlying hu, hxl, hmin, sizeOf, typeInfo, g1, hw, hfc, goInt, Sc.val, storeCells]
       ·obtain ⟨b, hb', hA', hroom⟩ := hA (by omega)
        have hnl := rx.len
        simp only at hnl
        have hkl : min l2.length len * width t2 ≤ news.length := by rw [hnl]; exact Nat.mul_le_mul_right _ (Nat.min_le_left _ _)
        have key := does_part hi (nm := nm) (off := off) (m := l2.take len) (us := news.take (min l2.length len * width t2)) (v := .i (min l2.length len : Nat)) (x := .int .i64 ((min l2.length len : Nat) : Int)) hn (by rw [hk]; omega)
         (fun e => hk0 (by rw [← hk, e]; rfl)) (by rw [hk, List.length_take]; omega) (by
          rw [hl2]
          exact RL_take (Nat.min_le_left _ _) rx.rl (fun q hq => by simp [List.getD_eq_getElem?_getD, List.getElem?_take, hq])) hb' (fun ok' w' => RV_of_sc (.int .i64 _)) (fun vs q2 hfit => run _ _ ?_)
        ·rw [hk] at key; exact key
        ·have hone : ∀ u ∈ news.take (min l2.length len * width t2), u.oneCell' = true := fun u hu => RL_one rx.len rx.rl u (List.mem_of_mem_take hu)
         have hst := run_storeCells_at P b (off * width t2) B (news.take (min l2.length len * width t2)) 0 vs.toArray w q2 (by simpa using hfit) hone
         simp only [Nat.add_zero] at hst
         have hmin : Nat.min l2.length len = min l2.length len := rfl
         simp [Builtin.copy_, hty, hSe, hA', run_underlying hu, hxl, hmin, sizeOf, typeInfo, g1, hw, hfc, goInt, hst]
      ·cases he
     ·cases he
    ·cases he
   ·cases he
  ·cases he
 ·cases he

theorem zeroCells_made (z : Array Value) (n : Nat) : Builtin.zeroCells z n = madeCells z (n * z.size) := rfl

theorem does_clear (hcx : CxOk P cx) (hi : Inv cx ok w0 ρ st a w) {nm : Nat} {o : Oper} {cl : Call} {S : Operand} {T : TypeId} {s : C} {e : Eff} (ho : o.op = .call cl) (hb : cl.callee = .builtin .clear)
    (hargs : cl.args.toList = [S]) (hts : cl.argTypes.toList = [T]) (hS : opv st.env S = .v false [s]) {E : TypeId} {t : ET} {n2 : Nat} {z2 : List D} {es2 : List (Option ET)} (hT : cx.tt T = some ⟨.slice E t, n2, z2, es2⟩)
    (he : clearE E t st.heap s = some e) (hok : e.ok = true) : Does P cx ok w0 ρ st a w nm o e.val e.heap := by
 have hs := op_c hi hS
 obtain ⟨hu, ie, hie, hsz, hz⟩ := und_of hcx hT
 have hte := hcx.ty _ _ hie
 have hcells := zval_cells hte hz hsz
 have hty : cl.argTypes[0]? = some T := by rw [← Array.getElem?_toList, hts]; rfl
 have run : ∀ u w', (Builtin.clear_ cl.argTypes o.type #[a.eval S]).run P w = .ok u w' → (execOp a.eval o).run P w = .ok (.value u) w' := fun u w' h =>
  run_builtin ho hb (fun cs => by rw [args_one hargs]; simp [builtin, h])
 unfold clearE at he
 split at he
 ·rename_i n tn fulln off len
  split at he
  ·rename_i htn; subst htn
   split at he
   ·rename_i B t' l hn
    split at he
    ·rename_i e1; subst e1
     injection he with he; subst he
     have hlen : off + len ≤ l.length := by simpa using hok
     obtain ⟨A, cap, hSe, hle, hfl, hA⟩ := hs
     by_cases hk0 : len = 0
     ·subst hk0
      simp only [List.replicate_zero, Nat.add_zero, List.append_nil, List.take_append_drop]
      refine does_none hi hn (x := .tuple #[]) (fun ok' w' => trivial) (run _ _ ?_)
      cases A <;> simp [Builtin.clear_, hty, hSe, run_underlying hu]
     ·obtain ⟨b, hb', hA', hroom⟩ := hA (by omega)
      have hzs : ((enc t' (dflt t')).map zval).toArray.size = width t' := by simp [enc_length]
      have key := does_part hi (nm := nm) (off := off) (m := List.replicate len (dflt t')) (us := (madeCells ((enc t' (dflt t')).map zval).toArray (len * width t')).toList) (v := .any) (x := .tuple #[]) hn (by simpa using hlen)
       (fun e => hk0 (by simpa using congrArg List.length e)) (by simp [size_madeCells]) (RL_zero t' len) hb' (fun _ _ => trivial) (fun vs q2 hfit => run _ _ ?_)
      ·rw [List.length_replicate] at key; exact key
      ·have hone : ∀ u ∈ (madeCells ((enc t' (dflt t')).map zval).toArray (len * width t')).toList, u.oneCell' = true :=
         RL_one (cx := cx) (ok := fun _ => True) (w := w) (l := List.replicate len (dflt t')) (by simp [size_madeCells]) (RL_zero t' len)
       have hst := run_storeCells_at P b (off * width t') B _ 0 vs.toArray w q2 (by simpa using hfit) hone
       simp only [Nat.add_zero] at hst
       have hz2 := run_zero (w := w) hte
       have hne : len ≠ 0 := hk0
       cases len with
       | zero => exact absurd rfl hk0
       | succ len =>
        have hzc : (Builtin.zeroCells (mkv ie.agg (ie.zero.map zval)).cells (len + 1)).toList = (madeCells ((enc t' (dflt t')).map zval).toArray ((len + 1) * width t')).toList := by
         rw [hcells, zeroCells_made, hzs]
        simp [Builtin.clear_, hty, hSe, hA', run_underlying hu, hz2, hzc, hst]
    ·cases he
   ·cases he
  ·cases he
 ·cases he
end
end Go.Eng
/- Calls by contract. -/
set_option linter.unusedVariables false
set_option linter.unusedSimpArgs false
namespace Go.Eng
open Go Go.RowKit

def Sim (P : Program) (cx : Cx) (ok : Nat → Prop) (w0 : World) (ρ : Rho) (st : St) (a : Act) (w : World) (nm : Nat) (o : Oper) (v : V) (h' : Heap) : Prop :=
 ∀ (next : Act → World → Prop) (Q : Exit → Act → World → Prop), (∀ ρ' w' x, (∀ n, n ≠ nm → ρ' n = ρ n) → (∀ N, Ext N (okc ok w0.heap.size st.heap ρ) (okc ok w0.heap.size h' ρ') ρ ρ' w w') → HInv cx ok w0 ρ' h' w' →
  RV cx ρ' (okc ok w0.heap.size h' ρ') w' v x → next (a.put o.dst x) w') → o.wp P a w next Q

def one (nm : Nat) (ob : Option Nat) : Rho := ⟨fun n => if n = nm then ob else none, fun _ _ => False⟩

def okR (ok : Nat → Prop) (w : World) (ob : Option Nat) (k : Nat) : Prop := (ok k ∨ w.heap.size ≤ k) ∧ ob ≠ some k

def nameVals (nm : Nat) (vs : List Arg) : List Arg := vs.map fun (g, cs) => (g, cs.map (ownTo nm))

def RowIs (cx : Cx) (ok : Nat → Prop) (w : World) (ob : Option Nat) : Option (TypeId × (t : ET) × List (Ty t)) → Prop
 | none => True
 | some (T, ⟨t, l⟩) => RB cx (one 0 ob) ok w 0 (.arr T t l)
def After (cx : Cx) (ok : Nat → Prop) (w : World) (r : Ret) (e : Ending) (w' : World) : Prop :=
 ∃ x ob, e = .returned x ∧ Below w.heap.size w w' ∧ (∀ b, ob = some b → w.heap.size ≤ b ∧ b < w'.heap.size) ∧ RowIs cx (okR ok w ob) w' ob r.row ∧ ∀ nm, RV cx (one nm ob) (okR ok w ob) w' (valOf (nameVals nm r.vals)) x

def EntOk (P : Program) (cx : Cx) (go : List Value → Sem Next) (G : List DArg → Option Ret) : Prop :=
 ∀ das r, G das = some r → r.ok = true → ∀ ok w xs, RAs cx Rho.nil ok w (liftA das) xs → ∃ f xs', (go xs).run P w = .ok (.enter f xs') w ∧ Calls P f xs' w (After cx ok w r)

structure FnOk (P : Program) (f : FuncId) (fn : Func) : Prop where
 at_ : P.funcs[f]? = some fn
 name : (fn.name == "runtime.NumGoroutine") = false
 body : fn.body.isNone = false

structure GaOk (P : Program) (cx : Cx) : Prop where
 ga : ∀ f G, cx.ga f = some G → EntOk P cx (fun xs => callFunc f xs.toArray) G
 inv : ∀ m G, cx.inv m = some G → EntOk P cx (fun xs => invoke (.fn (.method m) #[]) xs.toArray) G
 inl : ∀ f fn, cx.inl f = some fn → FnOk P f fn

section
variable {P : Program} {cx : Cx} {ok : Nat → Prop} {w0 : World} {ρ : Rho} {st : St} {a : Act} {w : World} {h : Heap}

theorem Does.sim {nm : Nat} {o : Oper} {v : V} {h' : Heap} (hd : Does P cx ok w0 ρ st a w nm o v h') : Sim P cx ok w0 ρ st a w nm o v h' := by
 obtain ⟨ρ', w', nx, x, h1, h2, h3, h4, h5, h6⟩ := hd
 intro next Q K
 have := K ρ' w' x h3 h4 h5 h6
 unfold Oper.wp
 rw [h1]
 rcases h2 with rfl | ⟨rfl, rfl⟩
 ·exact this
 ·exact this
theorem Gives.does (hi : Inv cx ok w0 ρ st a w) {nm : Nat} {o : Oper} {v : V} (hg : Gives P cx ok w0 ρ st a w o v) : Does P cx ok w0 ρ st a w nm o v st.heap := by
 obtain ⟨x, h1, h2⟩ := hg
 exact ⟨ρ, w, _, x, h1, .inl rfl, fun _ _ => rfl, fun N => Ext.refl N _ _ _, hi.hv, h2⟩

theorem run_callFunc {f : FuncId} {fn : Func} (hf : FnOk P f fn) (xs : Array Value) : (callFunc f xs).run P w = .ok (.enter f xs) w := by
 obtain ⟨h1, h2, h3⟩ := hf
 have h3' : fn.body ≠ none := by intro e; rw [e] at h3; cases h3
 have h2' : fn.name ≠ "runtime.NumGoroutine" := by simpa using h2
 simp [callFunc, h1, h2', h3']

theorem kill_less (ks : List Nat) (h : Heap) : Less h (kill h ks) ks :=
 ⟨fun n hn => by rw [lk_kill, if_pos hn], fun n hn => by
  rw [lk_kill] at hn
  split at hn
  ·cases hn
  ·exact hn⟩

def callHeap (h : Heap) (ks : List Nat) (nm : Nat) : Option (TypeId × (t : ET) × List (Ty t)) → Heap
 | none => kill h ks
 | some (e, ⟨t, l⟩) => (kill h ks).set nm (some (.arr e t l))

theorem one_sub {nm : Nat} {ob : Option Nat} {n b : Nat} (h : one nm ob n = some b) : n = nm ∧ ob = some b := by
 simp only [one] at h
 split at h
 ·exact ⟨‹_›, h⟩
 ·cases h
theorem one_has {nm : Nat} {ob : Option Nat} {n b : Nat} (h : (one nm ob).has n b) : n = nm ∧ ob = some b := by
 rcases h with h | h
 ·exact one_sub h
 ·exact h.elim

theorem after_ok (hi : HInv cx ok w0 ρ h w) {nm : Nat} (hρ : ρ nm = none) (hl : nm < h.length) (hk : lk h nm = none) {ks : List Nat} {r : Ret} {w' : World} {x : Value} {ob : Option Nat}
    (hb : Below w.heap.size w w') (ho : ∀ b, ob = some b → w.heap.size ≤ b ∧ b < w'.heap.size) (hrow : RowIs cx (okR (okc ok w0.heap.size (kill h ks) ρ) w ob) w' ob r.row) (hv : ∀ nm, RV cx (one nm ob) (okR (okc ok w0.heap.size (kill h ks) ρ) w ob) w' (valOf (nameVals nm r.vals)) x) :
    (∀ N, Ext N (okc ok w0.heap.size h ρ) (okc ok w0.heap.size (callHeap h ks nm r.row) (upd ρ nm ob)) ρ (upd ρ nm ob) w w') ∧ HInv cx ok w0 (upd ρ nm ob) (callHeap h ks nm r.row) w' ∧
     RV cx (upd ρ nm ob) (okc ok w0.heap.size (callHeap h ks nm r.row) (upd ρ nm ob)) w' (valOf (nameVals nm r.vals)) x := by
 have hless := kill_less ks h
 have live : ∀ n, (lk (callHeap h ks nm r.row) n).isSome = true → n ≠ nm → (lk (kill h ks) n).isSome = true := fun n hn hne => by
  unfold callHeap at hn
  split at hn
  ·exact hn
  ·rwa [lk_set_ne hne] at hn
 have hsz : w0.heap.size ≤ w.heap.size := hi.below.size
 have hsz' : w.heap.size ≤ w'.heap.size := hb.size
 -- what the callee's data may lie in is what the caller's may
 have okto : ∀ k, okR (okc ok w0.heap.size (kill h ks) ρ) w ob k → okc ok w0.heap.size (callHeap h ks nm r.row) (upd ρ nm ob) k := fun k hkk => ⟨by
  rcases hkk.1 with h1 | h1
  ·exact h1.1
  ·exact .inr (by omega), fun n hn e => by
  by_cases hne : n = nm
  ·subst hne; rw [upd_has] at e; exact hkk.2 e
  ·rw [upd_has_ne hne] at e
   rcases hkk.1 with h1 | h1
   ·exact h1.2 n (live n hn hne) e
   ·have := (hi.own n k e).2; omega⟩
 have hx : ∀ N, Ext N (okc ok w0.heap.size h ρ) (okc ok w0.heap.size (callHeap h ks nm r.row) (upd ρ nm ob)) ρ (upd ρ nm ob) w w' := fun N => by
  refine ⟨fun n b _ e => ?_, fun k hk _ => hb.block k hk, fun k hk hok => ⟨hok.1, fun n hn e => ?_⟩, fun k hk => roomOf_eq (hb.block k hk), hsz'⟩
  ·have : n ≠ nm := fun e2 => by rw [e2, hρ] at e; cases e
   rw [upd_ne this]; exact e
  ·by_cases hne : n = nm
   ·subst hne; rw [upd_has] at e; have := (ho k e).1; omega
   ·rw [upd_has_ne hne] at e; exact hok.2 n (hless.live n (live n hn hne)) e
 have hself : ∀ N, Ext N (okR (okc ok w0.heap.size (kill h ks) ρ) w ob) (okc ok w0.heap.size (callHeap h ks nm r.row) (upd ρ nm ob)) (one nm ob) (upd ρ nm ob) w' w' := fun N =>
  ⟨fun n b _ e => by obtain ⟨rfl, e2⟩ := one_sub e; rw [upd_same]; exact e2, fun _ _ _ => rfl, fun k _ hk => okto k hk, fun _ _ => rfl, Nat.le_refl _⟩
 refine ⟨hx, ⟨fun n c hn => ?_, fun n m k hn hm e1 e2 => ?_, fun n k e => ?_, fun n hn => ?_, hi.below.trans (hb.mono hsz)⟩, Ext.all_V hself (fun n b e => (ho b (one_has e).2).2) (hv nm)⟩
 ·by_cases hne : n = nm
  ·subst hne
   unfold callHeap at hn hx okto
   split at hn
   ·rename_i hr
    have := hless.live n (lk_some hn)
    rw [hk] at this; cases this
   ·rename_i T t l hr
    rw [lk_set_same (by rw [kill_length]; exact hl)] at hn
    injection hn with hn; subst hn
    rw [hr] at hrow
    have hrow' : RB cx (one 0 ob) (okR (okc ok w0.heap.size (kill h ks) ρ) w ob) w' 0 (.arr T t l) := hrow
    rcases hrow' with ⟨q1, q2⟩ | ⟨b, vs, q1, q2, q3, q4⟩
    ·exact .inl ⟨q1, by rw [upd_same]; exact q2⟩
    ·refine .inr ⟨b, vs, by rw [upd_same]; exact (one_sub q1).2, q2, q3, fun i j hi' hj => (q4 i j hi' hj).ext (fun _ _ _ => rfl) (fun k _ hk => ?_) (Nat.le_refl _)⟩
     exact okto k hk
  ·have hn' : lk h n = some c := by
     have h1 := live n (lk_some hn) hne
     have e1 : lk (kill h ks) n = some c := by
      unfold callHeap at hn
      split at hn
      ·exact hn
      ·rwa [lk_set_ne hne] at hn
     rw [lk_kill] at e1
     split at e1
     ·cases e1
     ·exact e1
   exact Ext.all_B hx hi.lt (fun k hk => hb.block k (hi.lt n k hk)) (upd_keep hne) (hi.heap n c hn')
 ·by_cases h1 : n = nm <;> by_cases h2 : m = nm
  ·rw [h1, h2]
  ·rw [h1, upd_has] at e1; rw [upd_has_ne h2] at e2; have := (ho k e1).1; have := (hi.own m k e2).2; omega
  ·rw [h2, upd_has] at e2; rw [upd_has_ne h1] at e1; have := (ho k e2).1; have := (hi.own n k e1).2; omega
  ·rw [upd_has_ne h1] at e1; rw [upd_has_ne h2] at e2
   exact hi.inj n m k (hless.live n (live n hn h1)) (hless.live m (live m hm h2)) e1 e2
 ·by_cases hne : n = nm
  ·subst hne; rw [upd_has] at e; have := ho k e; exact ⟨by omega, this.2⟩
  ·rw [upd_has_ne hne] at e; have := hi.own n k e; exact ⟨this.1, by omega⟩
 ·have e : (callHeap h ks nm r.row).length = h.length := by
    unfold callHeap
    split <;> simp [kill_length]
  have : n ≠ nm := by omega
  have hf := hi.fresh n (by omega)
  exact ⟨by rw [upd_ne this]; exact hf.1, fun b hb2 => hf.2 b hb2.2⟩

theorem lend_rc {ok1 ok2 : Nat → Prop} {w : World} {c : C} {x : Value} (hc : lendC c = true) (h : RC cx ρ ok1 w c x) : RC cx ρ ok2 w c x := by
 cases c with
 | d y =>
  cases y with
  | sc s =>
   have h : RD cx ok1 w (.sc s) x := h
   cases h
   exact RD.sc s
  | th y =>
   have h : RD cx ok1 w (.th y) x := h
   cases h with
   | nilI => exact RD.nilI
   | one T s h1 => exact RD.one T s h1
   | val T v h1 => exact RD.val T v h1
  | sl _ _ _ _ => cases hc
  | nils => cases hc
  | fn _ _ _ => cases hc
  | ref _ => cases hc
  | nilf => cases hc
  | nilm => cases hc
 | own n t full off len => exact h
 | ptr _ _ => cases hc
 | ep _ _ _ _ => cases hc
 | clo _ _ _ => cases hc
 | yld _ => cases hc
 | mref _ => cases hc
 | mrow _ _ _ => cases hc
theorem lend_ra {ok1 ok2 : Nat → Prop} {w : World} {a : Arg} {x : Value} (hc : a.2.all lendC = true) (h : RA cx ρ ok1 w a x) : RA cx ρ ok2 w a x := by
 obtain ⟨g, cs⟩ := a
 cases g with
 | true =>
  obtain ⟨vs, h1, h2⟩ := h
  exact ⟨vs, h1, h2.1, fun j hj => lend_rc (List.all_eq_true.1 hc _ (getD_mem hj)) (h2.2 j hj)⟩
 | false =>
  obtain ⟨c, h1, h2⟩ := h
  refine ⟨c, h1, lend_rc (List.all_eq_true.1 hc _ ?_) h2⟩
  rw [h1]; exact List.mem_singleton.2 rfl
theorem lend_own {nm : Nat} {c : C} (h : lendC c = true) : lendC (ownTo nm c) = true := by
 cases c with
 | own _ _ _ _ _ => rfl
 | d _ => exact h
 | ptr _ _ => exact h
 | ep _ _ _ _ => exact h
 | clo _ _ _ => exact h
 | yld _ => exact h
 | mref _ => exact h
 | mrow _ _ _ => exact h
theorem lend_rv {ok1 ok2 : Nat → Prop} {w : World} {nm : Nat} {vals : List Arg} {x : Value} (hc : (vals.all fun a => a.2.all lendC) = true) (h : RV cx ρ ok1 w (valOf (nameVals nm vals)) x) : RV cx ρ ok2 w (valOf (nameVals nm vals)) x := by
 have key : ∀ a ∈ nameVals nm vals, a.2.all lendC = true := fun a ha => by
  simp only [nameVals, List.mem_map] at ha
  obtain ⟨⟨g, cs⟩, hg, rfl⟩ := ha
  have := List.all_eq_true.1 hc _ hg
  simp only [List.all_map, List.all_eq_true] at this ⊢
  exact fun c hcc => lend_own (this c hcc)
 generalize nameVals nm vals = vs at h key
 match vs, h with
 | [], _ => trivial
 | [(g, cs)], h => exact lend_ra (a := (g, cs)) (key _ (List.mem_singleton.2 rfl)) h
 | g1 :: g2 :: r, h =>
  obtain ⟨xs, e1, h1⟩ := h
  exact ⟨xs, e1, h1.1, fun j hj => lend_ra (key _ (getD_mem hj)) (h1.2 j hj)⟩
theorem flat_cell {ok1 ok2 : Nat → Prop} {w : World} {t : ET} (hf : t.flat = true) (y : Ty t) {j : Nat} (hj : j < width t) {x : Value} (h : RD cx ok1 w ((enc t y).getD j .nils) x) : RD cx ok2 w ((enc t y).getD j .nils) x := by
 have hl : lendC (.d ((enc t y).getD j .nils)) = true := by
  have hall : ((enc t y).all fun d => lendC (.d d)) = true := by
   cases t <;> first | rfl | cases hf
  exact List.all_eq_true.1 hall _ (getD_mem (by rw [enc_length]; exact hj))
 exact lend_rc (ρ := Rho.nil) (c := .d _) hl h
theorem lend_row {ok1 ok2 : Nat → Prop} {w : World} {n : Nat} {T : TypeId} {t : ET} {l : List (Ty t)} (hf : t.flat = true) (h : RB cx ρ ok1 w n (.arr T t l)) : RB cx ρ ok2 w n (.arr T t l) := by
 rcases h with h1 | ⟨b, vs, h1, h2, h3, h4⟩
 ·exact .inl h1
 ·exact .inr ⟨b, vs, h1, h2, h3, fun i j hi hj => flat_cell hf _ hj (h4 i j hi hj)⟩

theorem sim_gam (hi : Inv cx ok w0 ρ st a w) {nm : Nat} (hρ : ρ nm = none) (hl : nm < st.heap.length) (hk : lk st.heap nm = none) {o : Oper} {go : List Value → Sem Next} {G : List DArg → Option Ret} (hG : EntOk P cx go G) {as : List Arg} {xs : List Value}
    (hxs : RAs cx ρ (okc ok w0.heap.size st.heap ρ) w as xs) (hrun : ∀ f ys, (go xs).run P w = .ok (.enter f ys) w → (execOp a.eval o).run P w = .ok (.enter f ys) w) {e : Eff} (he : callG G nm st.heap as = some e) (hok : e.ok = true) : Sim P cx ok w0 ρ st a w nm o e.val e.heap := by
 unfold callG at he
 split at he
 ·cases he
 ·rename_i ds ks p hd
  split at he
  ·cases he
  ·rename_i r hr
   injection he with he; subst he
   simp only [Bool.and_eq_true] at hok
   have hargs := demArgs_ok hi.hv (h' := kill st.heap ks) as ds ks p xs hd hok.1 (kill_less ks st.heap) hxs Rho.nil
   obtain ⟨f, ys, h1, h2⟩ := hG ds r hr hok.2 _ w xs hargs
   intro next Q K
   have h3 := hrun f ys h1
   unfold Oper.wp
   rw [h3, Oper.upon_enter]
   refine h2.mono fun e w' ha => ?_
   obtain ⟨x, ob, rfl, hb, ho, hrow, hv⟩ := ha
   cases hle : r.lends with
   | false =>
    obtain ⟨k1, k2, k3⟩ := after_ok hi.hv hρ hl hk hb ho hrow hv
    rcases r with ⟨ro, row, vals⟩
    simp only [lentOf, hle] at K
    rcases row with _ | ⟨T, t, l⟩
    ·exact K (upd ρ nm ob) w' x (fun n hn => upd_ne hn) k1 k2 k3
    ·exact K (upd ρ nm ob) w' x (fun n hn => upd_ne hn) k1 k2 k3
   | true =>
    rcases r with ⟨ro, row, vals⟩
    simp only [Ret.lends, Bool.and_eq_true] at hle
    have hlents : Ret.lends ⟨ro, row, vals⟩ = true := by simp only [Ret.lends, Bool.and_eq_true]; exact hle
    simp only [lentOf, hlents, if_true] at K
    have hv2 : ∀ nm, RV cx (one nm ob) (okR (okc ok w0.heap.size (kill st.heap []) ρ) w ob) w' (valOf (nameVals nm vals)) x := fun nm => lend_rv hle.1 (hv nm)
    rcases row with _ | ⟨T, t, l⟩
    ·obtain ⟨k1, k2, k3⟩ := after_ok (ks := []) (r := ⟨ro, none, vals⟩) hi.hv hρ hl hk hb ho trivial hv2
     exact K (upd ρ nm ob) w' x (fun n hn => upd_ne hn) k1 k2 k3
    ·have hrow2 : RowIs cx (okR (okc ok w0.heap.size (kill st.heap []) ρ) w ob) w' ob (some (T, ⟨t, l⟩)) := lend_row (cx := cx) hle.2 hrow
     obtain ⟨k1, k2, k3⟩ := after_ok (ks := []) (r := ⟨ro, some (T, ⟨t, l⟩), vals⟩) hi.hv hρ hl hk hb ho hrow2 hv2
     exact K (upd ρ nm ob) w' x (fun n hn => upd_ne hn) k1 k2 k3
open Go.MapKept (IsKey findNow_spec run_findKey run_checkKey run_keyThatStays)
theorem run_makeMap' {t : TypeId} : (Instr.makeMap t none).run P w = .ok (.map (some w.heap.size)) (w.alloc (.map #[] 0)) := rfl
theorem does_makeMap (hi : Inv cx ok w0 ρ st a w) {nm : Nat} (hρ : ρ nm = none) (hl : nm < st.heap.length) (hk : lk st.heap nm = none) {o : Oper} {T E : TypeId} (ho : o.op = .makeMap T none) :
    Does P cx ok w0 ρ st a w nm o (.v false [.mref nm]) (st.heap.set nm (some (.mp E [] [] none))) := by
 have hx := ext_new hi.hv hρ (.map #[] 0) (some (.mp E [] [] none))
 refine ⟨upd ρ nm (some w.heap.size), w.alloc (.map #[] 0), .value (.map (some w.heap.size)), _, ?_, .inl rfl, fun n hn => upd_ne hn, hx, ?_, RV_of_c ⟨_, upd_same _ _ _, rfl⟩⟩
 ·simp [execOp, ho, run_makeMap']
 ·refine hi.hv.new hρ hl hk _ _ ⟨w.heap.size, #[], 0, upd_same _ _ _, heap_alloc_new w _, rfl, List.nodup_nil, fun i q e h1 => ?_, fun i j q q' e e' b h1 => ?_, fun m k hm => by (cases hm), fun m k hm => by (cases hm)⟩
  ·simp at h1
  ·simp at h1

theorem HInv.name (hi : HInv cx ok w0 ρ h w) {nm bb : Nat} (hρ : ρ nm = none) (hl : nm < h.length) (hk : lk h nm = none) (h1 : w0.heap.size ≤ bb) (h2 : bb < w.heap.size) :
    HInv cx ok w0 (upd ρ nm (some bb)) h w ∧ ∀ N, Ext N (okc ok w0.heap.size h ρ) (okc ok w0.heap.size h (upd ρ nm (some bb))) ρ (upd ρ nm (some bb)) w w := by
 have hne : ∀ m, (lk h m).isSome = true → m ≠ nm := fun m hm e => by rw [e, hk] at hm; cases hm
 have hx : ∀ N, Ext N (okc ok w0.heap.size h ρ) (okc ok w0.heap.size h (upd ρ nm (some bb))) ρ (upd ρ nm (some bb)) w w := fun N =>
  ⟨fun m k _ hm => by
   have : m ≠ nm := fun e => by rw [e, hρ] at hm; cases hm
   rw [upd_ne this]; exact hm, fun _ _ _ => rfl, fun k _ ho => ⟨ho.1, fun m hm hh => by
   rw [upd_has_ne (hne m hm)] at hh; exact ho.2 m hm hh⟩, fun _ _ => rfl, Nat.le_refl _⟩
 refine ⟨⟨fun m c hm => Ext.all_B hx hi.lt (fun _ _ => rfl) (upd_keep (hne m (lk_some hm))) (hi.heap m c hm), fun m1 m2 k g1 g2 e1 e2 => ?_, fun m k hm => ?_, fun m hm => ?_, hi.below⟩, hx⟩
 ·rw [upd_has_ne (hne m1 g1)] at e1; rw [upd_has_ne (hne m2 g2)] at e2
  exact hi.inj m1 m2 k g1 g2 e1 e2
 ·by_cases e : m = nm
  ·rw [e, upd_has] at hm; injection hm with hm; subst hm; exact ⟨h1, h2⟩
  ·rw [upd_has_ne e] at hm; exact hi.own m k hm
 ·have hf := hi.fresh m hm
  exact ⟨by rw [upd_ne (by omega)]; exact hf.1, fun b hb => hf.2 b hb.2⟩

theorem str_keys {ρ : Rho} {n b0 : Nat} {E : TypeId} {l : List (ByteArray × List Int)} {lo : List (Nat × ByteArray)} {p : Option ByteArray} {es : List MapEntry} (h : MapR ρ w n b0 E l lo p es) : ∀ x ∈ es, IsKey .string x.key := fun x hx => by
 have : x.key ∈ es.map (·.key) := List.mem_map.2 ⟨x, hx, rfl⟩
 rw [h.keys] at this
 obtain ⟨q, _, e⟩ := List.mem_map.1 this
 rw [← e]; trivial
theorem key_at {ρ : Rho} {n b0 : Nat} {E : TypeId} {l : List (ByteArray × List Int)} {lo : List (Nat × ByteArray)} {p : Option ByteArray} {es : List MapEntry} (h : MapR ρ w n b0 E l lo p es) (i : Nat) : (es[i]?).map (·.key) = (l[i]?).map fun q => .string q.1 := by
 have := congrArg (fun x => x[i]?) h.keys
 simpa using this
theorem idx_one {l : List (ByteArray × List Int)} (hn : (l.map (·.1)).Nodup) {i j : Nat} {q q' : ByteArray × List Int} (h1 : l[i]? = some q) (h2 : l[j]? = some q') (h : q.1 = q'.1) : i = j := by
 have hi : i < l.length := (List.getElem?_eq_some_iff.1 h1).1
 have hj : j < l.length := (List.getElem?_eq_some_iff.1 h2).1
 have a1 : (l.map (·.1))[i]? = some q.1 := by rw [List.getElem?_map, h1]; rfl
 have a2 : (l.map (·.1))[j]? = some q.1 := by rw [List.getElem?_map, h2, h]; rfl
 exact (List.getElem?_inj (by simpa using hi) hn).1 (a1.trans a2.symm)
theorem lookL_none : ∀ {l : List (ByteArray × List Int)} {s : ByteArray}, (∀ q ∈ l, q.1 ≠ s) → lookL l s = []
 | [], _, _ => rfl
 | q :: l, s, h => by rw [lookL, if_neg (h q List.mem_cons_self), lookL_none fun x hx => h x (List.mem_cons_of_mem _ hx)]

theorem find_key {ρ : Rho} {n b0 : Nat} {E : TypeId} {l : List (ByteArray × List Int)} {lo : List (Nat × ByteArray)} {p : Option ByteArray} {es : List MapEntry} (h : MapR ρ w n b0 E l lo p es) (s : ByteArray) :
    (Instr.findNow .string (.string s) es 0 = some none ∧ (∀ q ∈ l, q.1 ≠ s)) ∨ ∃ j e q, Instr.findNow .string (.string s) es 0 = some (some (j, e.val)) ∧ es[j]? = some e ∧ e.key = .string s ∧ l[j]? = some q ∧ q.1 = s := by
 rcases findNow_spec (d := .string) (k := .string s) trivial es 0 (str_keys h) with ⟨h1, h2⟩ | ⟨j, e, h1, h2, h3⟩
 ·refine .inl ⟨h1, fun q hq he => ?_⟩
  have : (Value.string q.1) ∈ l.map fun q => Value.string q.1 := List.mem_map.2 ⟨q, hq, rfl⟩
  rw [← h.keys] at this
  obtain ⟨x, hx, e⟩ := List.mem_map.1 this
  exact h2 x hx (by rw [e, he])
 ·have hk := key_at h j
  rw [h2] at hk
  cases hq : l[j]? with
  | none => rw [hq] at hk; cases hk
  | some q =>
   rw [hq] at hk
   simp only [Option.map_some, Option.some.injEq] at hk
   rw [h3] at hk
   injection hk with hk
   rw [Nat.zero_add] at h1
   exact .inr ⟨j, e, q, h1, h2, h3, hq, hk.symm⟩

theorem does_lookup (hcx : CxOk P cx) (hi : Inv cx ok w0 ρ st a w) {nm : Nat} (hρ : ρ nm = none) (hl : nm < st.heap.length) (hk : lk st.heap nm = none) {o : Oper} {T k e E : TypeId} {x i : Operand} {n1 n2 : Nat} {z1 z2 : List D} {es1 es2 : List (Option ET)} (ho : o.op = .lookup T x i false)
    (hT : cx.tt T = some ⟨.map k e, n1, z1, es1⟩) (hE : cx.tt e = some ⟨.slice E .int, n2, z2, es2⟩) {n : Nat} {s : ByteArray} (hx : opv st.env x = .v false [.mref n]) (hs : opv st.env i = .v false [.d (.sc (.str s))]) {l : List (ByteArray × List Int)} {lo : List (Nat × ByteArray)} (hn : lk st.heap n = some (.mp E l lo none)) :
    Does P cx ok w0 ρ st a w nm o (.v false [.mrow n nm (lookL l s).length]) (st.heap.set n (some (.mp E l ((nm, s) :: lo) none))) := by
 obtain ⟨hu, huk⟩ := und_of hcx hT
 obtain ⟨hue, _⟩ := und_of hcx hE
 have hte := hcx.ty _ _ hE
 have hz : (zeroValue e).run P w = .ok (.slice none 0 0) w := by
  have h0 := run_zero (w := w) hte
  have hsl : z2.map zval = [.slice none 0 0] := hte.slz _ _ rfl
  rw [h0]
  simp [TI.agg, mkv, hsl]
 obtain ⟨b0, hb0, hxv⟩ := op_c hi hx
 have hsv : a.eval i = .string s := by
  have := op_sc hi hs
  exact this
 obtain ⟨b1, es, ck, q1, q2, q3⟩ := hi.heap n _ hn
 rw [hb0] at q1; injection q1 with q1; subst q1
 have hne : n ≠ nm := fun e2 => by rw [e2, hk] at hn; cases hn
 have hnl := lk_lt (lk_some hn)
 have hb0b := hi.own n b0 (.inl hb0)
 have run : ∀ r, Instr.findNow .string (.string s) es.toList 0 = some r → (execOp a.eval o).run P w = .ok (.value (match r with | some (_, v) => v | none => .slice none 0 0)) w := fun r hr => by
  have h1 := run_findKey (w := w) huk hr
  have h2 : (Instr.checkKey es.isEmpty 10000 k (.string s)).run P w = .ok () w := run_checkKey (w := w) huk (k := .string s) (by trivial) es.isEmpty 9999
  have h3 := Go.MapKept.run_getObj_map (P := P) q2
  cases r with
  | none => simp [execOp, ho, Instr.lookup, hxv, hsv, run_underlying hu, h3, h1, h2, hz, Result.andThen]
  | some r => obtain ⟨j, v⟩ := r; simp [execOp, ho, Instr.lookup, hxv, hsv, run_underlying hu, h3, h1, h2, Result.andThen]
 -- the name's block
 have fin : ∀ (bb : Nat) (v : Value), w0.heap.size ≤ bb → bb < w.heap.size → (execOp a.eval o).run P w = .ok (.value v) w →
     (∀ (i : Nat) (q : ByteArray × List Int) (e : MapEntry) (b : Nat), l[i]? = some q → es.toList[i]? = some e → q.1 = s → rowB e.val = some b → bb = b) → ((∀ (i : Nat) (q : ByteArray × List Int) (e : MapEntry), l[i]? = some q → es.toList[i]? = some e → q.1 = s → rowB e.val = none) → bb = b0) →
     (∃ A cap, v = .slice A (lookL l s).length cap ∧ (lookL l s).length ≤ cap ∧ (cap ≠ 0 → A = some ⟨bb, 0, none⟩ ∧ cap ≤ World.roomOf w bb)) →
     Does P cx ok w0 ρ st a w nm o (.v false [.mrow n nm (lookL l s).length]) (st.heap.set n (some (.mp E l ((nm, s) :: lo) none))) := fun bb v k1 k2 k3 k4 k5 k6 => by
  obtain ⟨i1, i2⟩ := hi.hv.name hρ hl hk k1 k2
  have hlive : ∀ m, (lk (st.heap.set n (some (.mp E l ((nm, s) :: lo) none))) m).isSome = true → (lk st.heap m).isSome = true := fun m hm => by
   by_cases e2 : m = n
   ·rw [e2]; exact lk_some hn
   ·rwa [lk_set_ne e2] at hm
  have hless : Less st.heap (st.heap.set n (some (.mp E l ((nm, s) :: lo) none))) [] := ⟨fun m hm => by (cases hm), hlive⟩
  obtain ⟨A, cap, c1, c2, c3⟩ := k6
  refine ⟨upd ρ nm (some bb), w, .value v, v, k3, .inl rfl, fun q hq => upd_ne hq, fun N => (i2 N).trans (hless.ext (w := w) N), ⟨fun m c hm => ?_, fun m1 m2 k h1 h2 => i1.inj m1 m2 k (hlive m1 h1) (hlive m2 h2), i1.own, fun m hm => i1.fresh m (by simpa using hm), i1.below⟩, RV_of_c ⟨A, cap, c1, c2, fun hc => ⟨bb, upd_same _ _ _, (c3 hc).1, (c3 hc).2⟩⟩⟩
  by_cases e2 : m = n
  ·subst e2
   rw [lk_set_same hnl] at hm; injection hm with hm; subst hm
   refine ⟨b0, es, ck, by rw [upd_ne hne]; exact hb0, q2, q3.keys, q3.nodup, fun i q e' h1 h2 h3 => (q3.rows i q e' h1 h2 h3).ext (fun b hb => ⟨hne, hb⟩) (fun _ _ => rfl), q3.apart, fun m' k' hm' => ?_, fun m' k' hm' h1 => ?_⟩
   ·rcases List.mem_cons.1 hm' with hm' | hm'
    ·injection hm' with e3 e4; subst e3; subst e4
     exact ⟨rfl, fun i q e' b h1 h2 h3 h4 => by rw [upd_same, k4 i q e' b h1 h2 h3 h4]⟩
    ·refine ⟨rfl, fun i q e' b h1 h2 h3 h4 => ?_⟩
     have := (q3.look m' k' hm').2 i q e' b h1 h2 h3 h4
     rw [upd_ne (fun e3 => by rw [e3, hρ] at this; cases this)]; exact this
   ·rcases List.mem_cons.1 hm' with hm' | hm'
    ·injection hm' with e3 e4; subst e3; subst e4
     rw [upd_same, k5 h1]
    ·have := q3.look0 m' k' hm' h1
     rw [upd_ne (fun e3 => by rw [e3, hρ] at this; cases this)]; exact this
  ·rw [lk_set_ne e2] at hm
   exact Ext.all_B (fun N => hless.ext (w := w) N) i1.lt (fun _ _ => rfl) has_keep (i1.heap m c hm)
 rcases find_key q3 s with ⟨g1, g2⟩ | ⟨j, e', q, g1, g2, g3, g4, g5⟩
 ·have hl0 : lookL l s = [] := lookL_none g2
  refine fin b0 (.slice none 0 0) hb0b.1 hb0b.2 (run none g1) (fun i q e' b h1 h2 h3 h4 => absurd h3 (g2 q (List.mem_of_getElem? h1))) (fun _ => rfl) ⟨none, 0, by rw [hl0]; rfl, by rw [hl0]; exact Nat.le_refl _, fun hc => absurd rfl hc⟩
 ·obtain ⟨A, cap, r1, r2, r3⟩ := q3.rows j q e' g4 g2 (by intro h; cases h)
  have hlk : lookL l s = q.2 := by rw [← g5]; exact lookL_at q3.nodup g4
  have hone : ∀ (i : Nat) (q2 : ByteArray × List Int) (e2 : MapEntry), l[i]? = some q2 → es.toList[i]? = some e2 → q2.1 = s → e2 = e' := fun i q2 e2 h1 h2 h3 => by
   have := idx_one q3.nodup h1 g4 (by rw [h3, g5])
   subst this
   rw [g2] at h2; injection h2 with h2; exact h2.symm
  by_cases hc : cap = 0
  ·have hr0 : rowB e'.val = none := by rw [r1, hc]; cases A <;> rfl
   refine fin b0 e'.val hb0b.1 hb0b.2 (run _ g1) (fun i q2 e2 b h1 h2 h3 h4 => ?_) (fun _ => rfl) ⟨A, cap, by rw [hlk]; exact r1, by rw [hlk]; exact r2, fun h => absurd hc h⟩
   rw [hone i q2 e2 h1 h2 h3, hr0] at h4; cases h4
  ·obtain ⟨b, vs, u1, u2, u3, u4, u5⟩ := r3 hc
   have hbb := hi.own n b (.inr u2)
   have hr0 : rowB e'.val = some b := by
    obtain ⟨c2, rfl⟩ : ∃ c2, cap = c2 + 1 := ⟨cap - 1, by omega⟩
    rw [r1, u1]; rfl
   have hroom : World.roomOf w b = vs.length := by unfold World.roomOf; rw [u3]; simp
   refine fin b e'.val hbb.1 hbb.2 (run _ g1) (fun i q2 e2 b2 h1 h2 h3 h4 => ?_) (fun hall => ?_) ⟨A, cap, by rw [hlk]; exact r1, by rw [hlk]; exact r2, fun _ => ⟨u1, by rw [hroom]; exact u4⟩⟩
   ·rw [hone i q2 e2 h1 h2 h3, hr0] at h4; injection h4
   ·have := hall j q e' g4 g2 g5
    rw [hr0] at this; cases this
theorem setL_spec {l : List (ByteArray × List Int)} {s : ByteArray} {x : List Int} : ((∀ q ∈ l, q.1 ≠ s) → setL l s x = l ++ [(s, x)]) ∧ ∀ (j : Nat) (q : ByteArray × List Int), (l.map (·.1)).Nodup → l[j]? = some q → q.1 = s → setL l s x = l.set j (s, x) := by
 induction l with
 | nil => exact ⟨fun _ => rfl, fun j q _ h => by simp at h⟩
 | cons y l ih =>
  refine ⟨fun h => ?_, fun j q hn h1 h2 => ?_⟩
  ·rw [setL, if_neg (h y List.mem_cons_self), ih.1 fun q hq => h q (List.mem_cons_of_mem _ hq)]; rfl
  ·simp only [List.map_cons, List.nodup_cons] at hn
   cases j with
   | zero =>
    simp only [List.getElem?_cons_zero, Option.some.injEq] at h1
    subst h1
    rw [setL, if_pos h2]; rfl
   | succ j =>
    simp only [List.getElem?_cons_succ] at h1
    have hne : y.1 ≠ s := fun e => hn.1 (List.mem_map.2 ⟨q, List.mem_of_getElem? h1, by rw [h2, e]⟩)
    rw [setL, if_neg hne, ih.2 j q hn.2 h1 h2]; rfl

theorem RowAt.ext2 {own own' : Nat → Prop} {E : TypeId} {r : List Int} {v : Value} {w' : World} {b0 : Nat} {es : Array MapEntry} {ck : Nat} (h : RowAt w own E r v) (ho : ∀ b, own b → own' b) (hb : w.heap[b0]? = some (.map es ck)) (hw : ∀ b, b ≠ b0 → w'.heap[b]? = w.heap[b]?) : RowAt w' own' E r v := by
 obtain ⟨A, cap, h1, h2, h3⟩ := h
 refine ⟨A, cap, h1, h2, fun hc => ?_⟩
 obtain ⟨b, vs, h4, h5, h6, h7⟩ := h3 hc
 exact ⟨b, vs, h4, ho b h5, by rw [hw b (fun e => by rw [e, hb] at h6; cases h6)]; exact h6, h7⟩
theorem map_put (hi : HInv cx ok w0 ρ h w) {n r b0 : Nat} {E : TypeId} {l l' : List (ByteArray × List Int)} {lo : List (Nat × ByteArray)} {p : Option ByteArray} {row : List Int} (hn : lk h n = some (.mp E l lo p)) (hr : lk h r = some (.arr E .int row)) {es es' : Array MapEntry} {ck ck' : Nat} (hb0 : ρ n = some b0) (hbm : w.heap[b0]? = some (.map es ck)) (q3 : MapR ρ w n b0 E l lo p es.toList)
    (hmap : ∀ ρ' : Rho, ρ'.f = ρ.f → (∀ k, ρ.g n k → ρ'.g n k) → (∀ k, ρ r = some k → ρ'.g n k) → MapR ρ' { w with heap := w.heap.setIfInBounds b0 (.map es' ck') } n b0 E l' [] none es'.toList) :
    ∃ ρ' : Rho, ρ'.f = ρ.f ∧ (∀ N, Ext N (okc ok w0.heap.size h ρ) (okc ok w0.heap.size ((h.set r none).set n (some (.mp E l' [] none))) ρ') ρ ρ' w { w with heap := w.heap.setIfInBounds b0 (.map es' ck') }) ∧
     HInv cx ok w0 ρ' ((h.set r none).set n (some (.mp E l' [] none))) { w with heap := w.heap.setIfInBounds b0 (.map es' ck') } := by
 have hs := lk_some hn
 have hrs := lk_some hr
 have hnr : n ≠ r := fun e => by rw [e, hr] at hn; cases hn
 have hnl := lk_lt hs
 have hrl := lk_lt hrs
 obtain ⟨hw1, hw2⟩ := Go.MapKept.heap_set (o' := Obj.map es' ck') hbm
 have hlk : ∀ m, lk ((h.set r none).set n (some (.mp E l' [] none))) m = if m = n then some (.mp E l' [] none) else if m = r then none else lk h m := fun m => by
  rw [lk_set]
  by_cases e : m = n
  ·rw [if_pos ⟨e, by simpa using hnl⟩, if_pos e]
  ·rw [if_neg (fun x => e x.1), if_neg e, lk_set]
   by_cases e2 : m = r
   ·rw [if_pos ⟨e2, hrl⟩, if_pos e2]
   ·rw [if_neg (fun x => e2 x.1), if_neg e2]
 have live : ∀ m, (lk ((h.set r none).set n (some (.mp E l' [] none))) m).isSome = true → m ≠ r ∧ (lk h m).isSome = true := fun m hx => by
  rw [hlk m] at hx
  split at hx
  ·rename_i e; rw [e]; exact ⟨hnr, hs⟩
  ·split at hx
   ·cases hx
   ·rename_i e; exact ⟨e, hx⟩
 let ρ' : Rho := ⟨ρ.f, fun q k => ρ.g q k ∨ (q = n ∧ ρ r = some k)⟩
 have has1 : ∀ m k, ρ'.has m k → ρ.has m k ∨ (m = n ∧ ρ r = some k) := fun m k hh => by
  rcases hh with hh | hh | hh
  ·exact .inl (.inl hh)
  ·exact .inl (.inr hh)
  ·exact .inr hh
 have hx : ∀ N, Ext N (okc ok w0.heap.size h ρ) (okc ok w0.heap.size ((h.set r none).set n (some (.mp E l' [] none))) ρ') ρ ρ' w { w with heap := w.heap.setIfInBounds b0 (.map es' ck') } := fun N =>
  ⟨fun m k _ hm => hm, fun k _ ho => hw2 k (fun e => ho.2 n hs (.inl (e ▸ hb0))), fun k _ ho => ⟨ho.1, fun m hm hh => by
   obtain ⟨e1, e2⟩ := live m hm
   rcases has1 m k hh with h1 | ⟨_, h1⟩
   ·exact ho.2 m e2 h1
   ·exact ho.2 r hrs (.inl h1)⟩, fun k _ => by
   by_cases e : k = b0
   ·subst e
    unfold World.roomOf
    rw [hbm]
    simp only [hw1]
   ·exact roomOf_eq (hw2 k e), by simp⟩
 refine ⟨ρ', rfl, hx, fun m c hm => ?_, fun m1 m2 k h1 h2 g1 g2 => ?_, fun m k hm => ?_, fun m hm => ?_, ?_⟩
 ·rw [hlk m] at hm
  split at hm
  ·rename_i e; subst e
   injection hm with hm; subst hm
   exact ⟨b0, es', ck', hb0, hw1, hmap ρ' rfl (fun k hk => .inl hk) (fun k hk => .inr ⟨rfl, hk⟩)⟩
  ·split at hm
   ·cases hm
   ·rename_i e e2
    refine Ext.all_B hx hi.lt (fun k hk => hw2 k (fun e3 => e (hi.inj m n k (lk_some hm) hs hk (.inl (e3 ▸ hb0))))) ⟨id, fun k hk => .inl hk⟩ (hi.heap m c hm)
 ·obtain ⟨a1, a2⟩ := live m1 h1
  obtain ⟨a3, a4⟩ := live m2 h2
  rcases has1 m1 k g1 with c1 | ⟨c1, c1'⟩ <;> rcases has1 m2 k g2 with c2 | ⟨c2, c2'⟩
  ·exact hi.inj m1 m2 k a2 a4 c1 c2
  ·exact absurd (hi.inj m1 r k a2 hrs c1 (.inl c2')) a1
  ·exact absurd (hi.inj m2 r k a4 hrs c2 (.inl c1')) a3
  ·rw [c1, c2]
 ·rcases has1 m k hm with c1 | ⟨_, c1⟩
  ·have := hi.own m k c1; exact ⟨this.1, by simpa using this.2⟩
  ·have := hi.own r k (.inl c1); exact ⟨this.1, by simpa using this.2⟩
 ·have hm' : h.length ≤ m := by simpa using hm
  have hf := hi.fresh m hm'
  exact ⟨hf.1, fun k hk => by
   rcases hk with hk | ⟨hk, _⟩
   ·exact hf.2 k hk
   ·omega⟩
 ·exact hi.below.trans ⟨rfl, rfl, rfl, by simp, fun k hk => hw2 k (fun e => by have := (hi.own n b0 (.inl hb0)).1; omega)⟩

theorem does_update (hcx : CxOk P cx) (hi : Inv cx ok w0 ρ st a w) {nm : Nat} {o : Oper} {T k e E : TypeId} {x i y : Operand} {n1 n2 : Nat} {z1 z2 : List D} {es1 es2 : List (Option ET)} (ho : o.op = .mapUpdate T x i y)
    (hT : cx.tt T = some ⟨.map k e, n1, z1, es1⟩) (hE : cx.tt e = some ⟨.slice E .int, n2, z2, es2⟩) {n r : Nat} {s : ByteArray} {full : Bool} {len : Nat} (hx : opv st.env x = .v false [.mref n]) (hs : opv st.env i = .v false [.d (.sc (.str s))]) (hy : opv st.env y = .v false [.own r .int full 0 len])
    {l : List (ByteArray × List Int)} {lo : List (Nat × ByteArray)} {p : Option ByteArray} {row : List Int} (hn : lk st.heap n = some (.mp E l lo p)) (hr : lk st.heap r = some (.arr E .int row)) (hp : p = none ∨ p = some s) (hlen : len ≤ row.length) :
    Does P cx ok w0 ρ st a w nm o .any ((st.heap.set r none).set n (some (.mp E (setL l s (row.take len)) [] none))) := by
 obtain ⟨hu, huk⟩ := und_of hcx hT
 obtain ⟨b0, hb0, hxv⟩ := op_c hi hx
 have hsv : a.eval i = .string s := op_sc hi hs
 obtain ⟨A, cap, hyv, hle, _, hA⟩ := op_c hi hy
 obtain ⟨b1, es, ck, q1, q2, q3⟩ := hi.heap n _ hn
 rw [hb0] at q1; injection q1 with q1; subst q1
 have hRB := hi.heap r _ hr
 have hnr : n ≠ r := fun e => by rw [e, hr] at hn; cases hn
 -- the row as an entry
 have hrow : ∀ (ρ' : Rho) (w' : World), (∀ k, ρ r = some k → ρ'.g n k) → (∀ k, k ≠ b0 → w'.heap[k]? = w.heap[k]?) → RowAt w' (ρ'.g n) E (row.take len) (.slice A len cap) := fun ρ' w' h1 h2 => by
  have el : (row.take len).length = len := by rw [List.length_take]; omega
  refine ⟨A, cap, by rw [el], by rw [el]; exact hle, fun hc => ?_⟩
  obtain ⟨b, g1, g2, g3⟩ := hA hc
  rcases hRB with ⟨c1, c2⟩ | ⟨b', vs, c1, c2, c3, c4⟩
  ·rw [g1] at c2; cases c2
  ·rw [g1] at c1; injection c1 with c1; subst c1
   have hroom : World.roomOf w b = vs.length := by unfold World.roomOf; rw [c2]; simp
   have hbne : b ≠ b0 := fun e => by rw [e, q2] at c2; cases c2
   refine ⟨b, vs, by rw [g2]; simp, h1 b g1, by rw [h2 b hbne]; exact c2, by rw [hroom] at g3; simpa [width] using g3, fun j hj => ?_⟩
   rw [el] at hj
   have h4 := c4 j 0 (by omega) (by show 0 < 1; omega)
   have e1 : cellAt .int row j 0 = .sc (.int .i64 (row.getD j 0)) := rfl
   rw [e1] at h4
   have e2 : j * width ET.int + 0 = j := by simp [width]
   rw [e2] at h4
   have e3 : (row.take len).getD j 0 = row.getD j 0 := by simp [List.getD_eq_getElem?_getD, List.getElem?_take, hj]
   rw [e3]
   generalize vs.getD j undef = v at h4
   cases h4
   rfl
 have hrb : ∀ b, rowB (.slice A len cap) = some b → ρ r = some b := fun b hb => by
  obtain ⟨A', len', cap', e1, e2⟩ := rowB_some hb
  injection e1 with e1 e3 e4
  obtain ⟨b', g1, g2, _⟩ := hA (by omega)
  rw [e1] at g2; injection g2 with g2
  rw [← e2, g2]; exact g1
 have hold : ∀ (q : ByteArray × List Int), q.1 ≠ s → p ≠ some q.1 := fun q hq hc => by
  rcases hp with rfl | rfl
  ·cases hc
  ·injection hc with hc; exact hq hc.symm
 have noclash : ∀ (j : Nat) (q : ByteArray × List Int) (e' : MapEntry) (b : Nat), l[j]? = some q → es.toList[j]? = some e' → q.1 ≠ s → rowB e'.val = some b → ρ r ≠ some b := fun j q e' b h1 h2 h3 h4 hc => by
  obtain ⟨A2, cap2, r1, r2, r3⟩ := q3.rows j q e' h1 h2 (hold q h3)
  obtain ⟨A3, len3, cap3, r4, r5⟩ := rowB_some h4
  rw [r1] at r4; injection r4 with t1 t2 t3
  obtain ⟨b2, vs, u1, u2, _⟩ := r3 (by omega)
  rw [t1] at u1; injection u1 with u1
  have hbb : b2 = b := by rw [← r5, u1]
  subst hbb
  exact hnr (hi.inj n r b2 (lk_some hn) (lk_some hr) (.inr u2) (.inl hc))
 have h3 := Go.MapKept.run_getObj_map (P := P) q2
 have h4 : (Instr.checkKey false 10000 k (.string s)).run P w = .ok () w := run_checkKey (w := w) huk (k := .string s) (by trivial) false 9999
 rcases find_key q3 s with ⟨g1, g2⟩ | ⟨j, e', q, g1, g2, g3, g4, g5⟩
 ·have h5 := run_findKey (w := w) huk g1
  have h6 := Go.MapKept.run_setObj_map (P := P) (.map (es.push { key := .string s, val := .slice A len cap, born := ck }) (ck + 1)) q2
  have hrun : (execOp a.eval o).run P w = .ok .skip { w with heap := w.heap.setIfInBounds b0 (.map (es.push { key := .string s, val := .slice A len cap, born := ck }) (ck + 1)) } := by
   simp [execOp, ho, Instr.mapUpdate, hxv, hsv, hyv, run_underlying hu, h3, h4, h5, h6, Result.andThen]
  have hset : setL l s (row.take len) = l ++ [(s, row.take len)] := setL_spec.1 g2
  have hll : es.toList.length = l.length := by
   have := congrArg List.length q3.keys
   simpa using this
  obtain ⟨ρ', r1, r2, r3⟩ := map_put (es' := es.push { key := .string s, val := .slice A len cap, born := ck }) (ck' := ck + 1) (l' := l ++ [(s, row.take len)]) hi.hv hn hr hb0 q2 q3 (fun ρ' e1 e2 e3 => by
   have hw2 : ∀ k, k ≠ b0 → ({ w with heap := w.heap.setIfInBounds b0 (.map (es.push { key := .string s, val := .slice A len cap, born := ck }) (ck + 1)) } : World).heap[k]? = w.heap[k]? := (Go.MapKept.heap_set q2).2
   have hat : ∀ (i : Nat) (q : ByteArray × List Int) (e : MapEntry), (l ++ [(s, row.take len)])[i]? = some q → (es.push { key := .string s, val := .slice A len cap, born := ck }).toList[i]? = some e → (l[i]? = some q ∧ es.toList[i]? = some e ∧ q.1 ≠ s) ∨ (i = l.length ∧ q = (s, row.take len) ∧ e.val = .slice A len cap) := fun i q e h1 h2 => by
    rw [Array.toList_push] at h2
    rcases Nat.lt_or_ge i l.length with hi | hi
    ·rw [List.getElem?_append_left hi] at h1
     rw [List.getElem?_append_left (by omega)] at h2
     exact .inl ⟨h1, h2, g2 q (List.mem_of_getElem? h1)⟩
    ·rw [List.getElem?_append_right hi] at h1
     rw [List.getElem?_append_right (by omega), hll] at h2
     cases hd : i - l.length with
     | zero =>
      rw [hd] at h1 h2
      simp only [List.getElem?_cons_zero, Option.some.injEq] at h1 h2
      exact .inr ⟨by omega, h1.symm, by rw [← h2]⟩
     | succ d => rw [hd] at h1; simp at h1
   refine ⟨?_, ?_, fun i q e h1 h2 _ => ?_, fun i i' q q' e e' b h1 h2 _ h4 h5 _ h7 h8 => ?_, fun m k hm => by (cases hm), fun m k hm => by (cases hm)⟩
   ·rw [Array.toList_push, List.map_append, List.map_append, q3.keys]; rfl
   ·rw [List.map_append, List.nodup_append]
    refine ⟨q3.nodup, by simp, fun x hx y hy he => ?_⟩
    obtain ⟨q, hq, rfl⟩ := List.mem_map.1 hx
    have : y = s := by simpa using hy
    exact g2 q hq (he.trans this)
   ·rcases hat i q e h1 h2 with ⟨c1, c2, c3⟩ | ⟨c1, c2, c3⟩
    ·exact (q3.rows i q e c1 c2 (hold q c3)).ext2 e2 q2 hw2
    ·rw [c2, c3]; exact hrow ρ' _ e3 hw2
   ·rcases hat i q e h1 h2 with ⟨c1, c2, c3⟩ | ⟨c1, c2, c3⟩ <;> rcases hat i' q' e' h4 h5 with ⟨d1, d2, d3⟩ | ⟨d1, d2, d3⟩
    ·exact q3.apart i i' q q' e e' b c1 c2 (hold q c3) d1 d2 (hold q' d3) h7 h8
    ·rw [d3] at h8; exact absurd (hrb b h8) (noclash i q e b c1 c2 c3 h7)
    ·rw [c3] at h7; exact absurd (hrb b h7) (noclash i' q' e' b d1 d2 d3 h8)
    ·rw [c1, d1])
  rw [hset]
  exact ⟨ρ', _, _, undef, hrun, .inr ⟨rfl, rfl⟩, fun q _ => by rw [r1], r2, r3, trivial⟩
 ·have h5 := run_findKey (w := w) huk g1
  have g2' : es[j]? = some e' := by rw [← Array.getElem?_toList]; exact g2
  have h7 : (Instr.keyThatStays (.string s) (.string s)).run P w = .ok (.string s) w := run_keyThatStays (d := .string) trivial
  have h6 := Go.MapKept.run_setObj_map (P := P) (.map (es.modify j fun e => { e with key := .string s, val := .slice A len cap }) ck) q2
  have hrun : (execOp a.eval o).run P w = .ok .skip { w with heap := w.heap.setIfInBounds b0 (.map (es.modify j fun e => { e with key := .string s, val := .slice A len cap }) ck) } := by
   simp [execOp, ho, Instr.mapUpdate, hxv, hsv, hyv, run_underlying hu, h3, h4, h5, g2', g3, h7, h6, Result.andThen]
  have hset : setL l s (row.take len) = l.set j (s, row.take len) := setL_spec.2 j q q3.nodup g4 g5
  have hjl : j < l.length := (List.getElem?_eq_some_iff.1 g4).1
  have hjm : ∀ i : Nat, (es.modify j fun e => { e with key := .string s, val := .slice A len cap }).toList[i]? = if j = i then (es.toList[i]?).map (fun e => { e with key := .string s, val := .slice A len cap }) else es.toList[i]? := fun i => by
   rw [Array.toList_modify, List.getElem?_modify]
   split
   ·rfl
   ·cases es.toList[i]? <;> rfl
  obtain ⟨ρ', r1, r2, r3⟩ := map_put (es' := es.modify j fun e => { e with key := .string s, val := .slice A len cap }) (ck' := ck) (l' := l.set j (s, row.take len)) hi.hv hn hr hb0 q2 q3 (fun ρ' e1 e2 e3 => by
   have hw2 : ∀ k, k ≠ b0 → ({ w with heap := w.heap.setIfInBounds b0 (.map (es.modify j fun e => { e with key := .string s, val := .slice A len cap }) ck) } : World).heap[k]? = w.heap[k]? := (Go.MapKept.heap_set q2).2
   have hat : ∀ (i : Nat) (q : ByteArray × List Int) (e : MapEntry), (l.set j (s, row.take len))[i]? = some q → (es.modify j fun e => { e with key := .string s, val := .slice A len cap }).toList[i]? = some e → (l[i]? = some q ∧ es.toList[i]? = some e ∧ q.1 ≠ s) ∨ (i = j ∧ q = (s, row.take len) ∧ e.val = .slice A len cap) := fun i q' e h1 h2 => by
    rw [hjm i] at h2
    rw [List.getElem?_set] at h1
    by_cases hij : j = i
    ·subst hij
     rw [if_pos rfl, if_pos hjl] at h1
     rw [if_pos rfl, g2] at h2
     injection h1 with h1
     simp only [Option.map_some, Option.some.injEq] at h2
     exact .inr ⟨rfl, h1.symm, by rw [← h2]⟩
    ·rw [if_neg hij] at h1 h2
     exact .inl ⟨h1, h2, fun hc => hij (idx_one q3.nodup g4 h1 (by rw [g5, hc]))⟩
   refine ⟨?_, ?_, fun i q e h1 h2 _ => ?_, fun i i' q q' e e' b h1 h2 _ h4 h5 _ h7 h8 => ?_, fun m k hm => by (cases hm), fun m k hm => by (cases hm)⟩
   ·refine List.ext_getElem? fun i => ?_
    rw [List.getElem?_map, List.getElem?_map, hjm i, List.getElem?_set]
    by_cases hij : j = i
    ·subst hij
     rw [if_pos rfl, if_pos rfl, if_pos hjl, g2]; rfl
    ·rw [if_neg hij, if_neg hij]
     have := congrArg (fun x => x[i]?) q3.keys
     simpa using this
   ·have : (l.set j (s, row.take len)).map (·.1) = l.map (·.1) := by
      refine List.ext_getElem? fun i => ?_
      rw [List.getElem?_map, List.getElem?_map, List.getElem?_set]
      by_cases hij : j = i
      ·subst hij; rw [if_pos rfl, if_pos hjl, g4]; simp [g5]
      ·rw [if_neg hij]
    rw [this]; exact q3.nodup
   ·rcases hat i q e h1 h2 with ⟨c1, c2, c3⟩ | ⟨c1, c2, c3⟩
    ·exact (q3.rows i q e c1 c2 (hold q c3)).ext2 e2 q2 hw2
    ·rw [c2, c3]; exact hrow ρ' _ e3 hw2
   ·rcases hat i q e h1 h2 with ⟨c1, c2, c3⟩ | ⟨c1, c2, c3⟩ <;> rcases hat i' q' e' h4 h5 with ⟨d1, d2, d3⟩ | ⟨d1, d2, d3⟩
    ·exact q3.apart i i' q q' e e' b c1 c2 (hold q c3) d1 d2 (hold q' d3) h7 h8
    ·rw [d3] at h8; exact absurd (hrb b h8) (noclash i q e b c1 c2 c3 h7)
    ·rw [c3] at h7; exact absurd (hrb b h7) (noclash i' q' e' b d1 d2 d3 h8)
    ·rw [c1, d1])
  rw [hset]
  exact ⟨ρ', _, _, undef, hrun, .inr ⟨rfl, rfl⟩, fun q _ => by rw [r1], r2, r3, trivial⟩
end
end Go.Eng
/- Each operation comes to what the evaluator says. -/
set_option linter.unusedVariables false
set_option linter.unusedSimpArgs false
namespace Go.Eng
open Go Go.RowKit

section
variable {P : Program} {cx : Cx} {ok : Nat → Prop} {w0 : World} {ρ : Rho} {st : St} {a : Act} {w : World} {h : Heap}

theorem argsOf_ok (hi : Inv cx ok w0 ρ st a w) : ∀ (xs : List Operand) (ts : List TypeId) (as : List Arg), argsOf cx st.env xs ts = some as → RAs cx ρ (okc ok w0.heap.size st.heap ρ) w as (xs.map a.eval)
 | [], _, as, h => by
  simp only [argsOf, Option.some.injEq] at h
  subst h
  exact ⟨rfl, fun j hj => by simp at hj⟩
 | x :: xs, ts, as, h => by
  simp only [argsOf] at h
  split at h
  ·rename_i g cs r h1 h2
   injection h with h; subst h
   have ih := argsOf_ok hi xs ts.tail r h2
   have hx := RV_norm (T := ts.headD 0) (RV_op hi x)
   rw [h1] at hx
   refine ⟨by simp [ih.1], fun j hj => ?_⟩
   cases j with
   | zero => exact hx
   | succ j => simpa using ih.2 j (by simpa using hj)
  ·cases h

theorem RAs_append {as bs : List Arg} {xs ys : List Value} (h1 : RAs cx ρ ok w as xs) (h2 : RAs cx ρ ok w bs ys) : RAs cx ρ ok w (as ++ bs) (xs ++ ys) := by
 refine ⟨by simp [h1.1, h2.1], fun j hj => ?_⟩
 simp only [List.getD_eq_getElem?_getD, List.getElem?_append]
 have hl := h1.1
 by_cases hlt : j < as.length
 ·rw [if_pos hlt, if_pos (by omega)]
  have := h1.2 j hlt
  simpa [List.getD_eq_getElem?_getD] using this
 ·rw [if_neg hlt, if_neg (by omega), hl]
  have := h2.2 (j - as.length) (by simp at hj; omega)
  simpa [List.getD_eq_getElem?_getD] using this

theorem RAs_refs {rs : List (List D)} {us : List Value} (hl : us.length = rs.length) (h : ∀ i, i < rs.length → RD cx ok w (.ref (rs.getD i [])) (us.getD i undef)) : RAs cx ρ ok w (rs.map fun r => (false, [C.d (.ref r)])) us := by
 refine ⟨by simpa using hl, fun j hj => ?_⟩
 have hj' : j < rs.length := by simpa using hj
 have := h j hj'
 have e : (rs.map fun r => ((false, [C.d (.ref r)]) : Arg)).getD j (false, []) = (false, [C.d (.ref (rs.getD j []))]) := by simp [List.getD_eq_getElem?_getD, hj']
 rw [e]
 exact ⟨_, rfl, this⟩
theorem RAs_ptrs {ns : List Nat} {us : List Value} (h : ptrsTo ρ ns us) : RAs cx ρ ok w (ns.map fun n => (false, [C.ptr n 0])) us := by
 refine ⟨by simpa using h.1, fun j hj => ?_⟩
 have hj' : j < ns.length := by simpa using hj
 obtain ⟨b, h1, h2⟩ := h.2 j hj'
 have e : (ns.map fun n => ((false, [C.ptr n 0]) : Arg)).getD j (false, []) = (false, [C.ptr (ns.getD j 0) 0]) := by simp [List.getD_eq_getElem?_getD, hj']
 rw [e]
 exact ⟨_, rfl, b, h1, h2⟩

def goOf (c : Call) (o : Oper) (ρ : Operand → Value) : Sem Next := do
 let d ← resolve ρ c o.type
 invoke d.target d.args

theorem exec_call {o : Oper} {cl : Call} (ho : o.op = .call cl) (r : Operand → Value) : execOp r o = goOf cl o r := by
 simp [execOp, ho, goOf]

theorem wayOf_gam (hga : GaOk P cx) (hi : Inv cx ok w0 ρ st a w) {o : Oper} {cl : Call} (ho : o.op = .call cl) {G : List DArg → Option Ret} {as : List Arg} (hw : wayOf cx st.env cl = some (.gam G as)) :
    ∃ go xs, EntOk P cx go G ∧ RAs cx ρ (okc ok w0.heap.size st.heap ρ) w as xs ∧ ∀ f ys, (go xs).run P w = .ok (.enter f ys) w → (execOp a.eval o).run P w = .ok (.enter f ys) w := by
 unfold wayOf at hw
 split at hw
 ·cases hw
 ·rename_i as0 has
  have hargs := argsOf_ok hi _ _ _ has
  split at hw
  ·rename_i f hf
   split at hw
   ·rename_i g fs ks hop
    simp only at hw
    split at hw
    ·rename_i G' hG
     injection hw with hw; injection hw with e1 e2; subst e1; subst e2
     have hv := op_c hi hop
     generalize hfe : a.eval f = fe at hv
     cases hv with
     | fn _ _ _ u v h1 h2 ha hb =>
      refine ⟨_, u ++ cl.args.toList.map a.eval ++ v, hga.ga _ _ hG, RAs_append (RAs_append (RAs_refs h1 ha) hargs) (RAs_refs h2 hb), fun f' ys hr => ?_⟩
      rw [exec_call ho]
      have e : (u.toArray ++ cl.args.map a.eval) ++ v.toArray = (u ++ cl.args.toList.map a.eval ++ v).toArray := by
       apply Array.toList_inj.1; simp
      simp only [goOf, resolve, hf, hfe, Deferred.ofValue, Sem.run_bind, Sem.run_pure, Result.andThen_ok, invoke]
      rw [e]
      exact hr
    ·split at hw <;> cases hw
   ·split at hw <;> cases hw
   ·cases hw
  ·rename_i x m hc
   split at hw
   ·rename_i G' y hG hop
    injection hw with hw; injection hw with e1 e2; subst e1; subst e2
    have hv := op_c hi hop
    refine ⟨_, a.eval x :: cl.args.toList.map a.eval, hga.inv _ _ hG, ⟨by simp [hargs.1], fun j hj => ?_⟩, fun f' ys hr => ?_⟩
    ·cases j with
     | zero => exact ⟨_, rfl, hv⟩
     | succ j => simpa using hargs.2 j (by simpa using hj)
    ·rw [exec_call ho]
     have e : #[a.eval x] ++ cl.args.map a.eval = (a.eval x :: cl.args.toList.map a.eval).toArray := by
      apply Array.toList_inj.1; simp
     simp only [goOf, resolve, hc, Sem.run_bind, Sem.run_pure, Result.andThen_ok]
     rw [e]
     exact hr
   ·cases hw
  ·cases hw

theorem wayOf_inl (hga : GaOk P cx) (hi : Inv cx ok w0 ρ st a w) {o : Oper} {cl : Call} (ho : o.op = .call cl) {fn : Func} {f : FuncId} {as : List Arg} (hw : wayOf cx st.env cl = some (.inl fn f as)) :
    ∃ xs, FnOk P f fn ∧ RAs cx ρ (okc ok w0.heap.size st.heap ρ) w as xs ∧ (execOp a.eval o).run P w = .ok (.enter f xs.toArray) w := by
 unfold wayOf at hw
 split at hw
 ·cases hw
 ·rename_i as0 has
  have hargs := argsOf_ok hi _ _ _ has
  split at hw
  ·rename_i fv hf
   split at hw
   ·rename_i g fs ks hop
    simp only at hw
    split at hw
    ·cases hw
    ·split at hw
     ·rename_i fn' hfn
      injection hw with hw; injection hw with e1 e2 e3; subst e1; subst e2; subst e3
      have hv := op_c hi hop
      generalize hfe : a.eval fv = fe at hv
      have hok := hga.inl _ _ hfn
      cases hv with
      | fn _ _ _ u v h1 h2 ha hb =>
       refine ⟨u ++ cl.args.toList.map a.eval ++ v, hok, RAs_append (RAs_append (RAs_refs h1 ha) hargs) (RAs_refs h2 hb), ?_⟩
       rw [exec_call ho]
       have e : (u.toArray ++ cl.args.map a.eval) ++ v.toArray = (u ++ cl.args.toList.map a.eval ++ v).toArray := by
        apply Array.toList_inj.1; simp
       simp only [goOf, resolve, hf, hfe, Deferred.ofValue, Sem.run_bind, Sem.run_pure, Result.andThen_ok, invoke]
       rw [e]
       exact run_callFunc hok _
     ·cases hw
   ·rename_i g fs ks hop
    split at hw
    ·rename_i fn' hfn
     injection hw with hw; injection hw with e1 e2 e3; subst e1; subst e2; subst e3
     obtain ⟨u, v, hfe, h1, h2⟩ := op_c hi hop
     have hok := hga.inl _ _ hfn
     refine ⟨u ++ cl.args.toList.map a.eval ++ v, hok, RAs_append (RAs_append (RAs_ptrs h1) hargs) (RAs_ptrs h2), ?_⟩
     rw [exec_call ho]
     have e : (u.toArray ++ cl.args.map a.eval) ++ v.toArray = (u ++ cl.args.toList.map a.eval ++ v).toArray := by
      apply Array.toList_inj.1; simp
     simp only [goOf, resolve, hf, hfe, Deferred.ofValue, Sem.run_bind, Sem.run_pure, Result.andThen_ok, invoke]
     rw [e]
     exact run_callFunc hok _
    ·cases hw
   ·cases hw
  ·split at hw <;> cases hw
  ·cases hw

theorem pure1_eq {v : V} {e : Eff} (he : pure1 h v = some e) : e.val = v ∧ e.heap = h ∧ e.ok = true ∧ e.rd = [] ∧ e.wr = [] := by
 unfold pure1 at he
 injection he with he; subst he
 exact ⟨rfl, rfl, rfl, rfl, rfl⟩

theorem list_two {α β : Type} {f : α → β} {l : List α} {x y : β} (h : l.map f = [x, y]) : ∃ p q, l = [p, q] ∧ f p = x ∧ f q = y := by
 match l, h with
 | [p, q], h => simp only [List.map_cons, List.map_nil, List.cons.injEq, and_true] at h; exact ⟨p, q, rfl, h.1, h.2⟩
theorem list_one {α β : Type} {f : α → β} {l : List α} {x : β} (h : l.map f = [x]) : ∃ p, l = [p] ∧ f p = x := by
 match l, h with
 | [p], h => simp only [List.map_cons, List.map_nil, List.cons.injEq, and_true] at h; exact ⟨p, rfl, h⟩

theorem blt_does (hcx : CxOk P cx) (hi : Inv cx ok w0 ρ st a w) {nm : Nat} (hρ : ρ nm = none) (hl : nm < st.heap.length) (hk : lk st.heap nm = none) {o : Oper} {cl : Call} {b : Builtin} (ho : o.op = .call cl) (hb : cl.callee = .builtin b) {e : Eff}
    (he : bltE cx b nm st.heap (cl.args.toList.map (opv st.env)) cl.argTypes.toList = some e) (hok : e.ok = true) : Does P cx ok w0 ρ st a w nm o e.val e.heap := by
 have fin : ∀ v, pure1 st.heap v = some e → Gives P cx ok w0 ρ st a w o v → Does P cx ok w0 ρ st a w nm o e.val e.heap := fun v h1 h2 => by
  obtain ⟨r1, r2, _⟩ := pure1_eq h1
  rw [r1, r2]
  exact h2.does hi
 unfold bltE at he
 split at he
 ·rename_i c T ts hvs hts
  obtain ⟨x, hx, hxv⟩ := list_one hvs
  split at he
  ·rename_i s1 h1 h2 n s hT hn
   exact fin _ he (gives_len hcx hi ho hb hx hts hxv hn (.inl ⟨_, _, _, hT, _, rfl⟩))
  ·cases he
  ·rename_i h0 hT hns hn
   exact fin _ he (gives_len hcx hi ho hb hx hts hxv (by first | exact hn | exact hns) (.inr ⟨_, _, _, _, _, hT, fun s hs => by first | exact hns s hs | exact hn s hs⟩))
  ·cases he
 ·rename_i s x T T2 hvs hts
  obtain ⟨X, Y, hx, h1, h2⟩ := list_two hvs
  split at he
  ·rename_i hT2
   exact does_append hcx hi hρ hl hk ho hb hx hts h1 h2 hT2 he hok
  ·cases he
 ·rename_i s x T T2 hvs hts
  obtain ⟨X, Y, hx, h1, h2⟩ := list_two hvs
  split at he
  ·rename_i hT
   exact does_copy hcx hi ho hb hx hts h1 h2 hT he hok
  ·cases he
 ·rename_i s T hvs hts
  obtain ⟨X, hx, h1⟩ := list_one hvs
  split at he
  ·rename_i hT
   exact does_clear hcx hi ho hb hx hts h1 hT he hok
  ·cases he
 ·rename_i k p k' q hvs
  obtain ⟨X, Y, hx, h1, h2⟩ := list_two hvs
  split at he
  ·rename_i hkk; subst hkk
   exact fin _ he (gives_max hi ho hb hx h1 h2)
  ·cases he
 ·rename_i k p k' q hvs
  obtain ⟨X, Y, hx, h1, h2⟩ := list_two hvs
  split at he
  ·rename_i hkk; subst hkk
   exact fin _ he (gives_min hi ho hb hx h1 h2)
  ·cases he
 ·cases he
end
end Go.Eng
/- Each operation comes to what the evaluator says: all of them. -/
set_option linter.unusedVariables false
set_option linter.unusedSimpArgs false
namespace Go.Eng
open Go Go.RowKit

section
variable {P : Program} {cx : Cx} {ok : Nat → Prop} {w0 : World} {ρ : Rho} {st : St} {a : Act} {w : World} {h : Heap}

theorem op_sim (hcx : CxOk P cx) (hga : GaOk P cx) (hi : Inv cx ok w0 ρ st a w) {nm : Nat} (hρ : ρ nm = none) (hl : nm < st.heap.length) (hk : lk st.heap nm = none) {o : Oper} {e : Eff} (he : opE cx nm st.env st.heap o = some e) (hok : e.ok = true) :
    Sim P cx ok w0 ρ st a w nm o e.val e.heap := by
 have fin : ∀ v, pure1 st.heap v = some e → Gives P cx ok w0 ρ st a w o v → Sim P cx ok w0 ρ st a w nm o e.val e.heap := fun v h1 h2 => by
  obtain ⟨r1, r2, _⟩ := pure1_eq h1
  rw [r1, r2]
  exact (h2.does hi).sim
 have plain : ∀ v, e.val = v → e.heap = st.heap → Gives P cx ok w0 ρ st a w o v → Sim P cx ok w0 ρ st a w nm o e.val e.heap := fun v r1 r2 h2 => by
  rw [r1, r2]
  exact (h2.does hi).sim
 cases hop : o.op <;> simp only [opE, hop] at he
 case move x => exact fin _ he (gives_move hi (.inl hop))
 case assign x => exact fin _ he (gives_move hi (.inr hop))
 case pick c x y =>
  split at he
  ·rename_i t hc
   exact fin _ he (gives_pick hi hop hc)
  ·cases he
 case alloc T =>
  split at he
  ·rename_i i hT
   injection he with he; subst he
   exact (does_alloc hcx hi hρ hl hk hop hT).sim
  ·cases he
 case box T x =>
  split at he
  ·rename_i i g cs hT hx
   split at he
   ·injection he with he; subst he
    exact (does_box hcx hi hρ hl hk hop hx).sim
   ·cases he
  ·cases he
 case build T parts =>
  split at he
  ·rename_i fs n z es hT
   split at he
   ·rename_i cs hf
    exact fin _ he (gives_build hcx hi hop hT hf)
   ·cases he
  ·rename_i m F n z es hT
   split at he
   ·rename_i fi hF
    split at he
    ·rename_i cs hf
     exact fin _ he (gives_buildA hcx hi hop hT hF hf)
    ·cases he
   ·cases he
  ·cases he
 case buildSlice T n parts =>
  split at he
  ·rename_i e' t n' z es hT
   split at he
   ·rename_i l ks p hr
    split at he
    ·rename_i hn
     injection he with he; subst he
     exact (does_buildSlice hcx hi hρ hl hk hop hT hr hok hn).sim
    ·cases he
   ·cases he
  ·cases he
 case load T x =>
  obtain ⟨h1, h2⟩ := gives_load hcx.ty hi hop he hok
  exact plain _ rfl h2 h1
 case store T x y => exact (does_store hcx hi hop he hok).sim
 case nilCheck x =>
  split at he
  ·rename_i c v hv
   injection he with he; subst he
   exact plain _ rfl rfl (gives_nilCheck hi hop hv hok)
  ·cases he
 case binOp op T x y Y =>
  split at he
  ·rename_i c v hv
   injection he with he; subst he
   exact plain _ rfl rfl (gives_bin hcx hi hop hv hok)
  ·cases he
 case unOp op T x =>
  split at he
  ·rename_i b hx
   exact fin _ he (gives_not hi hop hx)
  ·rename_i k n hx
   exact fin _ he (gives_neg hi hop hx)
  ·cases he
 case convert S T x =>
  split at he
  ·rename_i hS hT hx
   exact fin _ he (gives_convert hcx hi hop hS hT hx)
  ·cases he
 case makeInterface T x =>
  split at he
  ·rename_i v hv
   exact fin _ he (gives_iface hcx hi hop hv)
  ·cases he
 case makeFunc fn first caps =>
  split at he
  ·rename_i f
   have e1 : e = { ok := true, val := e.val, heap := st.heap } := by
    revert he
    simp only [pure1]
    split
    ·intro he; injection he with he; subst he; rfl
    ·split
     ·intro he; injection he with he; subst he; rfl
     ·split
      ·intro he; injection he with he; subst he; rfl
      ·intro he; cases he
   have h2 := gives_makeFunc (P := P) (v := e.val) hi hop (he.trans (congrArg some e1))
   rw [show e.heap = st.heap from by rw [e1]]
   exact (h2.does hi).sim
  ·cases he
 case makeSlice T x y =>
  split at he
  ·rename_i e' t n' z es n m hT hx hy
   injection he with he; subst he
   simp only [Bool.and_eq_true, decide_eq_true_eq, beq_iff_eq] at hok
   exact (does_makeSlice hcx hi hρ hl hk hop hT hx hy hok.1.1 hok.1.2 hok.2).sim
  ·cases he
 case slice T x lo hi' mx =>
  split at he
  ·rename_i lo1 hi1 s n z es hlo hhi hmx hx hT
   generalize hc : cut s.size lo1 hi1 none = q at he
   obtain ⟨c, p, q, f⟩ := q
   injection he with he; subst he
   obtain rfl : c = true := hok
   have hmx' : mx = none := by
    cases mx with
    | none => rfl
    | some x =>
     simp only [bnd] at hmx
     split at hmx <;> cases hmx
   subst hmx'
   exact plain _ rfl rfl (gives_sliceS hcx hi hop hlo hhi hx hT hc)
  ·rename_i lo1 hi1 mx1 nl full t l e' t' n z es hlo hhi hmx hx hT
   split at he
   ·rename_i htt; subst htt
    generalize hc : cut l.length lo1 hi1 mx1 = q at he
    obtain ⟨c, p, q, f⟩ := q
    injection he with he; subst he
    obtain rfl : c = true := hok
    exact plain _ rfl rfl (gives_sliceD hcx hi hop hlo hhi hmx hx hT hc)
   ·cases he
  ·rename_i lo1 hi1 mx1 k t full off len e' t' n z es hlo hhi hmx hx hT
   split at he
   ·rename_i htt; subst htt
    generalize hc : cut len lo1 hi1 mx1 = q at he
    obtain ⟨c, p, q, f⟩ := q
    injection he with he; subst he
    obtain rfl : c = true := hok
    exact plain _ rfl rfl (gives_sliceO hcx hi hop hlo hhi hmx hx hT hc)
   ·cases he
  ·cases he
 case fieldAddr S x f =>
  split at he
  ·rename_i off F hf
   split at he
   ·cases he
   ·rename_i hF
    obtain ⟨h1, h2, h3⟩ := gives_fieldAddr hcx hi hop hf hF he
    exact plain _ rfl h2 h1
  ·cases he
 case field S x f =>
  split at he
  ·rename_i off F cs hf hx
   split at he
   ·rename_i i hF
    split at he
    ·rename_i hle
     exact fin _ he (gives_field hcx hi hop hf hx hF hle)
    ·cases he
   ·cases he
  ·cases he
 case indexAddr T x i =>
  split at he
  ·rename_i e' t' n1 z es nl full t l k n hT hx hy
   split at he
   ·rename_i htt; subst htt
    injection he with he; subst he
    simp only [Bool.and_eq_true, decide_eq_true_eq] at hok
    exact plain _ rfl rfl (gives_indexD hcx hi hop hT hx hy hok.1 hok.2)
   ·cases he
  ·rename_i e' t' n1 z es m t full off len k n hT hx hy
   split at he
   ·rename_i htt; subst htt
    injection he with he; subst he
    simp only [Bool.and_eq_true, decide_eq_true_eq] at hok
    exact plain _ rfl rfl (gives_indexO hcx hi hop hT hx hy hok.1 hok.2)
   ·cases he
  ·rename_i m e' n1 z es q k n hT hx hy
   split at he
   ·rename_i i' hE
    injection he with he; subst he
    simp only [Bool.and_eq_true, decide_eq_true_eq] at hok
    exact plain _ rfl rfl (gives_indexA hcx hi hop hT hx hy hE hok.1 hok.2)
   ·cases he
  ·cases he
 case index T x i =>
  split at he
  ·rename_i n1 z es s k n hT hx hy
   injection he with he; subst he
   simp only [Bool.and_eq_true, decide_eq_true_eq] at hok
   exact plain _ rfl rfl (gives_indexS hcx hi hop hT hx hy hok.1 hok.2)
  ·cases he
 case typeAssert x X T commaOk =>
  split at he
  ·rename_i y hx
   split at he
   ·rename_i c v hv
    injection he with he; subst he
    exact plain _ rfl rfl (gives_assert hcx hi hop hx hv hok)
   ·cases he
  ·cases he
 case makeMap T r =>
  split at he
  ·split at he
   ·injection he with he; subst he
    exact (does_makeMap hi hρ hl hk hop).sim
   ·cases he
  ·cases he
 case lookup T x i c =>
  split at he
  ·rename_i hT hx hs
   split at he
   ·rename_i hE hn
    split at he
    ·rename_i hEE
     simp only [beq_iff_eq] at hEE
     subst hEE
     injection he with he; subst he
     exact (does_lookup hcx hi hρ hl hk hop hT hE hx hs hn).sim
    ·cases he
   ·cases he
  ·cases he
 case mapUpdate T x i y =>
  split at he
  ·rename_i hT hx hs hy
   split at he
   ·rename_i hE hn hr
    split at he
    ·rename_i hEE
     simp only [Bool.and_eq_true, beq_iff_eq] at hEE
     obtain ⟨e1, e2⟩ := hEE
     subst e1; subst e2
     injection he with he; subst he
     simp only [Bool.and_eq_true, decide_eq_true_eq] at hok
     refine (does_update hcx hi hop hT hE hx hs hy hn hr ?_ hok.2).sim
     have h1 := hok.1
     split at h1
     ·exact .inl rfl
     ·rename_i s'; exact .inr (by rw [of_decide_eq_true h1])
    ·cases he
   ·cases he
  ·cases he
 case extract x i =>
  split at he
  ·rename_i vs hx
   split at he
   ·rename_i g cs hg
    exact fin _ he (gives_extract hi hop hx hg)
   ·cases he
  ·cases he
 case call c =>
  split at he
  ·rename_i b hb
   exact (blt_does hcx hi hρ hl hk hop hb he hok).sim
  ·split at he
   ·rename_i G as hw
    obtain ⟨go, xs, h1, h2, h3⟩ := wayOf_gam hga hi hop hw
    exact sim_gam hi hρ hl hk h1 h2 h3 he hok
   ·cases he
 all_goals cases he
end
end Go.Eng
/- What an operation looks at, and what it changes. -/
set_option linter.unusedVariables false
set_option linter.unusedSimpArgs false
namespace Go.Eng
open Go Go.RowKit

section
variable {cx : Cx} {env env' : List V} {h h' : Heap}

theorem argsOf_env : ∀ (xs : List Operand) (ts : List TypeId), (∀ x ∈ xs, opv env' x = opv env x) → argsOf cx env' xs ts = argsOf cx env xs ts
 | [], _, _ => rfl
 | x :: xs, ts, hx => by
  simp only [argsOf]
  rw [hx x (List.mem_cons_self), argsOf_env xs ts.tail (fun y hy => hx y (List.mem_cons_of_mem _ hy))]

theorem wayOf_env {c : Call} (hx : ∀ x ∈ c.operands, opv env' x = opv env x) : wayOf cx env' c = wayOf cx env c := by
 unfold wayOf
 rw [argsOf_env c.args.toList c.argTypes.toList (fun x hm => hx x (by simp [Call.operands, Array.mem_toList_iff.1 hm]))]
 cases hc : c.callee with
 | value f => simp only [hx f (by simp [Call.operands, hc])]
 | invoke r m => simp only [hx r (by simp [Call.operands, hc])]
 | builtin b => rfl

theorem yldE_env {c : Call} (hx : ∀ x ∈ c.operands, opv env' x = opv env x) : yldE cx env' c = yldE cx env c := by
 unfold yldE
 rw [argsOf_env c.args.toList c.argTypes.toList (fun x hm => hx x (by simp [Call.operands, Array.mem_toList_iff.1 hm]))]
 cases hc : c.callee with
 | value f => simp only [hx f (by simp [Call.operands, hc])]
 | invoke r m => rfl
 | builtin b => rfl

theorem inlE_env {o : Oper} (hx : ∀ x ∈ o.op.operands, opv env' x = opv env x) : inlE cx env' o = inlE cx env o := by
 unfold inlE
 cases ho : o.op <;> simp only [ho, Op.operands] at hx ⊢
 rename_i c
 rw [wayOf_env hx, yldE_env hx]

theorem fillB_env {T : TypeId} : ∀ (ps : List (Nat × Operand)) (cs : List C), (∀ p ∈ ps, opv env' p.2 = opv env p.2) → fillB cx T env' ps cs = fillB cx T env ps cs
 | [], _, _ => rfl
 | (i, x) :: r, cs, hx => by
  have e1 : opv env' x = opv env x := hx (i, x) List.mem_cons_self
  have ih := fun cs => fillB_env (T := T) r cs (fun p hp => hx p (List.mem_cons_of_mem _ hp))
  simp only [fillB, e1, ih]
theorem fillA_env {F : TypeId} {fi : TI} : ∀ (ps : List (Nat × Operand)) (cs : List C), (∀ p ∈ ps, opv env' p.2 = opv env p.2) → fillA cx F fi env' ps cs = fillA cx F fi env ps cs
 | [], _, _ => rfl
 | (i, x) :: r, cs, hx => by
  have e1 : opv env' x = opv env x := hx (i, x) List.mem_cons_self
  have ih := fun cs => fillA_env (F := F) (fi := fi) r cs (fun p hp => hx p (List.mem_cons_of_mem _ hp))
  simp only [fillA, e1, ih]
theorem rowsB_env {e : TypeId} {t : ET} : ∀ (ps : List (Nat × Operand)) (l : List (Ty t)) (ks : List Nat) (p : Bool), (∀ p ∈ ps, opv env' p.2 = opv env p.2) → rowsB cx e t env' h ps l ks p = rowsB cx e t env h ps l ks p
 | [], _, _, _, _ => rfl
 | (i, x) :: r, l, ks, p, hx => by
  have e1 : opv env' x = opv env x := hx (i, x) List.mem_cons_self
  have ih := fun l ks p => rowsB_env (e := e) (t := t) r l ks p (fun p hp => hx p (List.mem_cons_of_mem _ hp))
  simp only [rowsB, e1, ih]
theorem bnd_env {x : Option Operand} (hx : ∀ y, x = some y → opv env' y = opv env y) : bnd env' x = bnd env x := by
 cases x with
 | none => rfl
 | some y => simp only [bnd, hx y rfl]
theorem map_env {xs : List Operand} (hx : ∀ x ∈ xs, opv env' x = opv env x) : xs.map (opv env') = xs.map (opv env) := List.map_congr_left hx

theorem opE_env {nm : Nat} {o : Oper} (hx : ∀ x ∈ o.op.operands, opv env' x = opv env x) : opE cx nm env' h o = opE cx nm env h o := by
 cases ho : o.op <;> simp only [ho, Op.operands] at hx <;> simp only [opE, ho]
 case build T ps =>
  have ih := fun cs => fillB_env (cx := cx) (T := T) ps.toList cs (fun p hp => hx p.2 (by simpa using ⟨p.1, Array.mem_toList_iff.1 hp⟩))
  have ih2 := fun F fi cs => fillA_env (cx := cx) (F := F) (fi := fi) ps.toList cs (fun p hp => hx p.2 (by simpa using ⟨p.1, Array.mem_toList_iff.1 hp⟩))
  simp only [ih, ih2]
 case buildSlice T n ps =>
  have ih := fun e t l ks p => rowsB_env (cx := cx) (h := h) (e := e) (t := t) ps.toList l ks p (fun p hp => hx p.2 (by simpa using ⟨p.1, Array.mem_toList_iff.1 hp⟩))
  simp only [ih]
 case load T x => simp only [loadE, hx x (by simp)]
 case store T x y => simp only [storeE, hx x (by simp), hx y (by simp)]
 case makeFunc fn first caps =>
  rw [map_env (xs := first.toList) (fun x hm => hx x (by simp [Array.mem_toList_iff.1 hm])), map_env (xs := caps.toList) (fun x hm => hx x (by simp [Array.mem_toList_iff.1 hm]))]
 case call c =>
  rw [wayOf_env hx, map_env (xs := c.args.toList) (fun x hm => hx x (by simp [Call.operands, Array.mem_toList_iff.1 hm]))]
 case slice T x lo hi mx =>
  rw [hx x (by simp), bnd_env (x := lo) (fun y hy => hx y (by simp [hy])), bnd_env (x := hi) (fun y hy => hx y (by simp [hy])), bnd_env (x := mx) (fun y hy => hx y (by simp [hy]))]
 all_goals first
  | rfl
  | (simp_all; done)
  | skip
end
end Go.Eng
/- What an operation reads of the heap, and what it changes there. -/
set_option linter.unusedVariables false
set_option linter.unusedSimpArgs false
namespace Go.Eng
open Go Go.RowKit

def patch (h : Heap) : List (Nat × Option Blk) → Heap
 | [] => h
 | p :: ps => patch (h.set p.1 p.2) ps

theorem kill_patch : ∀ (ks : List Nat) (h : Heap), kill h ks = patch h (ks.map fun k => (k, none))
 | [], _ => rfl
 | k :: ks, h => by rw [kill, kill_patch ks]; rfl
theorem patch_append : ∀ (a b : List (Nat × Option Blk)) (h : Heap), patch h (a ++ b) = patch (patch h a) b
 | [], _, _ => rfl
 | p :: a, b, h => patch_append a b (h.set p.1 p.2)
theorem patch_length : ∀ (a : List (Nat × Option Blk)) (h : Heap), (patch h a).length = h.length
 | [], _ => rfl
 | p :: a, h => by rw [patch, patch_length a]; simp
theorem lk_patch : ∀ (a : List (Nat × Option Blk)) (h : Heap) (n : Nat), (∀ p ∈ a, p.1 ≠ n) → lk (patch h a) n = lk h n
 | [], _, _, _ => rfl
 | p :: a, h, n, hn => by
  rw [patch, lk_patch a _ n (fun q hq => hn q (List.mem_cons_of_mem _ hq)), lk_set_ne (fun e => hn p List.mem_cons_self e.symm)]

def Loc (F : Heap → Option Eff) (nm : Nat) (h : Heap) (e : Eff) : Prop :=
 ∃ dl, e.heap = patch h dl ∧ (∀ p ∈ dl, p.1 ∈ e.wr ∧ (p.2 = none ∨ p.1 = nm ∨ (lk h p.1).isSome = true)) ∧ ∀ h', (∀ n ∈ e.rd, lk h' n = lk h n) → F h' = some ⟨e.ok, e.val, patch h' dl, e.rd, e.wr⟩

section
variable {cx : Cx} {env : List V} {h h' : Heap}

theorem Loc.quiet {F : Heap → Option Eff} {nm : Nat} {e : Eff} (he : F h = some e) (hF : ∀ h1 h2, F h2 = (F h1).map fun e => ⟨e.ok, e.val, h2, e.rd, e.wr⟩) : Loc F nm h e := by
 refine ⟨[], ?_, fun p hp => by simp at hp, fun h' _ => by rw [hF h h', he]; rfl⟩
 have := hF h h
 rw [he] at this
 injection this with this
 rw [this]; rfl

theorem dem0_local {c : C} {d : D} {ks : List Nat} {p : Bool} (he : dem0 h c = some (d, ks, p)) (hh : ∀ n ∈ ks, lk h' n = lk h n) : dem0 h' c = some (d, ks, p) := by
 unfold dem0 at he ⊢
 cases c with
 | own n t full off len =>
  simp only at he ⊢
  have hn : n ∈ ks := by
   split at he
   ·split at he
    ·injection he with he; injection he with _ he; injection he with he _; rw [← he]; exact List.mem_singleton.2 rfl
    ·cases he
   ·cases he
  rw [hh n hn]; exact he
 | mrow n m len =>
  simp only at he ⊢
  have hn : n ∈ ks := by
   split at he
   ·split at he
    ·injection he with he; injection he with _ he; injection he with he _; rw [← he]; exact List.mem_singleton.2 rfl
    ·cases he
   ·cases he
  rw [hh n hn]; exact he
 | _ => exact he
theorem demL0_local : ∀ (cs : List C) (ds : List D) (ks : List Nat) (p : Bool), demL0 h cs = some (ds, ks, p) → (∀ n ∈ ks, lk h' n = lk h n) → demL0 h' cs = some (ds, ks, p)
 | [], _, _, _, he, _ => he
 | c :: cs, ds, ks, p, he, hh => by
  simp only [demL0] at he ⊢
  split at he
  ·rename_i x a p1 xs b p2 h1 h2
   injection he with he; injection he with e1 he; injection he with e2 e3; subst e1; subst e2; subst e3
   rw [dem0_local h1 (fun n hn => hh n (List.mem_append.2 (.inl hn))), demL0_local cs _ _ _ h2 (fun n hn => hh n (List.mem_append.2 (.inr hn)))]
  ·cases he
theorem demBoxes_local : ∀ (ns : List Nat) (rs : List (List D)) (ks : List Nat) (p : Bool), demBoxes h ns = some (rs, ks, p) → (∀ n ∈ ks, lk h' n = lk h n) → demBoxes h' ns = some (rs, ks, p)
 | [], _, _, _, he, _ => he
 | n :: ns, rs, ks, p, he, hh => by
  simp only [demBoxes] at he ⊢
  split at he
  ·rename_i B cs hk
   split at he
   ·rename_i xs a p1 r b p2 h1 h2
    injection he with he; injection he with e1 he; injection he with e2 e3; subst e1; subst e2; subst e3
    rw [hh n List.mem_cons_self, hk]
    simp only
    rw [demL0_local cs _ _ _ h1 (fun m hm => hh m (List.mem_cons_of_mem _ (List.mem_append.2 (.inl hm)))), demBoxes_local ns _ _ _ h2 (fun m hm => hh m (List.mem_cons_of_mem _ (List.mem_append.2 (.inr hm))))]
   ·cases he
  ·cases he
theorem dem_local {c : C} {d : D} {ks : List Nat} {p : Bool} (he : dem h c = some (d, ks, p)) (hh : ∀ n ∈ ks, lk h' n = lk h n) : dem h' c = some (d, ks, p) := by
 unfold dem at he ⊢
 split at he
 ·rename_i f first caps
  split at he
  ·rename_i a x1 p1 b y p2 h1 h2
   injection he with he; injection he with e1 he; injection he with e2 e3; subst e1; subst e2; subst e3
   rw [demBoxes_local first _ _ _ h1 (fun n hn => hh n (List.mem_append.2 (.inl hn))), demBoxes_local caps _ _ _ h2 (fun n hn => hh n (List.mem_append.2 (.inr hn)))]
  ·cases he
 ·exact dem0_local he hh
theorem demL_local : ∀ (cs : List C) (ds : List D) (ks : List Nat) (p : Bool), demL h cs = some (ds, ks, p) → (∀ n ∈ ks, lk h' n = lk h n) → demL h' cs = some (ds, ks, p)
 | [], _, _, _, he, _ => he
 | c :: cs, ds, ks, p, he, hh => by
  simp only [demL] at he ⊢
  split at he
  ·rename_i x a p1 xs b p2 h1 h2
   injection he with he; injection he with e1 he; injection he with e2 e3; subst e1; subst e2; subst e3
   rw [dem_local h1 (fun n hn => hh n (List.mem_append.2 (.inl hn))), demL_local cs _ _ _ h2 (fun n hn => hh n (List.mem_append.2 (.inr hn)))]
  ·cases he
theorem demArgs_local : ∀ (as : List Arg) (ds : List DArg) (ks : List Nat) (p : Bool), demArgs h as = some (ds, ks, p) → (∀ n ∈ ks, lk h' n = lk h n) → demArgs h' as = some (ds, ks, p)
 | [], _, _, _, he, _ => he
 | (g, cs) :: as, ds, ks, p, he, hh => by
  simp only [demArgs] at he ⊢
  split at he
  ·rename_i x a p1 xs b p2 h1 h2
   injection he with he; injection he with e1 he; injection he with e2 e3; subst e1; subst e2; subst e3
   rw [demL_local cs _ _ _ h1 (fun n hn => hh n (List.mem_append.2 (.inl hn))), demArgs_local as _ _ _ h2 (fun n hn => hh n (List.mem_append.2 (.inr hn)))]
  ·cases he

theorem rowsB_mono {e : TypeId} {t : ET} : ∀ (ps : List (Nat × Operand)) (l l' : List (Ty t)) (ks ks' : List Nat) (p p' : Bool), rowsB cx e t env h ps l ks p = some (l', ks', p') → ∀ n ∈ ks, n ∈ ks'
 | [], l, l', ks, ks', p, p', he, n, hn => by
  simp only [rowsB] at he
  injection he with he; injection he with _ he; injection he with he _; rw [← he]; exact hn
 | (i, x) :: r, l, l', ks, ks', p, p', he, n, hn => by
  simp only [rowsB] at he
  split at he
  ·split at he
   ·split at he
    ·split at he
     ·exact rowsB_mono r _ _ _ _ _ _ he n (List.mem_append.2 (.inl hn))
     ·cases he
    ·cases he
   ·cases he
  ·cases he
theorem rowsB_local {e : TypeId} {t : ET} : ∀ (ps : List (Nat × Operand)) (l l' : List (Ty t)) (ks ks' : List Nat) (p p' : Bool), rowsB cx e t env h ps l ks p = some (l', ks', p') → (∀ n ∈ ks', lk h' n = lk h n) → rowsB cx e t env h' ps l ks p = some (l', ks', p')
 | [], l, l', ks, ks', p, p', he, _ => he
 | (i, x) :: r, l, l', ks, ks', p, p', he, hh => by
  simp only [rowsB] at he ⊢
  split at he
  ·rename_i g ys hy
   split at he
   ·rename_i ds k q hd
    split at he
    ·rename_i y hdec
     split at he
     ·rename_i hlt
      have hm := rowsB_mono r _ _ _ _ _ _ he
      rw [demL_local ys _ _ _ hd (fun n hn => hh n (hm n (List.mem_append.2 (.inr hn))))]
      simp only [hdec, if_pos hlt]
      exact rowsB_local r _ _ _ _ _ _ he hh
     ·cases he
    ·cases he
   ·cases he
  ·cases he

theorem slOf_local {c : C} {s : Sl} (he : slOf h c = some s) (hh : ∀ n ∈ s.rd, lk h' n = lk h n) : slOf h' c = some s := by
 unfold slOf at he ⊢
 cases c with
 | own n t full off len =>
  simp only at he ⊢
  have hn : n ∈ s.rd := by
   split at he
   ·split at he
    ·injection he with he; rw [← he]; exact List.mem_singleton.2 rfl
    ·cases he
   ·cases he
  rw [hh n hn]; exact he
 | mrow n m len =>
  simp only at he ⊢
  have hn : n ∈ s.rd := by
   split at he
   ·split at he
    ·injection he with he; rw [← he]; exact List.mem_singleton.2 rfl
    ·cases he
   ·cases he
  rw [hh n hn]; exact he
 | d x => cases x <;> exact he
 | _ => cases he
end
end Go.Eng
/- What an operation reads of the heap, and what it changes there: all operations. -/
set_option linter.unusedVariables false
set_option linter.unusedSimpArgs false
namespace Go.Eng
open Go Go.RowKit

section
variable {cx : Cx} {env : List V} {h h' : Heap}

theorem lkh {n : Nat} {b : Blk} (hk : lk h n = some b) : (lk h n).isSome = true := by rw [hk]; rfl

theorem load_local {nm : Nat} {T : TypeId} {x : Operand} {e : Eff} (he : loadE cx T env h x = some e) : Loc (fun h' => loadE cx T env h' x) nm h e := by
 unfold loadE at he
 split at he
 ·cases he
 ·rename_i i hT
  split at he
  ·rename_i n off hx
   split at he
   ·rename_i B cs hk
    split at he
    ·rename_i hle
     injection he with he; subst he
     refine ⟨[], rfl, fun p hp => by simp at hp, fun h' hh => ?_⟩
     have := hh n (List.mem_singleton.2 rfl)
     simp only [loadE, hT, hx, this, hk, if_pos hle]; rfl
    ·cases he
   ·cases he
  ·rename_i n t k j hx
   split at he
   ·rename_i B t' l hk
    split at he
    ·rename_i ett; subst ett
     split at he
     ·rename_i hle
      injection he with he; subst he
      refine ⟨[], rfl, fun p hp => by simp at hp, fun h' hh => ?_⟩
      have := hh n (List.mem_singleton.2 rfl)
      simp only [loadE, hT, hx, this, hk, if_pos hle, dite_true]; rfl
     ·cases he
    ·cases he
   ·cases he
  ·rename_i cs hx
   split at he
   ·rename_i hle
    simp only [pure1] at he
    injection he with he; subst he
    refine ⟨[], rfl, fun p hp => by simp at hp, fun h' hh => ?_⟩
    simp only [loadE, hT, hx, if_pos hle, pure1]; rfl
   ·cases he
  ·cases he

theorem store_local {nm : Nat} {T : TypeId} {x y : Operand} {e : Eff} (he : storeE cx T env h x y = some e) : Loc (fun h' => storeE cx T env h' x y) nm h e := by
 unfold storeE at he
 split at he
 ·cases he
 ·rename_i i hT
  split at he
  ·rename_i g ys hy
   split at he
   ·rename_i hlen
    split at he
    ·rename_i n off hx
     split at he
     ·rename_i B cs hk
      split at he
      ·rename_i hle
       injection he with he; subst he
       refine ⟨[(n, some (.box B (putL cs off ys)))], rfl, fun p hp => ?_, fun h' hh => ?_⟩
       ·obtain rfl := List.mem_singleton.1 hp
        exact ⟨List.mem_singleton.2 rfl, .inr (.inr (lkh hk))⟩
       ·have := hh n (List.mem_singleton.2 rfl)
        simp only [storeE, hT, hy, if_pos hlen, hx, this, hk, if_pos hle]; rfl
      ·cases he
     ·cases he
    ·rename_i n t k j hx
     split at he
     ·rename_i B t' l ds hk hds
      split at he
      ·rename_i ett; subst ett
       split at he
       ·rename_i hle
        split at he
        ·rename_i z hz
         injection he with he; subst he
         refine ⟨[(n, _)], rfl, fun p hp => ?_, fun h' hh => ?_⟩
         ·obtain rfl := List.mem_singleton.1 hp
          exact ⟨List.mem_singleton.2 rfl, .inr (.inr (lkh hk))⟩
         ·have := hh n (List.mem_singleton.2 rfl)
          simp only [storeE, hT, hy, if_pos hlen, hx, this, hk, hds, if_pos hle, dite_true, hz]; rfl
        ·cases he
       ·cases he
      ·cases he
     ·cases he
    ·cases he
   ·cases he
  ·cases he

theorem append_local {nm : Nat} {T : TypeId} {s x : C} {e : Eff} (he : appendE cx T nm h s x = some e) : Loc (fun h' => appendE cx T nm h' s x) nm h e := by
 unfold appendE at he
 split at he
 ·rename_i E t n1 z1 es1 hT
  split at he
  ·cases he
  ·rename_i t2 l2 f2 r2 p hsl
   split at he
   ·rename_i e2; subst e2
    split at he
    ·injection he with he; subst he
     refine ⟨[(nm, _)], rfl, fun p hp => ?_, fun h' hh => ?_⟩
     ·obtain rfl := List.mem_singleton.1 hp
      exact ⟨List.mem_singleton.2 rfl, .inr (.inl rfl)⟩
     ·have := slOf_local hsl (h' := h') hh
      simp only [appendE, hT, this, dite_true]; rfl
    ·rename_i nl full t' l
     split at he
     ·rename_i e1; subst e1
      injection he with he; subst he
      refine ⟨[(nm, _)], rfl, fun p hp => ?_, fun h' hh => ?_⟩
      ·obtain rfl := List.mem_singleton.1 hp
       exact ⟨List.mem_singleton.2 rfl, .inr (.inl rfl)⟩
      ·have := slOf_local hsl (h' := h') hh
       simp only [appendE, hT, this, dite_true]; rfl
     ·cases he
    ·rename_i n t' full len
     split at he
     ·rename_i e' t'' l hk
      split at he
      ·rename_i e1; subst e1
       split at he
       ·rename_i hc
        injection he with he; subst he
        refine ⟨[(n, none), (nm, _)], rfl, fun p hp => ?_, fun h' hh => ?_⟩
        ·rcases List.mem_cons.1 hp with rfl | hp
         ·exact ⟨List.mem_cons_self, .inl rfl⟩
         ·obtain rfl := List.mem_singleton.1 hp
          exact ⟨List.mem_cons_of_mem _ (List.mem_singleton.2 rfl), .inr (.inl rfl)⟩
        ·have h1 := slOf_local hsl (h' := h') (fun m hm => hh m (List.mem_cons_of_mem _ hm))
         have h2 := hh n List.mem_cons_self
         simp only [appendE, hT, h1, h2, hk, dite_true, if_pos hc]; rfl
       ·cases he
      ·cases he
     ·cases he
    ·rename_i n mm len
     simp only at he
     split at he
     ·rename_i e' l lo hk
      split at he
      ·rename_i key hkey
       split at he
       ·rename_i e1; subst e1
        split at he
        ·rename_i hc
         injection he with he; subst he
         refine ⟨[(n, _), (nm, _)], rfl, fun p hp => ?_, fun h' hh => ?_⟩
         ·rcases List.mem_cons.1 hp with rfl | hp
          ·exact ⟨List.mem_cons_self, .inr (.inr (lkh hk))⟩
          ·obtain rfl := List.mem_singleton.1 hp
           exact ⟨List.mem_cons_of_mem _ (List.mem_singleton.2 rfl), .inr (.inl rfl)⟩
         ·have h1 := slOf_local hsl (h' := h') (fun m hm => hh m (List.mem_cons_of_mem _ hm))
          have h2 := hh n List.mem_cons_self
          simp only [appendE, hT, h1, h2, hk, hkey, dite_true, if_pos hc]; rfl
        ·cases he
       ·cases he
      ·cases he
     ·cases he
    ·cases he
   ·cases he
 ·cases he

theorem copy_local {nm : Nat} {E : TypeId} {t : ET} {s x : C} {e : Eff} (he : copyE E t h s x = some e) : Loc (fun h' => copyE E t h' s x) nm h e := by
 unfold copyE at he
 split at he
 ·rename_i n tn full off len
  split at he
  ·rename_i htn
   split at he
   ·rename_i B t' l t2 l2 f2 r2 p hk hsl
    split at he
    ·rename_i e1; subst e1
     split at he
     ·rename_i e2; subst e2
      split at he
      ·rename_i hc
       injection he with he; subst he
       refine ⟨[(n, _)], rfl, fun p hp => ?_, fun h' hh => ?_⟩
       ·obtain rfl := List.mem_singleton.1 hp
        exact ⟨List.mem_singleton.2 rfl, .inr (.inr (lkh hk))⟩
       ·have h1 := slOf_local hsl (h' := h') (fun m hm => hh m (List.mem_cons_of_mem _ hm))
        have h2 := hh n List.mem_cons_self
        simp only [copyE, htn, h1, h2, hk, dite_true, if_pos hc, if_true]; rfl
      ·cases he
     ·cases he
    ·cases he
   ·cases he
  ·cases he
 ·cases he

theorem clear_local {nm : Nat} {E : TypeId} {t : ET} {s : C} {e : Eff} (he : clearE E t h s = some e) : Loc (fun h' => clearE E t h' s) nm h e := by
 unfold clearE at he
 split at he
 ·rename_i n tn full off len
  split at he
  ·rename_i htn
   split at he
   ·rename_i B t' l hk
    split at he
    ·rename_i e1; subst e1
     injection he with he; subst he
     refine ⟨[(n, _)], rfl, fun p hp => ?_, fun h' hh => ?_⟩
     ·obtain rfl := List.mem_singleton.1 hp
      exact ⟨List.mem_singleton.2 rfl, .inr (.inr (lkh hk))⟩
     ·have h2 := hh n (List.mem_singleton.2 rfl)
      simp only [clearE, htn, h2, hk, dite_true, if_true]; rfl
    ·cases he
   ·cases he
  ·cases he
 ·cases he

theorem callG_local {nm : Nat} {G : List DArg → Option Ret} {as : List Arg} {e : Eff} (he : callG G nm h as = some e) : Loc (fun h' => callG G nm h' as) nm h e := by
 unfold callG at he
 split at he
 ·cases he
 ·rename_i ds ks p hd
  split at he
  ·cases he
  ·rename_i r hr
   injection he with he; subst he
   rcases r with ⟨ro, row, vals⟩
   rcases row with _ | ⟨T, t, l⟩
   ·refine ⟨(lentOf (Ret.lends ⟨ro, none, vals⟩) ks).map fun k => (k, none), kill_patch _ h, fun p hp => ?_, fun h' hh => ?_⟩
    ·obtain ⟨k, hk, rfl⟩ := List.mem_map.1 hp
     exact ⟨List.mem_cons_of_mem _ hk, .inl rfl⟩
    ·simp only [callG, demArgs_local as _ _ _ hd hh, hr, kill_patch]
   ·refine ⟨((lentOf (Ret.lends ⟨ro, some (T, ⟨t, l⟩), vals⟩) ks).map fun k => (k, none)) ++ [(nm, some (.arr T t l))], ?_, fun p hp => ?_, fun h' hh => ?_⟩
    ·rw [patch_append]; simp only [kill_patch]; rfl
    ·rcases List.mem_append.1 hp with hp | hp
     ·obtain ⟨k, hk, rfl⟩ := List.mem_map.1 hp
      exact ⟨List.mem_cons_of_mem _ hk, .inl rfl⟩
     ·obtain rfl := List.mem_singleton.1 hp
      exact ⟨List.mem_cons_self, .inr (.inl rfl)⟩
    ·simp only [callG, demArgs_local as _ _ _ hd hh, hr, kill_patch, patch_append]; rfl

theorem blt_local {b : Builtin} {nm : Nat} {vs : List V} {ts : List TypeId} {e : Eff} (he : bltE cx b nm h vs ts = some e) : Loc (fun h' => bltE cx b nm h' vs ts) nm h e := by
 have quiet : (∀ h1 h2, bltE cx b nm h2 vs ts = (bltE cx b nm h1 vs ts).map fun e => ⟨e.ok, e.val, h2, e.rd, e.wr⟩) → Loc (fun h' => bltE cx b nm h' vs ts) nm h e := fun hq => Loc.quiet he hq
 have he0 := he
 unfold bltE at he
 split at he
 ·refine quiet fun h1 h2 => ?_
  simp only [bltE, pure1]
  split <;> simp_all
 ·rename_i s x T T2
  split at he
  ·rename_i hT2
   obtain ⟨dl, h1, h2, h3⟩ := append_local he
   exact ⟨dl, h1, h2, fun h' hh => by simp only [bltE, hT2]; exact h3 h' hh⟩
  ·cases he
 ·rename_i s x T T2
  split at he
  ·rename_i hT
   obtain ⟨dl, h1, h2, h3⟩ := copy_local (nm := nm) he
   exact ⟨dl, h1, h2, fun h' hh => by simp only [bltE, hT]; exact h3 h' hh⟩
  ·cases he
 ·rename_i s T
  split at he
  ·rename_i hT
   obtain ⟨dl, h1, h2, h3⟩ := clear_local (nm := nm) he
   exact ⟨dl, h1, h2, fun h' hh => by simp only [bltE, hT]; exact h3 h' hh⟩
  ·cases he
 ·refine quiet fun h1 h2 => ?_
  simp only [bltE, pure1]
  split <;> simp_all
 ·refine quiet fun h1 h2 => ?_
  simp only [bltE, pure1]
  split <;> simp_all
 ·cases he

theorem opE_local {nm : Nat} {o : Oper} {e : Eff} (he : opE cx nm env h o = some e) : Loc (fun h' => opE cx nm env h' o) nm h e := by
 cases hop : o.op
 case load T x =>
  simp only [opE, hop] at he ⊢
  exact load_local he
 case store T x y =>
  simp only [opE, hop] at he ⊢
  exact store_local he
 case alloc T =>
  simp only [opE, hop] at he ⊢
  split at he
  ·injection he with he; subst he
   exact ⟨[(nm, _)], rfl, fun p hp => by obtain rfl := List.mem_singleton.1 hp; exact ⟨List.mem_singleton.2 rfl, .inr (.inl rfl)⟩, fun h' _ => rfl⟩
  ·cases he
 case box T x =>
  simp only [opE, hop] at he ⊢
  split at he
  ·rename_i i g cs hT hx
   split at he
   ·rename_i hc
    injection he with he; subst he
    exact ⟨[(nm, _)], rfl, fun p hp => by obtain rfl := List.mem_singleton.1 hp; exact ⟨List.mem_singleton.2 rfl, .inr (.inl rfl)⟩, fun h' _ => by simp only [hT, hx, if_pos hc]; rfl⟩
   ·cases he
  ·cases he
 case makeMap T r =>
  simp only [opE, hop] at he ⊢
  split at he
  ·rename_i hT
   split at he
   ·rename_i hE
    injection he with he; subst he
    exact ⟨[(nm, _)], rfl, fun p hp => by obtain rfl := List.mem_singleton.1 hp; exact ⟨List.mem_singleton.2 rfl, .inr (.inl rfl)⟩, fun h' _ => rfl⟩
   ·cases he
  ·cases he
 case lookup T x i c =>
  simp only [opE, hop] at he ⊢
  split at he
  ·rename_i n s hT hx hs
   split at he
   ·rename_i hE hn
    split at he
    ·rename_i hEE
     injection he with he; subst he
     refine ⟨[(_, _)], rfl, fun p hp => by obtain rfl := List.mem_singleton.1 hp; exact ⟨List.mem_cons_self, .inr (.inr (lkh hn))⟩, fun h' hh => ?_⟩
     have h2 := hh _ (List.mem_singleton.2 rfl)
     simp only [h2, hn, hE, if_pos hEE]; rfl
    ·cases he
   ·cases he
  ·cases he
 case mapUpdate T x i y =>
  simp only [opE, hop] at he ⊢
  split at he
  ·rename_i hT hx hs hy
   split at he
   ·rename_i hE hn hr
    split at he
    ·rename_i hEE
     injection he with he; subst he
     refine ⟨[(_, _), (_, _)], rfl, fun p hp => ?_, fun h' hh => ?_⟩
     ·rcases List.mem_cons.1 hp with rfl | hp
      ·exact ⟨List.mem_cons_of_mem _ (List.mem_singleton.2 rfl), .inl rfl⟩
      ·obtain rfl := List.mem_singleton.1 hp
       exact ⟨List.mem_cons_self, .inr (.inr (lkh hn))⟩
     ·have h2 := hh _ List.mem_cons_self
      have h3 := hh _ (List.mem_cons_of_mem _ (List.mem_singleton.2 rfl))
      simp only [h2, h3, hn, hr, hE, if_pos hEE]; rfl
    ·cases he
   ·cases he
  ·cases he
 case makeSlice T x y =>
  simp only [opE, hop] at he ⊢
  split at he
  ·injection he with he; subst he
   exact ⟨[(nm, _)], rfl, fun p hp => by obtain rfl := List.mem_singleton.1 hp; exact ⟨List.mem_singleton.2 rfl, .inr (.inl rfl)⟩, fun h' _ => rfl⟩
  ·cases he
 case buildSlice T n ps =>
  simp only [opE, hop] at he ⊢
  split at he
  ·rename_i E t n1 z1 es1 hT
   split at he
   ·rename_i l ks p hr
    split at he
    ·rename_i hn
     injection he with he; subst he
     refine ⟨(ks.map fun k => (k, none)) ++ [(nm, some (.arr E t l))], ?_, fun p hp => ?_, fun h' hh => ?_⟩
     ·rw [patch_append]; simp only [kill_patch]; rfl
     ·rcases List.mem_append.1 hp with hp | hp
      ·obtain ⟨k, hk, rfl⟩ := List.mem_map.1 hp
       exact ⟨List.mem_cons_of_mem _ hk, .inl rfl⟩
      ·obtain rfl := List.mem_singleton.1 hp
       exact ⟨List.mem_cons_self, .inr (.inl rfl)⟩
     ·simp only [rowsB_local ps.toList _ _ _ _ _ _ hr hh, if_pos hn, kill_patch, patch_append]; rfl
    ·cases he
   ·cases he
  ·cases he
 case call c =>
  simp only [opE, hop] at he ⊢
  split at he
  ·exact blt_local he
  ·split at he
   ·rename_i G as hw
    obtain ⟨dl, h1, h2, h3⟩ := callG_local he
    exact ⟨dl, h1, h2, fun h' hh => by simp only [hw]; exact h3 h' hh⟩
   ·cases he
 case makeFunc fn first caps =>
  refine Loc.quiet he fun h1 h2 => ?_
  simp only [opE, hop, pure1]
  cases fn
  case func f =>
   simp only
   generalize first.toList.map (opv env) = A
   generalize caps.toList.map (opv env) = B
   rcases A with _ | ⟨a, A⟩ <;> rcases B with _ | ⟨b, B⟩ <;> simp only
   ·rfl
   all_goals
    generalize ptrs _ = p1
    generalize ptrs _ = p2
    generalize refs _ = q1
    generalize refs _ = q2
    cases p1 <;> cases p2 <;> cases q1 <;> cases q2 <;> rfl
  all_goals rfl
 case build T ps =>
  refine Loc.quiet he fun h1 h2 => ?_
  simp only [opE, hop, pure1]
  generalize cx.tt T = q
  rcases q with _ | ⟨kd, n, z, e⟩
  ·rfl
  ·cases kd
   case struct fs =>
    simp only
    generalize fillB cx T env ps.toList (z.map .d) = r
    cases r <;> rfl
   case array m F =>
    simp only
    generalize cx.tt F = q2
    rcases q2 with _ | fi
    ·rfl
    ·simp only
     generalize fillA cx F fi env ps.toList (z.map .d) = r
     cases r <;> rfl
   all_goals rfl
 case fieldAddr S x f =>
  refine Loc.quiet he fun h1 h2 => ?_
  simp only [opE, hop, pure1]
  generalize fieldOf cx S f = p
  rcases p with _ | ⟨off, F⟩
  ·rfl
  ·simp only
   split
   ·rfl
   ·split <;> simp_all
 all_goals
  refine Loc.quiet he fun h1 h2 => ?_
  simp only [opE, hop, pure1]
  first
   | rfl
   | (split <;> first | rfl | (simp_all; done) | (split <;> simp_all; done))
   | skip
end
end Go.Eng
/- A region's operations, done one behind the other; two that do not meddle may change places. -/
set_option linter.unusedVariables false
set_option linter.unusedSimpArgs false
namespace Go.Eng
open Go Go.RowKit

abbrev CL := Func → FuncId → List Arg → Heap → List Arg → Heap → Prop

def guardV (ops : Array Oper) (env : List V) (o : Oper) : Option Bool :=
 match o.guard with
 | none => some true
 | some (j, want) => match (ops[j]?).bind (·.dst) with
  | none => none
  | some d => match env.getD d .any with
   | .v false [.d (.sc (.bool b))] => some (b == want)
   | .tup [] => some false
   | _ => none

inductive Done (cx : Cx) (cl : CL) (base i : Nat) (o : Oper) (env : List V) (h : Heap) : V → Heap → Note → Prop where
 | op (e : Eff) (h1 : inlE cx env o = none) (h2 : opE cx (base + i) env h o = some e) (h3 : e.ok = true) : Done cx cl base i o env h e.val e.heap ⟨i, e.rd, e.wr, false⟩
 | inl (fn : Func) (f : FuncId) (as rs : List Arg) (h' : Heap) (h1 : inlE cx env o = some (fn, f, as)) (h2 : cl fn f as h rs h') : Done cx cl base i o env h (valOf rs) h' ⟨i, [], [], true⟩

inductive Step1 (cx : Cx) (cl : CL) (ops : Array Oper) (base i : Nat) (st : St) : St → List Note → Prop where
 | run (o : Oper) (v : V) (h' : Heap) (n : Note) (h1 : ops[i]? = some o) (h2 : guardV ops st.env o = some true) (h3 : Done cx cl base i o st.env st.heap v h' n) : Step1 cx cl ops base i st ⟨putV st.env o.dst v, h', st.fb⟩ [n]
 | skip (o : Oper) (h1 : ops[i]? = some o) (h2 : guardV ops st.env o = some false) : Step1 cx cl ops base i st ⟨putV st.env o.dst (.tup []), st.heap, st.fb⟩ []

inductive Exec (cx : Cx) (cl : CL) (ops : Array Oper) (base : Nat) : List Nat → St → St → List Note → Prop where
 | nil (st : St) : Exec cx cl ops base [] st st []
 | cons {i : Nat} {is : List Nat} {st st1 st2 : St} {n1 n2 : List Note} (h1 : Step1 cx cl ops base i st st1 n1) (h2 : Exec cx cl ops base is st1 st2 n2) : Exec cx cl ops base (i :: is) st st2 (n1 ++ n2)

theorem env_set_self {env : List V} {d : Nat} {v : V} (h : env.getD d .any = v) (hv : v ≠ .any) : env.set d v = env := by
 apply List.ext_getElem?
 intro m
 rw [List.getElem?_set]
 by_cases e : d = m
 ·subst e
  by_cases hl : d < env.length
  ·simp only [if_true, hl]
   rw [← h, List.getD_eq_getElem?_getD, List.getElem?_eq_getElem hl]; rfl
  ·rw [List.getD_eq_getElem?_getD, List.getElem?_eq_none (Nat.le_of_not_lt hl)] at h
   exact absurd h.symm hv
 ·rw [if_neg e]

theorem evOps_adq {X : Type} {cx : Cx} {cl : CL} {hd : Hd (Option X)} (hcl : ∀ fn f as h K (x : X), hd.cl fn f as h K = some x → ∃ rs h', cl fn f as h rs h' ∧ K rs h' = some x) {ops : Array Oper} {base : Nat} :
    ∀ (is : List Nat) (st : St) (lg : List Note) (K : St → List Note → Option X) (x : X), evOps cx hd none ops base is st lg K = some x → ∃ st' ns, Exec cx cl ops base is st st' ns ∧ K st' (ns.reverse ++ lg) = some x
 | [], st, lg, K, x, h => ⟨st, [], .nil st, h⟩
 | i :: rest, st, lg, K, x, h => by
  have ih := evOps_adq (X := X) (cx := cx) hcl (ops := ops) (base := base) rest
  unfold evOps at h
  cases ho : ops[i]? with
  | none => rw [ho] at h; cases h
  | some o =>
   rw [ho] at h
   simp only at h
   have skip : guardV ops st.env o = some false → evOps cx hd none ops base rest ⟨putV st.env o.dst (.tup []), st.heap, st.fb⟩ lg K = some x → ∃ st' ns, Exec cx cl ops base (i :: rest) st st' ns ∧ K st' (ns.reverse ++ lg) = some x := fun hg he => by
    obtain ⟨st', ns, h1, h2⟩ := ih _ _ _ _ he
    exact ⟨st', _, .cons (.skip o ho hg) h1, h2⟩
   have go : guardV ops st.env o = some true → (match inlE cx st.env o with
    | some (fn, f, as) => hd.cl fn f as st.heap fun rs h => evOps cx hd none ops base rest ⟨putV st.env o.dst (valOf rs), h, st.fb⟩ (⟨i, [], [], true⟩ :: lg) K
    | none => match opE cx (base + i) st.env st.heap o with
     | none => none
     | some e => cond e.ok (evOps cx hd none ops base rest ⟨putV st.env o.dst e.val, e.heap, st.fb⟩ (⟨i, e.rd, e.wr, false⟩ :: lg) K) none) = some x → ∃ st' ns, Exec cx cl ops base (i :: rest) st st' ns ∧ K st' (ns.reverse ++ lg) = some x := fun hg he => by
    split at he
    ·rename_i fn f as hin
     obtain ⟨rs, h', h1, h2⟩ := hcl _ _ _ _ _ _ he
     obtain ⟨st', ns, h3, h4⟩ := ih _ _ _ _ h2
     refine ⟨st', _, .cons (.run o _ _ _ ho hg (.inl fn f as rs h' hin h1)) h3, ?_⟩
     simpa using h4
    ·rename_i hin
     split at he
     ·cases he
     ·rename_i e hop
      cases hok : e.ok with
      | false => rw [hok] at he; cases he
      | true =>
       rw [hok] at he
       obtain ⟨st', ns, h3, h4⟩ := ih _ _ _ _ he
       refine ⟨st', _, .cons (.run o _ _ _ ho hg (.op e hin hop hok)) h3, ?_⟩
       simpa using h4
   cases hgd : o.guard with
   | none =>
    rw [hgd] at h
    exact go (by simp [guardV, hgd]) h
   | some gw =>
    obtain ⟨j, want⟩ := gw
    rw [hgd] at h
    simp only at h
    split at h
    ·cases h
    ·rename_i d hd'
     split at h
     ·rename_i b hb
      have hset : ∀ t, b = t → st.env.set d (.b t) = st.env := fun t e => by subst e; exact env_set_self hb (by simp)
      cases b with
      | true =>
       rw [hset true rfl] at h
       cases want with
       | true => exact go (by unfold guardV; rw [hgd]; simp only [hd', hb]; rfl) h
       | false => exact skip (by unfold guardV; rw [hgd]; simp only [hd', hb]; rfl) h
      | false =>
       rw [hset false rfl] at h
       cases want with
       | true => exact skip (by unfold guardV; rw [hgd]; simp only [hd', hb]; rfl) h
       | false => exact go (by unfold guardV; rw [hgd]; simp only [hd', hb]; rfl) h
     ·rename_i hb
      exact skip (by unfold guardV; rw [hgd]; simp only [hd', hb]) h
     ·cases h

section
variable {cx : Cx} {cl : CL} {ops : Array Oper} {base : Nat}

theorem opv_put {env : List V} {dst : Option Tmp} {v : V} {x : Operand} (h : ∀ d, dst = some d → x ≠ .tmp d) : opv (putV env dst v) x = opv env x := by
 cases dst with
 | none => rfl
 | some d =>
  cases x with
  | tmp t =>
   have hne : d ≠ t := fun e => h d rfl (e ▸ rfl)
   simp [opv, putV, List.getD_eq_getElem?_getD, List.getElem?_set, hne]
  | _ => rfl

theorem opv_apart {env : List V} {v : V} {x y : Oper} (h : ∀ d, x.dst = some d → d ∉ y.looksAt ops) : ∀ z ∈ y.op.operands, opv (putV env x.dst v) z = opv env z := fun z hz =>
 opv_put fun d hd hzd => h d hd (by
  subst hzd
  exact List.mem_append_left _ (List.mem_filterMap.2 ⟨.tmp d, by simpa using hz, rfl⟩))

theorem guardV_apart {env : List V} {v : V} {x y : Oper} (h : ∀ d, x.dst = some d → d ∉ y.looksAt ops) : guardV ops (putV env x.dst v) y = guardV ops env y := by
 cases hx : x.dst with
 | none => rfl
 | some d =>
  unfold guardV
  cases hg : y.guard with
  | none => rfl
  | some gw =>
   obtain ⟨g, want⟩ := gw
   simp only
   cases ht : (ops[g]?).bind (·.dst) with
   | none => rfl
   | some t =>
    have hne : d ≠ t := fun e => h d hx (by subst e; simp [Oper.looksAt, hg, ht])
    simp [putV, List.getD_eq_getElem?_getD, List.getElem?_set, hne]

theorem putV_comm {env : List V} {d e : Option Tmp} {v u : V} (h : ∀ t, d = some t → e ≠ some t) : putV (putV env d v) e u = putV (putV env e u) d v := by
 cases d with
 | none => rfl
 | some d =>
  cases e with
  | none => rfl
  | some e =>
   have hne : d ≠ e := fun he => h d rfl (he ▸ rfl)
   exact List.set_comm _ _ hne

theorem patch_set {n : Nat} {b : Option Blk} : ∀ (dl : List (Nat × Option Blk)) (h : Heap), (∀ p ∈ dl, p.1 ≠ n) → patch (h.set n b) dl = (patch h dl).set n b
 | [], _, _ => rfl
 | p :: dl, h, hn => by
  rw [patch, patch, List.set_comm _ _ (fun e => hn p List.mem_cons_self e.symm), patch_set dl _ (fun q hq => hn q (List.mem_cons_of_mem _ hq))]
theorem patch_comm : ∀ (d1 d2 : List (Nat × Option Blk)) (h : Heap), (∀ p ∈ d1, ∀ q ∈ d2, p.1 ≠ q.1) → patch (patch h d1) d2 = patch (patch h d2) d1
 | [], _, _, _ => rfl
 | p :: d1, d2, h, hn => by
  rw [patch, patch_comm d1 d2 _ (fun q hq => hn q (List.mem_cons_of_mem _ hq)), patch_set d2 h (fun q hq e => hn p List.mem_cons_self q hq e.symm), patch]

theorem meddle_wr {x y : Note} (h : meddle x y = false) : (∀ n ∈ x.wr, n ∉ y.rd ∧ n ∉ y.wr) ∧ (∀ n ∈ y.wr, n ∉ x.rd ∧ n ∉ x.wr) := by
 simp only [meddle, Bool.or_eq_false_iff] at h
 obtain ⟨⟨_, h1⟩, h2⟩ := h
 have k1 : ∀ n ∈ x.wr, n ∉ y.rd ∧ n ∉ y.wr := fun n hn => by
  have := List.any_eq_false.1 h1 n hn
  simpa using this
 refine ⟨k1, fun n hn => ⟨?_, fun hx => (k1 n hx).2 hn⟩⟩
 have := List.any_eq_false.1 h2 n hn
 simpa using this
theorem meddle_all {x y : Note} (h : meddle x y = false) (hx : x.all = true) : y.all = false ∧ y.rd = [] ∧ y.wr = [] := by
 simp only [meddle, Bool.or_eq_false_iff, hx, Bool.true_and] at h
 obtain ⟨⟨⟨h0, _⟩, _⟩, _⟩ := h
 simp at h0
 exact ⟨h0.1.1, h0.1.2, h0.2⟩
theorem meddle_comm (x y : Note) : meddle x y = meddle y x := by
 have key : ∀ x y : Note, meddle x y = false → meddle y x = false := fun x y h => by
  have hw := meddle_wr h
  have ha : (y.all && (x.all || !x.rd.isEmpty || !x.wr.isEmpty)) = false ∧ (x.all && (!y.rd.isEmpty || !y.wr.isEmpty)) = false := by
   simp only [meddle, Bool.or_eq_false_iff] at h
   obtain ⟨⟨⟨h0, h3⟩, _⟩, _⟩ := h
   cases hx : x.all <;> cases hy : y.all <;> simp [hx, hy] at h0 h3 ⊢ <;> first | exact h3 | exact h0
  simp only [meddle, Bool.or_eq_false_iff]
  refine ⟨⟨ha, List.any_eq_false.2 fun n hn => ?_⟩, List.any_eq_false.2 fun n hn => ?_⟩
  ·have := hw.2 n hn; simpa using this
  ·have := (hw.1 n hn).1; simpa using this
 cases h : meddle x y with
 | false => exact (key x y h).symm
 | true =>
  cases h2 : meddle y x with
  | true => rfl
  | false => rw [key y x h2] at h; cases h

theorem swap {i j : Nat} {oi oj : Oper} (hi : ops[i]? = some oi) (hj : ops[j]? = some oj) (ha : oi.apart ops oj = true) {st st1 st2 : St} {n1 n2 : List Note} (h1 : Step1 cx cl ops base i st st1 n1) (h2 : Step1 cx cl ops base j st1 st2 n2)
    (hm : ∀ x ∈ n1, ∀ y ∈ n2, meddle x y = false) : ∃ st1', Step1 cx cl ops base j st st1' n2 ∧ Step1 cx cl ops base i st1' st2 n1 := by
 obtain ⟨a1, a2, a3⟩ := Oper.apart_spec ha
 cases h1 with
 | skip o g1 g2 =>
  rw [hi] at g1; injection g1 with g1; subst g1
  cases h2 with
  | skip o k1 k2 =>
   rw [hj] at k1; injection k1 with k1; subst k1
   refine ⟨_, .skip oj hj ((guardV_apart a1).symm.trans k2), ?_⟩
   have := Step1.skip (cx := cx) (cl := cl) (base := base) (st := ⟨putV st.env oj.dst (.tup []), st.heap, st.fb⟩) oi hi ((guardV_apart a3).trans g2)
   rw [show putV (putV st.env oi.dst (.tup [])) oj.dst (.tup []) = putV (putV st.env oj.dst (.tup [])) oi.dst (.tup []) from putV_comm a2]
   exact this
  | run o v h' n k1 k2 k3 =>
   rw [hj] at k1; injection k1 with k1; subst k1
   have k3' : Done cx cl base j oj st.env st.heap v h' n := by
    cases k3 with
    | op e q1 q2 q3 => exact .op e ((inlE_env (opv_apart a1)).symm.trans q1) ((opE_env (opv_apart a1)).symm.trans q2) q3
    | inl fn f as rs h' q1 q2 => exact .inl fn f as rs h' ((inlE_env (opv_apart a1)).symm.trans q1) q2
   refine ⟨_, .run oj v h' n hj ((guardV_apart a1).symm.trans k2) k3', ?_⟩
   have := Step1.skip (cx := cx) (cl := cl) (base := base) (st := ⟨putV st.env oj.dst v, h', st.fb⟩) oi hi ((guardV_apart a3).trans g2)
   rw [show putV (putV st.env oi.dst (.tup [])) oj.dst v = putV (putV st.env oj.dst v) oi.dst (.tup []) from putV_comm a2]
   exact this
 | run o v h' n g1 g2 g3 =>
  rw [hi] at g1; injection g1 with g1; subst g1
  cases h2 with
  | skip o k1 k2 =>
   rw [hj] at k1; injection k1 with k1; subst k1
   refine ⟨_, .skip oj hj ((guardV_apart a1).symm.trans k2), ?_⟩
   have g3' : Done cx cl base i oi (putV st.env oj.dst (.tup [])) st.heap v h' n := by
    cases g3 with
    | op e q1 q2 q3 => exact .op e ((inlE_env (opv_apart a3)).trans q1) ((opE_env (opv_apart a3)).trans q2) q3
    | inl fn f as rs h' q1 q2 => exact .inl fn f as rs h' ((inlE_env (opv_apart a3)).trans q1) q2
   have := Step1.run (st := ⟨putV st.env oj.dst (.tup []), st.heap, st.fb⟩) oi v h' n hi ((guardV_apart a3).trans g2) g3'
   rw [show putV (putV st.env oi.dst v) oj.dst (.tup []) = putV (putV st.env oj.dst (.tup [])) oi.dst v from putV_comm a2]
   exact this
  | run o u h'' m k1 k2 k3 =>
   rw [hj] at k1; injection k1 with k1; subst k1
   have hnm := hm n (List.mem_singleton.2 rfl) m (List.mem_singleton.2 rfl)
   have hmn : meddle m n = false := by rw [meddle_comm]; exact hnm
   have fin : ∀ hx, Done cx cl base j oj st.env st.heap u hx m → Done cx cl base i oi (putV st.env oj.dst u) hx v h'' n → ∃ st1', Step1 cx cl ops base j st st1' [m] ∧ Step1 cx cl ops base i st1' ⟨putV (putV st.env oi.dst v) oj.dst u, h'', st.fb⟩ [n] := fun hx d1 d2 => by
    refine ⟨_, .run oj u hx m hj ((guardV_apart a1).symm.trans k2) d1, ?_⟩
    have := Step1.run (st := ⟨putV st.env oj.dst u, hx, st.fb⟩) oi v h'' n hi ((guardV_apart a3).trans g2) d2
    rw [show putV (putV st.env oi.dst v) oj.dst u = putV (putV st.env oj.dst u) oi.dst v from putV_comm a2]
    exact this
   cases g3 with
   | op e q1 q2 q3 =>
    obtain ⟨dl, l1, l2, l3⟩ := opE_local q2
    have d2 : ∀ hx, (∀ n ∈ e.rd, lk hx n = lk st.heap n) → Done cx cl base i oi (putV st.env oj.dst u) hx e.val (patch hx dl) ⟨i, e.rd, e.wr, false⟩ := fun hx hh =>
     Done.op (cx := cx) (cl := cl) (base := base) (i := i) (o := oi) (env := putV st.env oj.dst u) (h := hx) ⟨e.ok, e.val, patch hx dl, e.rd, e.wr⟩ ((inlE_env (opv_apart a3)).trans q1) ((opE_env (opv_apart a3)).trans (l3 hx hh)) q3
    cases k3 with
    | op e2 r1 r2 r3 =>
     have r2' := (opE_env (opv_apart a1)).symm.trans r2
     obtain ⟨dl2, m1, m2, m3⟩ := opE_local r2'
     have hw := meddle_wr hnm
     have e1 := m3 st.heap (fun n hn => by
      simp only [l1]
      exact (lk_patch dl st.heap n (fun p hp e => (hw.1 p.1 (l2 p hp).1).1 (e ▸ hn))).symm)
     refine fin (patch st.heap dl2) ?_ ?_
     ·exact Done.op (cx := cx) (cl := cl) (base := base) (i := j) (o := oj) (env := st.env) (h := st.heap) ⟨e2.ok, e2.val, patch st.heap dl2, e2.rd, e2.wr⟩ ((inlE_env (opv_apart a1)).symm.trans r1) e1 r3
     ·have := d2 (patch st.heap dl2) (fun n hn => lk_patch dl2 st.heap n (fun p hp e => (hw.2 p.1 (m2 p hp).1).1 (e ▸ hn)))
      rw [show e2.heap = patch (patch st.heap dl2) dl from by
       rw [m1]
       simp only [l1]
       exact patch_comm dl dl2 st.heap (fun p hp q hq e => (hw.1 p.1 (l2 p hp).1).2 (e ▸ (m2 q hq).1))]
      exact this
    | inl fn f as rs h' r1 r2 =>
     obtain ⟨_, hr, hwr⟩ := meddle_all hmn rfl
     simp only at hr hwr
     have hdl : dl = [] := by
      cases dl with
      | nil => rfl
      | cons p dl => have := (l2 p List.mem_cons_self).1; rw [hwr] at this; cases this
     subst hdl
     have hh : e.heap = st.heap := l1
     simp only [hh] at r2
     have := d2 h'' (fun n hn => by rw [hr] at hn; cases hn)
     exact fin h'' (.inl fn f as rs h'' ((inlE_env (opv_apart a1)).symm.trans r1) r2) this
   | inl fn f as rs h0 q1 q2 =>
    obtain ⟨hall, hr, hwr⟩ := meddle_all hnm rfl
    cases k3 with
    | inl fn2 f2 as2 rs2 h2 r1 r2 => cases hall
    | op e2 r1 r2 r3 =>
     have r2' := (opE_env (opv_apart a1)).symm.trans r2
     obtain ⟨dl2, m1, m2, m3⟩ := opE_local r2'
     simp only at hr hwr
     have hdl : dl2 = [] := by
      cases dl2 with
      | nil => rfl
      | cons p dl => have := (m2 p List.mem_cons_self).1; rw [hwr] at this; cases this
     subst hdl
     have e1 := m3 st.heap (fun n hn => by rw [hr] at hn; cases hn)
     have hh : e2.heap = h' := m1
     refine fin st.heap ?_ ?_
     ·exact Done.op (cx := cx) (cl := cl) (base := base) (i := j) (o := oj) (env := st.env) (h := st.heap) ⟨e2.ok, e2.val, st.heap, e2.rd, e2.wr⟩ ((inlE_env (opv_apart a1)).symm.trans r1) e1 r3
     ·rw [hh]
      exact .inl fn f as rs h' ((inlE_env (opv_apart a3)).trans q1) q2
end
end Go.Eng
/- A region's operations in any order that its edges leave free. -/
set_option linter.unusedVariables false
set_option linter.unusedSimpArgs false
namespace Go.Eng
open Go Go.RowKit

def bit (bs : Array Nat) (a b : Nat) : Bool := (bs.getD a 0).testBit b

def Topo (bs : Array Nat) (l : List Nat) : Prop := l.Pairwise fun a b => ¬ (b < a ∧ bit bs a b = true)

def Free (bs : Array Nat) (i j : Nat) : Prop := bit bs (max i j) (min i j) = false

structure Sound (bs : Array Nat) (ops : Array Oper) (ns : List Note) : Prop where
 notes : ∀ x ∈ ns, ∀ y ∈ ns, x.i ≠ y.i → Free bs x.i y.i → meddle x y = false
 apart : ∀ i j oi oj, ops[i]? = some oi → ops[j]? = some oj → i ≠ j → Free bs i j → oi.apart ops oj = true

section
variable {cx : Cx} {cl : CL} {ops : Array Oper} {base : Nat} {bs : Array Nat}

theorem Step1.notes {i : Nat} {st st' : St} {ns : List Note} (h : Step1 cx cl ops base i st st' ns) : ∀ x ∈ ns, x.i = i := by
 cases h with
 | skip => intro x hx; cases hx
 | run o v h' n h1 h2 h3 =>
  intro x hx
  obtain rfl := List.mem_singleton.1 hx
  cases h3 <;> rfl
theorem Step1.at_ {i : Nat} {st st' : St} {ns : List Note} (h : Step1 cx cl ops base i st st' ns) : ∃ o, ops[i]? = some o := by
 cases h with
 | skip o h1 => exact ⟨o, h1⟩
 | run o v h' n h1 => exact ⟨o, h1⟩

theorem Free.symm {i j : Nat} (h : Free bs i j) : Free bs j i := by unfold Free at *; rwa [Nat.max_comm, Nat.min_comm]

theorem front {j : Nat} {l2 : List Nat} : ∀ (l1 : List Nat) (st st' : St) (ns : List Note), Exec cx cl ops base (l1 ++ j :: l2) st st' ns → Sound bs ops ns → (∀ i ∈ l1, i ≠ j ∧ Free bs i j) →
    ∃ st1 n1 n2, Step1 cx cl ops base j st st1 n1 ∧ Exec cx cl ops base (l1 ++ l2) st1 st' n2 ∧ ∀ x, x ∈ n1 ++ n2 ↔ x ∈ ns
 | [], st, st', ns, h, _, _ => by
  cases h with
  | cons h1 h2 => exact ⟨_, _, _, h1, h2, fun x => Iff.rfl⟩
 | i :: l1, st, st', ns, h, hs, hf => by
  cases h with
  | cons h1 h2 =>
   rename_i stm n1 n2
   obtain ⟨st1, m1, m2, k1, k2, k3⟩ := front l1 _ _ _ h2 ⟨fun x hx y hy => hs.notes x (List.mem_append.2 (.inr hx)) y (List.mem_append.2 (.inr hy)), hs.apart⟩ (fun q hq => hf q (List.mem_cons_of_mem _ hq))
   obtain ⟨hne, hfr⟩ := hf i List.mem_cons_self
   obtain ⟨oi, hoi⟩ := h1.at_
   obtain ⟨oj, hoj⟩ := k1.at_
   obtain ⟨sw, s1, s2⟩ := swap hoi hoj (hs.apart i j oi oj hoi hoj hne hfr) h1 k1 (fun x hx y hy => by
    have ex := h1.notes x hx
    have ey := k1.notes y hy
    exact hs.notes x (List.mem_append.2 (.inl hx)) y (List.mem_append.2 (.inr ((k3 y).1 (List.mem_append.2 (.inl hy))))) (by rw [ex, ey]; exact hne) (by rw [ex, ey]; exact hfr))
   refine ⟨sw, m1, n1 ++ m2, s1, .cons s2 k2, fun x => ?_⟩
   have := k3 x
   simp only [List.mem_append] at this ⊢
   constructor
   ·rintro (h | h | h)
    ·exact .inr (this.1 (.inl h))
    ·exact .inl h
    ·exact .inr (this.1 (.inr h))
   ·rintro (h | h)
    ·exact .inr (.inl h)
    ·rcases this.2 h with h | h
     ·exact .inl h
     ·exact .inr (.inr h)

theorem reorder : ∀ (σ l : List Nat) (st st' : St) (ns : List Note), Exec cx cl ops base l st st' ns → Sound bs ops ns → l.Nodup → σ.Nodup → (∀ x, x ∈ σ ↔ x ∈ l) → Topo bs l → Topo bs σ →
    ∃ ns', Exec cx cl ops base σ st st' ns' ∧ ∀ x, x ∈ ns' ↔ x ∈ ns
 | [], l, st, st', ns, h, _, _, _, hm, _, _ => by
  have : l = [] := by
   cases l with
   | nil => rfl
   | cons x l => have := (hm x).2 List.mem_cons_self; cases this
  subst this
  exact ⟨ns, h, fun _ => Iff.rfl⟩
 | j :: σ, l, st, st', ns, h, hs, hl, hσ, hm, tl, tσ => by
  obtain ⟨l1, l2, rfl⟩ := List.append_of_mem ((hm j).1 List.mem_cons_self)
  have hnd := List.nodup_append.1 hl
  have hj1 : ∀ i ∈ l1, i ≠ j := fun i hi => hnd.2.2 i hi j List.mem_cons_self
  have hj2 : ∀ i ∈ l2, i ≠ j := fun i hi e => (List.nodup_cons.1 hnd.2.1).1 (e ▸ hi)
  have hjσ := List.nodup_cons.1 hσ
  have hpl := List.pairwise_append.1 tl
  have hpσ := List.pairwise_cons.1 tσ
  have hmem : ∀ x, x ∈ σ ↔ x ∈ l1 ++ l2 := fun x => by
   have := hm x
   simp only [List.mem_cons, List.mem_append] at this ⊢
   constructor
   ·intro hx
    have hne : x ≠ j := fun e => hjσ.1 (e ▸ hx)
    rcases this.1 (.inr hx) with h | h | h
    ·exact .inl h
    ·exact absurd h hne
    ·exact .inr h
   ·intro hx
    have hne : x ≠ j := by rcases hx with h | h
                           ·exact hj1 x h
                           ·exact hj2 x h
    rcases this.2 (by rcases hx with h | h
                      ·exact .inl h
                      ·exact .inr (.inr h)) with h | h
    ·exact absurd h hne
    ·exact h
  obtain ⟨st1, n1, n2, k1, k2, k3⟩ := front l1 _ _ _ h hs (fun i hi => by
   refine ⟨hj1 i hi, ?_⟩
   have h1 := hpl.2.2 i hi j List.mem_cons_self
   have h2 := hpσ.1 i ((hmem i).2 (List.mem_append.2 (.inl hi)))
   unfold Free
   rcases Nat.lt_or_ge i j with h | h
   ·rw [Nat.max_eq_right (Nat.le_of_lt h), Nat.min_eq_left (Nat.le_of_lt h)]
    cases hb : bit bs j i with
    | false => rfl
    | true => exact absurd ⟨h, hb⟩ h2
   ·have h' : j < i := Nat.lt_of_le_of_ne h (Ne.symm (hj1 i hi))
    rw [Nat.max_eq_left h, Nat.min_eq_right h]
    cases hb : bit bs i j with
    | false => rfl
    | true => exact absurd ⟨h', hb⟩ h1)
  have hsub : (l1 ++ l2).Sublist (l1 ++ j :: l2) := List.Sublist.append (List.Sublist.refl _) (List.sublist_cons_self _ _)
  obtain ⟨ns', q1, q2⟩ := reorder σ (l1 ++ l2) st1 st' n2 k2 ⟨fun x hx y hy => hs.notes x ((k3 x).1 (List.mem_append.2 (.inr hx))) y ((k3 y).1 (List.mem_append.2 (.inr hy))), hs.apart⟩ (hl.sublist hsub) hjσ.2 hmem (tl.sublist hsub) hpσ.2
  refine ⟨n1 ++ ns', .cons k1 q1, fun x => ?_⟩
  rw [← k3 x]
  simp only [List.mem_append, q2 x]
end

theorem notes_sound {bs : Array Nat} : ∀ (ns : List Note), notesOk bs ns = true → ∀ x ∈ ns, ∀ y ∈ ns, x.i ≠ y.i → Free bs x.i y.i → meddle x y = false
 | [], _, x, hx, _, _, _, _ => by cases hx
 | z :: r, h, x, hx, y, hy, hne, hf => by
  simp only [notesOk, Bool.and_eq_true, List.all_eq_true, Bool.or_eq_true, Bool.not_eq_true'] at h
  have one : ∀ y ∈ r, Free bs z.i y.i → meddle z y = false := fun y hy hf => by
   rcases h.1 y hy with h1 | h1
   ·unfold Free bit at hf; rw [hf] at h1; cases h1
   ·exact h1
  rcases List.mem_cons.1 hx with e1 | hx' <;> rcases List.mem_cons.1 hy with e2 | hy'
  ·exact absurd (by rw [e1, e2]) hne
  ·rw [e1] at hf ⊢; exact one y hy' hf
  ·rw [e2] at hf ⊢; rw [meddle_comm]; exact one x hx' hf.symm
  ·exact notes_sound r h.2 x hx' y hy' hne hf
end Go.Eng
/- The orders in which a drawn region's operations may go. -/
set_option linter.unusedVariables false
set_option linter.unusedSimpArgs false
namespace Go.Eng
open Go Go.RowKit

theorem pushes (f : Array Nat → Oper → Nat) : ∀ (l : List Oper) (acc : Array Nat),
    (∀ k, k < acc.size → (l.foldl (fun a o => a.push (f a o)) acc).getD k 0 = acc.getD k 0) ∧ (l.foldl (fun a o => a.push (f a o)) acc).size = acc.size + l.length ∧
     ∀ k o, l[k]? = some o → ∃ a : Array Nat, a.size = acc.size + k ∧ (∀ m, m < a.size → a.getD m 0 = (l.foldl (fun a o => a.push (f a o)) acc).getD m 0) ∧ (l.foldl (fun a o => a.push (f a o)) acc).getD (acc.size + k) 0 = f a o
 | [], acc => ⟨fun _ _ => rfl, rfl, fun k o h => by cases h⟩
 | x :: l, acc => by
  obtain ⟨h1, h2, h3⟩ := pushes f l (acc.push (f acc x))
  simp only [List.foldl_cons]
  have h0 : ∀ k, k < acc.size → (acc.push (f acc x)).getD k 0 = acc.getD k 0 := fun k hk => by
   simp [hk, Nat.lt_succ_of_lt hk, Array.getElem_push]
  refine ⟨fun k hk => (h1 k (by simp; omega)).trans (h0 k hk), by rw [h2]; simp; omega, fun k o hk => ?_⟩
  cases k with
  | zero =>
   simp only [List.getElem?_cons_zero, Option.some.injEq] at hk
   subst hk
   refine ⟨acc, rfl, fun m hm => ((h1 m (by simp; omega)).trans (h0 m hm)).symm, ?_⟩
   rw [Nat.add_zero, h1 acc.size (by simp)]
   simp
  | succ k =>
   obtain ⟨a, g1, g2, g3⟩ := h3 k o (by simpa using hk)
   refine ⟨a, by rw [g1]; simp; omega, g2, ?_⟩
   rw [← g3]; congr 1; simp; omega

theorem bits_fold (acc : Array Nat) : ∀ (es : List Edge) (s b : Nat), (es.foldl (fun s e => if Region.binds .any e then s ||| 2 ^ e.on ||| acc.getD e.on 0 else s) s).testBit b = true →
    s.testBit b = true ∨ ∃ e ∈ es, Region.binds .any e = true ∧ (b = e.on ∨ (acc.getD e.on 0).testBit b = true)
 | [], s, b, h => .inl h
 | e :: es, s, b, h => by
  simp only [List.foldl_cons] at h
  rcases bits_fold acc es _ b h with h1 | ⟨e', h2, h3⟩
  ·by_cases hb : Region.binds .any e = true
   ·rw [if_pos hb, Nat.testBit_or, Nat.testBit_or, Nat.testBit_two_pow] at h1
    simp only [Bool.or_eq_true, decide_eq_true_eq] at h1
    rcases h1 with (h1 | h1) | h1
    ·exact .inl h1
    ·exact .inr ⟨e, List.mem_cons_self, hb, .inl h1.symm⟩
    ·exact .inr ⟨e, List.mem_cons_self, hb, .inr h1⟩
   ·rw [if_neg hb] at h1; exact .inl h1
  ·exact .inr ⟨e', List.mem_cons_of_mem _ h2, h3⟩

theorem before_bits {ops : Array Oper} {i b : Nat} {o : Oper} (ho : ops[i]? = some o) (hb : bit (Region.before ops) i b = true) :
    ∃ e ∈ o.after, Region.binds .any e = true ∧ (b = e.on ∨ (e.on < i ∧ bit (Region.before ops) e.on b = true)) := by
 unfold bit at hb
 unfold Region.before at hb ⊢
 rw [← Array.foldl_toList] at hb ⊢
 obtain ⟨_, _, h3⟩ := pushes (fun acc o => o.after.foldl (fun s e => if Region.binds .any e then s ||| 2 ^ e.on ||| acc.getD e.on 0 else s) 0) ops.toList #[]
 obtain ⟨a, g1, g2, g3⟩ := h3 i o (by simpa using ho)
 simp only [List.size_toArray, List.length_nil, Nat.zero_add] at g1 g3
 rw [g3, ← Array.foldl_toList] at hb
 rcases bits_fold a o.after.toList 0 b hb with h | ⟨e, he, hbe, h⟩
 ·simp at h
 ·refine ⟨e, Array.mem_toList_iff.1 he, hbe, ?_⟩
  rcases h with h | h
  ·exact .inl h
  ·right
   have hlt : e.on < i := by
    rcases Nat.lt_or_ge e.on i with h1 | h1
    ·exact h1
    ·have : a.getD e.on 0 = 0 := by simp [show ¬ e.on < a.size by omega]
     rw [this] at h; simp at h
   refine ⟨hlt, ?_⟩
   unfold bit
   rw [← g2 e.on (by omega)]
   exact h

section
variable {ops : Array Oper}

def Edges (ops : Array Oper) : Prop := ∀ i o, ops[i]? = some o → ∀ e ∈ o.after, Region.binds .any e = true → e.on < i

def Closed (ops : Array Oper) (listed : Array Bool) : Prop := ∀ a b, listed.getD a false = true → bit (Region.before ops) a b = true → listed.getD b false = true

theorem linearised (hE : Edges ops) : ∀ (fuel t : Nat) (listed : Array Bool), listed.size = ops.size → Closed ops listed → (List.range ops.size).countP (fun x => !listed.getD x true) ≤ fuel →
    (Region.linearise.go .any ops fuel t listed []).Nodup ∧ (∀ x, x ∈ Region.linearise.go .any ops fuel t listed [] ↔ x < ops.size ∧ listed.getD x true = false) ∧ Topo (Region.before ops) (Region.linearise.go .any ops fuel t listed [])
 | 0, t, listed, hn, hc, hf => by
  simp only [Region.linearise.go, List.reverse_nil]
  refine ⟨List.nodup_nil, fun x => ⟨(by intro h; cases h), fun ⟨h1, h2⟩ => ?_⟩, List.Pairwise.nil⟩
  have := List.countP_eq_zero.1 (Nat.le_zero.1 hf) x (List.mem_range.2 h1)
  rw [h2] at this; simp at this
 | fuel + 1, t, listed, hn, hc, hf => by
  simp only [Region.linearise.go]
  change (match (Region.ready .any ops listed)[t % (Region.ready .any ops listed).length]? with
   | some i => Region.linearise.go .any ops fuel (t / (Region.ready .any ops listed).length) (listed.setIfInBounds i true) [i]
   | none => [].reverse).Nodup ∧ _ ∧ _
  change _ ∧ (∀ x, x ∈ (match (Region.ready .any ops listed)[t % (Region.ready .any ops listed).length]? with
   | some i => Region.linearise.go .any ops fuel (t / (Region.ready .any ops listed).length) (listed.setIfInBounds i true) [i]
   | none => [].reverse) ↔ _) ∧ Topo _ (match (Region.ready .any ops listed)[t % (Region.ready .any ops listed).length]? with
   | some i => Region.linearise.go .any ops fuel (t / (Region.ready .any ops listed).length) (listed.setIfInBounds i true) [i]
   | none => [].reverse)
  cases hi : (Region.ready .any ops listed)[t % (Region.ready .any ops listed).length]? with
  | none =>
   have hnil : Region.ready .any ops listed = [] := by
    cases hr : Region.ready .any ops listed with
    | nil => rfl
    | cons x xs =>
     rw [hr] at hi
     have hlt : t % (x :: xs).length < (x :: xs).length := Nat.mod_lt _ (by simp)
     rw [List.getElem?_eq_getElem hlt] at hi
     cases hi
   have all : ∀ x, x < ops.size → listed.getD x true = true := by
    intro x
    induction x using Nat.strongRecOn with
    | _ x ih =>
     intro hx
     cases hl : listed.getD x true with
     | true => rfl
     | false =>
      have hrd : x ∈ Region.ready .any ops listed := mem_ready.2 ⟨hl, ops[x], Array.getElem?_eq_getElem hx, fun e he hb => by
       have hlt := hE x _ (Array.getElem?_eq_getElem hx) e he hb
       have := ih e.on hlt (by omega)
       have hlt2 : e.on < listed.size := by omega
       simpa [hlt2] using this⟩
      rw [hnil] at hrd; cases hrd
   refine ⟨List.nodup_nil, fun x => ⟨(by intro h; simp at h), fun ⟨h1, h2⟩ => ?_⟩, List.Pairwise.nil⟩
   rw [all x h1] at h2; cases h2
  | some i =>
   simp only []
   rw [linearise_go_acc, List.reverse_singleton, List.singleton_append]
   have hrd : i ∈ Region.ready .any ops listed := List.mem_of_getElem? hi
   obtain ⟨hun, o, ho, hall⟩ := mem_ready.1 hrd
   have hlt : i < ops.size := (Array.getElem?_eq_some_iff.1 ho).1
   have anc : ∀ b, bit (Region.before ops) i b = true → listed.getD b false = true := fun b hb => by
    obtain ⟨e, he, hbe, h | ⟨_, h⟩⟩ := before_bits ho hb
    ·rw [h]; exact hall e he hbe
    ·exact hc _ _ (hall e he hbe) h
   have hc' : Closed ops (listed.setIfInBounds i true) := fun a b ha hb => by
    by_cases h : a = i
    ·subst h; exact getD_set_true (anc b hb)
    ·rw [getD_set_ne false (Ne.symm h)] at ha
     exact getD_set_true (hc a b ha hb)
   have hcnt : (List.range ops.size).countP (fun x => !(listed.setIfInBounds i true).getD x true) ≤ fuel := by
    have hsplit : (List.range ops.size).countP (fun x => !(listed.setIfInBounds i true).getD x true) < (List.range ops.size).countP (fun x => !listed.getD x true) := by
     have key : ∀ l : List Nat, l.Nodup → i ∈ l → l.countP (fun x => !(listed.setIfInBounds i true).getD x true) < l.countP (fun x => !listed.getD x true) := by
      intro l
      induction l with
      | nil => intro _ h; cases h
      | cons x l ih =>
       intro hnd hmem
       have hnd' := List.nodup_cons.1 hnd
       have le : ∀ l : List Nat, l.countP (fun x => !(listed.setIfInBounds i true).getD x true) ≤ l.countP (fun x => !listed.getD x true) := fun l => by
        refine List.countP_mono_left (fun x _ hx => ?_)
        by_cases h : x = i
        ·subst h; rw [hun]; rfl
        ·rw [getD_set_ne true (Ne.symm h)] at hx; exact hx
       by_cases h : x = i
       ·subst h
        rw [List.countP_cons_of_neg, List.countP_cons_of_pos]
        ·exact Nat.lt_succ_of_le (le l)
        ·rw [hun]; rfl
        ·simp [show x < listed.size by omega]
       ·have hm : i ∈ l := by
          rcases List.mem_cons.1 hmem with h' | h'
          ·exact absurd h'.symm h
          ·exact h'
        have := ih hnd'.2 hm
        simp only [List.countP_cons, getD_set_ne true (Ne.symm h)]
        omega
     exact key _ List.nodup_range (List.mem_range.2 hlt)
    omega
   obtain ⟨k1, k2, k3⟩ := linearised hE fuel (t / (Region.ready .any ops listed).length) (listed.setIfInBounds i true) (by simpa using hn) hc' hcnt
   refine ⟨List.nodup_cons.2 ⟨fun h => ?_, k1⟩, fun x => ?_, List.pairwise_cons.2 ⟨fun x hx h => ?_, k3⟩⟩
   ·have := ((k2 i).1 h).2
    simp [show i < listed.size by omega] at this
   ·rw [List.mem_cons, k2 x]
    by_cases h : x = i
    ·subst h; simp [hlt, hun]
    ·rw [getD_set_ne true (Ne.symm h)]; simp [h]
   ·have h1 := ((k2 x).1 hx).2
    have h2 := getD_set_true (i := i) (anc x h.2)
    have hlt2 : x < listed.size := by have := ((k2 x).1 hx).1; omega
    have : (listed.setIfInBounds i true).getD x true = (listed.setIfInBounds i true).getD x false := by simp [hlt2]
    rw [this, h2] at h1; cases h1

theorem orderOk_spec {bs : Array Nat} (h : orderOk ops bs = true) : Edges ops ∧ ∀ i j oi oj, ops[i]? = some oi → ops[j]? = some oj → i ≠ j → Free bs i j → oi.apart ops oj = true := by
 have one : ∀ j oj, ops[j]? = some oj → (∀ e ∈ oj.after, Region.binds .any e = true → e.on < j) ∧ ∀ i oi, ops[i]? = some oi → i < j → bit bs j i = false → oi.apart ops oj = true := fun j oj hj => by
  have hlt := (Array.getElem?_eq_some_iff.1 hj).1
  have h1 := List.all_eq_true.1 h j (List.mem_range.2 hlt)
  simp only [hj, Bool.and_eq_true, List.all_eq_true, Bool.or_eq_true, Bool.not_eq_true', decide_eq_true_eq] at h1
  refine ⟨fun e he hb => ?_, fun i oi hi hij hb => ?_⟩
  ·rcases h1.1 e (Array.mem_toList_iff.2 he) with h2 | h2
   ·rw [h2] at hb; cases hb
   ·exact h2
  ·rcases h1.2 i (List.mem_range.2 hij) with h2 | h2
   ·unfold bit at hb; rw [h2] at hb; cases hb
   ·rw [hi] at h2; exact h2
 refine ⟨fun i o ho => (one i o ho).1, fun i j oi oj hi hj hne hf => ?_⟩
 rcases Nat.lt_or_ge i j with h1 | h1
 ·unfold Free at hf
  rw [Nat.max_eq_right (Nat.le_of_lt h1), Nat.min_eq_left (Nat.le_of_lt h1)] at hf
  exact (one j oj hj).2 i oi hi h1 hf
 ·have h' : j < i := Nat.lt_of_le_of_ne h1 (Ne.symm hne)
  unfold Free at hf
  rw [Nat.max_eq_left h1, Nat.min_eq_right h1] at hf
  have := (one i oi hi).2 j oj hj h' hf
  unfold Oper.apart at this ⊢
  obtain ⟨a1, a2, a3⟩ := Oper.apart_spec (x := oj) (y := oi) (ops := ops) (by unfold Oper.apart; exact this)
  cases hdi : oi.dst <;> cases hdj : oj.dst <;> simp
  ·exact a1 _ hdj
  ·exact a3 _ hdi
  ·rename_i d e
   exact ⟨⟨a3 _ hdi, fun he => a2 e hdj (by rw [hdi, he])⟩, a1 _ hdj⟩

theorem range_topo {bs : Array Nat} (hE : Edges ops) (hbs : bs = Region.before ops) : Topo bs (List.range ops.size) := by
 subst hbs
 refine List.Pairwise.imp (fun {a b} hab h => ?_) (List.pairwise_lt_range (n := ops.size))
 omega

theorem drawn {cx : Cx} {cl : CL} {base : Nat} {st st' : St} {ns : List Note} (h : Exec cx cl ops base (List.range ops.size) st st' ns) (hn : notesOk (Region.before ops) ns = true) (ho : orderOk ops (Region.before ops) = true) (t : Nat) :
    ∃ ns', Exec cx cl ops base (Region.schedule true ops t) st st' ns' ∧ (∀ x, x ∈ Region.schedule true ops t ↔ x < ops.size) ∧ (Region.schedule true ops t).Nodup := by
 obtain ⟨hE, hA⟩ := orderOk_spec ho
 obtain ⟨k1, k2, k3⟩ := linearised hE ops.size t (Array.replicate ops.size false) (by simp) (fun a b ha _ => by
  by_cases h : a < ops.size <;> simp [h] at ha) (by refine Nat.le_trans List.countP_le_length ?_; simp)
 have hs : Region.schedule true ops t = Region.linearise.go .any ops ops.size t (Array.replicate ops.size false) [] := by simp [Region.schedule, Region.linearise]
 have hm : ∀ x, x ∈ Region.schedule true ops t ↔ x < ops.size := fun x => by
  rw [hs, k2 x]
  constructor
  ·exact fun h => h.1
  ·exact fun h => ⟨h, by simp [h]⟩
 obtain ⟨ns', q1, _⟩ := reorder (Region.schedule true ops t) (List.range ops.size) st st' ns h ⟨notes_sound ns hn, hA⟩ List.nodup_range (by rw [hs]; exact k1) (fun x => by rw [hm x, List.mem_range]) (range_topo hE rfl) (by rw [hs]; exact k3)
 exact ⟨ns', q1, hm, by rw [hs]; exact k1⟩
end
end Go.Eng
/- A region as a whole. -/
set_option linter.unusedVariables false
set_option linter.unusedSimpArgs false
namespace Go.Eng
open Go Go.RowKit

structure Grow (fb : Nat) (ρ : Rho) (h : Heap) (ρ' : Rho) (h' : Heap) : Prop where
 rho : ∀ n, n < fb → ρ' n = ρ n
 dead : ∀ n, n < fb → lk h n = none → lk h' n = none
 len : fb ≤ h.length → fb ≤ h'.length

theorem Grow.refl (fb : Nat) (ρ : Rho) (h : Heap) : Grow fb ρ h ρ h := ⟨fun _ _ => rfl, fun _ _ h => h, id⟩
theorem Grow.trans {fb : Nat} {r1 r2 r3 : Rho} {h1 h2 h3 : Heap} (x : Grow fb r1 h1 r2 h2) (y : Grow fb r2 h2 r3 h3) : Grow fb r1 h1 r3 h3 :=
 ⟨fun n hn => (y.rho n hn).trans (x.rho n hn), fun n hn h => y.dead n hn (x.dead n hn h), fun h => y.len (x.len h)⟩
theorem Grow.mono {fb fb' : Nat} {ρ ρ' : Rho} {h h' : Heap} (g : Grow fb ρ h ρ' h') (hle : fb' ≤ fb) (hl : fb ≤ h.length) : Grow fb' ρ h ρ' h' :=
 ⟨fun n hn => g.rho n (Nat.lt_of_lt_of_le hn hle), fun n hn => g.dead n (Nat.lt_of_lt_of_le hn hle), fun _ => Nat.le_trans hle (g.len hl)⟩

structure Goes (ok : Nat → Prop) (B0 fb : Nat) (ρ : Rho) (h : Heap) (w : World) (ρ' : Rho) (h' : Heap) (w' : World) : Prop where
 ext : Ext fb (okc ok B0 h ρ) (okc ok B0 h' ρ') ρ ρ' w w'
 grow : Grow fb ρ h ρ' h'

theorem Goes.refl (ok : Nat → Prop) (B0 fb : Nat) (ρ : Rho) (h : Heap) (w : World) : Goes ok B0 fb ρ h w ρ h w := ⟨Ext.refl _ _ _ _, Grow.refl _ _ _⟩
theorem Goes.trans {ok : Nat → Prop} {B0 fb : Nat} {r1 r2 r3 : Rho} {h1 h2 h3 : Heap} {w1 w2 w3 : World} (x : Goes ok B0 fb r1 h1 w1 r2 h2 w2) (y : Goes ok B0 fb r2 h2 w2 r3 h3 w3) : Goes ok B0 fb r1 h1 w1 r3 h3 w3 :=
 ⟨x.ext.trans y.ext, x.grow.trans y.grow⟩

def FW (r : Option Nat) : Fence := { Fence.wide with round := r }
theorem calls_FW {r : Option Nat} {n : Nat} {P : Program} {f : FuncId} {args : Array Value} {w : World} {R : Ending → World → Prop} (h : Calls P f args w R) : CallsIn (FW r) n P f args w R := callsIn_wide (n := n).2 h
theorem FW_calls {r : Option Nat} {n : Nat} {P : Program} {f : FuncId} {args : Array Value} {w : World} {R : Ending → World → Prop} (h : CallsIn (FW r) n P f args w R) : Calls P f args w R := callsIn_wide (n := n).1 h
theorem rows_FW {r : Option Nat} {n : Nat} {P : Program} {row : String} {args : Array Value} {w : World} {R : Value → World → Prop} (h : Rows P row args w R) : RowsIn (FW r) n P row args w R :=
 fun c cs _ => let ⟨v, w', q, s⟩ := h c cs; ⟨v, w', q, stepsIn_wide.2 s⟩
theorem opIn_of {r : Option Nat} {n : Nat} {P : Program} {o : Oper} {a : Act} {w : World} {next : Act → World → Prop} {Q : Exit → Act → World → Prop} (hd : ∀ c, o.op ≠ .defer c) (h : o.wp P a w next Q) : o.wpIn (FW r) n P a w next Q := by
 refine ⟨fun _ _ => trivial, ?_⟩
 show Oper.uponIn (FW r) n P o a next Q (Sem.run P (Oper.semAt r a.eval o) w)
 rw [Oper.semAt_eq r a.eval o hd]
 unfold Oper.wp at h
 generalize (execOp a.eval o).run P w = res at h
 cases res with
 | ok nx w' =>
  cases nx with
  | value v => exact h
  | skip => exact h
  | defer d => exact h
  | enter f args => exact ⟨(by intro h; cases h), calls_FW h⟩
  | row row args => exact ⟨(by intro h; cases h), rows_FW h⟩
  | round => exact h.elim
  | _ => exact h
 | halt hl w' =>
  cases hl with
  | panic v => exact h
  | _ => exact h

def YlSem (P : Program) (cx : Cx) (n : Nat) (as : List Arg) (h : Heap) (rs : List Arg) (h' : Heap) : Prop := ∀ (ok : Nat → Prop) (w0 : World) (ρ : Rho) (w : World) (xs : List Value) (b : Nat), HInv cx ok w0 ρ h w → RAs cx ρ (okc ok w0.heap.size h ρ) w as xs → ρ n = some b →
 YieldAt Fence.wide 0 P b xs.toArray w fun e w' => ∃ x ρ', e = .returned x ∧ Goes ok w0.heap.size h.length ρ h w ρ' h' w' ∧ HInv cx ok w0 ρ' h' w' ∧ RV cx ρ' (okc ok w0.heap.size h' ρ') w' (valOf rs) x
def ClSem (P : Program) (cx : Cx) : CL := fun fn f as h rs h' => match fn.body with
 | none => YlSem P cx f as h rs h'
 | some _ => FnOk P f fn → ∀ (ok : Nat → Prop) (w0 : World) (ρ : Rho) (w : World) (xs : List Value), HInv cx ok w0 ρ h w → RAs cx ρ (okc ok w0.heap.size h ρ) w as xs →
  Calls P f xs.toArray w fun e w' => ∃ x ρ', e = .returned x ∧ Goes ok w0.heap.size h.length ρ h w ρ' h' w' ∧ HInv cx ok w0 ρ' h' w' ∧ RV cx ρ' (okc ok w0.heap.size h' ρ') w' (valOf rs) x
theorem ClSem.fn {P : Program} {cx : Cx} {fn : Func} {f : FuncId} {as rs : List Arg} {h h' : Heap} (q : ClSem P cx fn f as h rs h') (hf : FnOk P f fn) : ∀ (ok : Nat → Prop) (w0 : World) (ρ : Rho) (w : World) (xs : List Value), HInv cx ok w0 ρ h w → RAs cx ρ (okc ok w0.heap.size h ρ) w as xs →
    Calls P f xs.toArray w fun e w' => ∃ x ρ', e = .returned x ∧ Goes ok w0.heap.size h.length ρ h w ρ' h' w' ∧ HInv cx ok w0 ρ' h' w' ∧ RV cx ρ' (okc ok w0.heap.size h' ρ') w' (valOf rs) x := by
 unfold ClSem at q
 have hb := hf.body
 cases h : fn.body with
 | none => rw [h] at hb; cases hb
 | some c => rw [h] at q; exact q hf
theorem ClSem.of {P : Program} {cx : Cx} {fn : Func} {f : FuncId} {as rs : List Arg} {h h' : Heap} {c : Code} (hb : fn.body = some c) (q : FnOk P f fn → ∀ (ok : Nat → Prop) (w0 : World) (ρ : Rho) (w : World) (xs : List Value), HInv cx ok w0 ρ h w → RAs cx ρ (okc ok w0.heap.size h ρ) w as xs →
    Calls P f xs.toArray w fun e w' => ∃ x ρ', e = .returned x ∧ Goes ok w0.heap.size h.length ρ h w ρ' h' w' ∧ HInv cx ok w0 ρ' h' w' ∧ RV cx ρ' (okc ok w0.heap.size h' ρ') w' (valOf rs) x) : ClSem P cx fn f as h rs h' := by
 unfold ClSem; rw [hb]; exact q
theorem ClSem.yl {P : Program} {cx : Cx} {n : Nat} {as rs : List Arg} {h h' : Heap} (q : ClSem P cx yldFn n as h rs h') : YlSem P cx n as h rs h' := q

section
variable {P : Program} {cx : Cx} {ok : Nat → Prop} {w0 : World} {ops : Array Oper}

theorem put_defers (a : Act) (dst : Option Tmp) (v : Value) : (a.put dst v).defers = a.defers := by cases dst <;> rfl
theorem lk_patch_dead {n : Nat} : ∀ (dl : List (Nat × Option Blk)) (h : Heap), (∀ p ∈ dl, p.2 = none ∨ p.1 ≠ n) → lk h n = none → lk (patch h dl) n = none
 | [], _, _, h => h
 | p :: dl, h, hd, hn => by
  rw [patch]
  refine lk_patch_dead dl _ (fun q hq => hd q (List.mem_cons_of_mem _ hq)) ?_
  rw [lk_set]
  split
  ·rename_i hc
   rcases hd p List.mem_cons_self with h1 | h1
   ·exact h1
   ·exact absurd hc.1.symm h1
  ·exact hn

theorem wanted_of {ρ : Rho} {st : St} {a : Act} {w : World} (hi : Inv cx ok w0 ρ st a w) {o : Oper} {b : Bool} (hg : guardV ops st.env o = some b) : Region.wanted o (yielded ops a.tmps) = b := by
 unfold guardV at hg
 unfold Region.wanted
 cases ho : o.guard with
 | none => rw [ho] at hg; simp only at hg; injection hg
 | some gw =>
  obtain ⟨j, want⟩ := gw
  rw [ho] at hg
  simp only at hg ⊢
  cases hd : (ops[j]?).bind (·.dst) with
  | none => rw [hd] at hg; cases hg
  | some d =>
   rw [hd] at hg
   simp only at hg
   split at hg
   ·rename_i t ht
    injection hg with hg
    have hl : d < st.env.length := by
     rcases Nat.lt_or_ge d st.env.length with h1 | h1
     ·exact h1
     ·rw [List.getD_eq_getElem?_getD, List.getElem?_eq_none h1] at ht; cases ht
    have hv := hi.env d hl
    rw [ht] at hv
    have hv' := RV_sc hv
    have hsz : d < a.tmps.size := by rw [hi.size]; exact hl
    have hy : yielded ops a.tmps j = some t := by
     have : a.tmps[d]? = some (.bool t) := by
      have : a.tmps.getD d undef = .bool t := hv'
      simpa [hsz] using this
     unfold yielded
     simp [hd, this]
    rw [hy, ← hg]
    cases t <;> cases want <;> rfl
   ·rename_i ht
    injection hg with hg
    have hl : d < st.env.length := by
     rcases Nat.lt_or_ge d st.env.length with h1 | h1
     ·exact h1
     ·rw [List.getD_eq_getElem?_getD, List.getElem?_eq_none h1] at ht; cases ht
    have hv := hi.env d hl
    rw [ht] at hv
    obtain ⟨xs, hx, hr⟩ := hv
    have hsz : d < a.tmps.size := by rw [hi.size]; exact hl
    have hy : yielded ops a.tmps j = none := by
     have : a.tmps[d]? = some (.tuple xs.toArray) := by
      have : a.tmps.getD d undef = .tuple xs.toArray := hx
      simpa [hsz] using this
     unfold yielded
     simp [hd, this]
    rw [hy, ← hg]
    rfl
   ·cases hg

theorem yldE_run (hcx : CxOk P cx) {ρ : Rho} {st : St} {a : Act} {w : World} (hi : Inv cx ok w0 ρ st a w) {o : Oper} {cl : Call} (ho : o.op = .call cl) {n : Nat} {as : List Arg} (hw : yldE cx st.env cl = some (n, as)) :
    ∃ xs b, ρ n = some b ∧ RAs cx ρ (okc ok w0.heap.size st.heap ρ) w as xs ∧ ∀ fn tmps asg body, (Instr.yield b xs.toArray).run P w = .ok (.round b fn tmps asg body) w → (execOp a.eval o).run P w = .ok (.round b fn tmps asg body) w := by
 unfold yldE at hw
 split at hw
 ·rename_i f hf
  split at hw
  ·rename_i m hop
   split at hw
   ·rename_i as0 has
    injection hw with hw; injection hw with e1 e2; subst e1; subst e2
    have hargs := argsOf_ok hi _ _ _ has
    obtain ⟨b, h1, h2⟩ := op_c hi hop
    refine ⟨cl.args.toList.map a.eval, b, h1, hargs, fun fn tmps asg body hy => ?_⟩
    rw [exec_call ho]
    have e : (#[] ++ cl.args.map a.eval) = (cl.args.toList.map a.eval).toArray := by
     apply Array.toList_inj.1; simp
    simp only [goOf, resolve, hf, h2, Deferred.ofValue, Sem.run_bind, Sem.run_pure, Result.andThen_ok, invoke]
    rw [e]
    exact hy
   ·cases hw
  ·cases hw
 ·cases hw

theorem exec_wp (hcx : CxOk P cx) (hga : GaOk P cx) {base fb : Nat} (hfb : fb ≤ base) {r : Option Nat} {Q : Exit → Act → World → Prop} :
    ∀ (l : List Nat) (st st' : St) (ns : List Note), Exec cx (ClSem P cx) ops base l st st' ns → l.Nodup → ∀ (ρ : Rho) (a : Act) (w : World), Inv cx ok w0 ρ st a w → (∀ i ∈ l, ρ (base + i) = none ∧ lk st.heap (base + i) = none ∧ base + i < st.heap.length) →
     (∀ ρ' a' w', Inv cx ok w0 ρ' st' a' w' → Goes ok w0.heap.size fb ρ st.heap w ρ' st'.heap w' → a'.defers = a.defers → Q .normal a' w') → wpOpsIn (FW r) 0 P ops Q l a w
 | [], st, st', ns, h, _, ρ, a, w, hi, _, hQ => by
  cases h
  exact hQ ρ a w hi (Goes.refl _ _ _ _ _ _) rfl
 | i :: l, st, st', ns, h, hnd, ρ, a, w, hi, hs, hQ => by
  have hnd' := List.nodup_cons.1 hnd
  have hne : ∀ j ∈ l, j ≠ i := fun j hj e => hnd'.1 (e ▸ hj)
  cases h with
  | cons h1 h2 =>
   have ih := exec_wp hcx hga hfb (r := r) (Q := Q) l _ _ _ h2 hnd'.2
   cases h1 with
   | skip o g1 g2 =>
    simp only [wpOpsIn, g1, wanted_of hi g2, Bool.false_eq_true, if_false]
    exact ⟨fun _ _ => trivial, ih ρ _ w (hi.put ⟨[], rfl, rfl, fun j hj => absurd hj (Nat.not_lt_zero j)⟩) (fun j hj => hs j (List.mem_cons_of_mem _ hj)) (fun ρ' a' w' q1 q2 q3 => hQ ρ' a' w' q1 q2 (q3.trans (put_defers _ _ _)))⟩
   | run o v h' n g1 g2 g3 =>
    obtain ⟨s1, s2, s3⟩ := hs i List.mem_cons_self
    simp only [wpOpsIn, g1, wanted_of hi g2, if_true]
    cases g3 with
    | op e q1 q2 q3 =>
     refine opIn_of (fun c hc => by simp [opE, hc] at q2) ?_
     refine op_sim hcx hga hi s1 s3 s2 q2 q3 _ _ (fun ρ' w' x k1 k2 k3 k4 => ?_)
     obtain ⟨dl, l1, l2, _⟩ := opE_local q2
     have hlen : e.heap.length = st.heap.length := by rw [l1, patch_length]
     have hgo : Goes ok w0.heap.size fb ρ st.heap w ρ' e.heap w' := by
      refine ⟨k2 fb, ⟨fun n hn => k1 n (by omega), fun n hn hd => ?_, fun h => by rw [hlen]; exact h⟩⟩
      rw [l1]
      refine lk_patch_dead dl _ (fun p hp => ?_) hd
      rcases (l2 p hp).2 with h | h | h
      ·exact .inl h
      ·right; rw [h]; omega
      ·right; intro e2; rw [e2, hd] at h; cases h
     refine ih ρ' _ w' ((hi.go k2 k3).put k4) (fun j hj => ?_) (fun ρ'' a' w'' r1 r2 r3 => hQ ρ'' a' w'' r1 (hgo.trans r2) (r3.trans (put_defers _ _ _)))
     obtain ⟨t1, t2, t3⟩ := hs j (List.mem_cons_of_mem _ hj)
     have hj' := hne j hj
     refine ⟨by rw [k1 _ (by omega)]; exact t1, ?_, by show base + j < e.heap.length; rw [hlen]; exact t3⟩
     show lk e.heap (base + j) = none
     rw [l1]
     refine lk_patch_dead dl _ (fun p hp => ?_) t2
     rcases (l2 p hp).2 with h | h | h
     ·exact .inl h
     ·right; rw [h]; omega
     ·right; intro e2; rw [e2, t2] at h; cases h
    | inl fn f as rs h' q1 q2 =>
     have fin : ∀ x w' ρ', Goes ok w0.heap.size st.heap.length ρ st.heap w ρ' h' w' → HInv cx ok w0 ρ' h' w' → RV cx ρ' (okc ok w0.heap.size h' ρ') w' (valOf rs) x → wpOpsIn (FW r) 0 P ops Q l (a.put o.dst x) w' := fun x w' ρ' k1 k2 k3 => by
      have hrho : ∀ n b, ρ n = some b → ρ' n = some b := fun n b e => by
       have hn : n < st.heap.length := by
        rcases Nat.lt_or_ge n st.heap.length with h | h
        ·exact h
        ·rw [(hi.fresh n h).1] at e; cases e
       rw [k1.grow.rho n hn]; exact e
      have hext : ∀ N, Ext N (okc ok w0.heap.size st.heap ρ) (okc ok w0.heap.size h' ρ') ρ ρ' w w' := fun N => ⟨fun n b _ e => hrho n b e, k1.ext.cell, k1.ext.okk, k1.ext.room, k1.ext.size⟩
      have hle : fb ≤ st.heap.length := by omega
      have hgo : Goes ok w0.heap.size fb ρ st.heap w ρ' h' w' := ⟨hext fb, k1.grow.mono hle (Nat.le_refl _)⟩
      refine ih ρ' _ w' ((hi.go hext k2).put k3) (fun j hj => ?_) (fun ρ'' a' w'' t1 t2 t3 => hQ ρ'' a' w'' t1 (hgo.trans t2) (t3.trans (put_defers _ _ _)))
      obtain ⟨t1, t2, t3⟩ := hs j (List.mem_cons_of_mem _ hj)
      exact ⟨(k1.grow.rho _ t3).trans t1, k1.grow.dead _ t3 t2, Nat.lt_of_lt_of_le t3 (k1.grow.len (Nat.le_refl _))⟩
     unfold inlE at q1
     split at q1
     ·rename_i c hop
      split at q1
      ·cases q1
      ·split at q1
       ·rename_i fn' f' as' hw
        injection q1 with q1; injection q1 with e1 q1; injection q1 with e2 e3; subst e1; subst e2; subst e3
        obtain ⟨xs, r1, r2, r3⟩ := wayOf_inl hga hi hop hw
        refine opIn_of (fun c' hc => by rw [hop] at hc; cases hc) ?_
        unfold Oper.wp
        rw [r3, Oper.upon_enter]
        refine (q2.fn r1 ok w0 ρ w xs hi.hv r2).mono fun e w' ha => ?_
        obtain ⟨x, ρ', rfl, k1, k2, k3⟩ := ha
        exact fin x w' ρ' k1 k2 k3
       ·cases q1
       ·split at q1
        ·rename_i n as' hy
         injection q1 with q1; injection q1 with e1 q1; injection q1 with e2 e3; subst e1; subst e2; subst e3
         obtain ⟨xs, b, r1, r2, r3⟩ := yldE_run hcx hi hop hy
         obtain ⟨fn, tmps, asg, body, y1, y2⟩ := q2.yl ok w0 ρ w xs b hi.hv r2 r1
         refine ⟨fun _ _ => trivial, ?_⟩
         show Oper.uponIn (FW r) 0 P o a _ Q (Sem.run P (Oper.semAt r a.eval o) w)
         rw [Oper.semAt_eq r a.eval o (fun c' hc => by rw [hop] at hc; cases hc), r3 _ _ _ _ y1, Oper.uponIn_round]
         refine ⟨(by intro h; cases h), RoundIn.mono y2 fun e w' ha => ?_⟩
         obtain ⟨x, ρ', rfl, k1, k2, k3⟩ := ha
         exact fin x w' ρ' k1 k2 k3
        ·cases q1
     ·cases q1

theorem inv_room {ρ : Rho} {st : St} {a : Act} {w : World} (hi : Inv cx ok w0 ρ st a w) (k : Nat) : Inv cx ok w0 ρ ⟨st.env, st.heap ++ List.replicate k none, st.fb⟩ a w := by
 have he : ∀ k', okc ok w0.heap.size st.heap ρ k' ↔ okc ok w0.heap.size (st.heap ++ List.replicate k none) ρ k' := fun k' => by
  unfold okc
  simp only [lk_append]
 have hx : ∀ N, Ext N (okc ok w0.heap.size st.heap ρ) (okc ok w0.heap.size (st.heap ++ List.replicate k none) ρ) ρ ρ w w := fun N => ⟨fun _ _ _ e => e, fun _ _ _ => rfl, fun k' _ h => (he k').1 h, fun _ _ => rfl, Nat.le_refl _⟩
 refine ⟨hi.size, fun t ht => Ext.all_V hx hi.hv.lt (hi.env t ht), fun n b hn => ?_, fun n m b hn hm => ?_, hi.own, fun n hn => hi.fresh n (by simp at hn; omega), hi.below⟩
 ·rw [lk_append] at hn
  exact Ext.all_B hx hi.hv.lt (fun _ _ => rfl) has_keep (hi.heap n b hn)
 ·rw [lk_append] at hn hm; exact hi.inj n m b hn hm
theorem goes_room {ρ : Rho} {h : Heap} {w : World} (k fb : Nat) : Goes ok w0.heap.size fb ρ h w ρ (h ++ List.replicate k none) w :=
 ⟨⟨fun _ _ _ e => e, fun _ _ _ => rfl, fun k' _ hk => ⟨hk.1, fun n hn => hk.2 n (by rwa [lk_append] at hn)⟩, fun _ _ => rfl, Nat.le_refl _⟩, fun _ _ => rfl, fun n _ hn => by rw [lk_append]; exact hn, fun hl => by simp; omega⟩

theorem Inv.drew {ρ : Rho} {st : St} {a : Act} {w : World} (hi : Inv cx ok w0 ρ st a w) : Inv cx ok w0 ρ st a { w with drawn := w.drawn + 1 } := by
 have hx : ∀ N, Ext N (okc ok w0.heap.size st.heap ρ) (okc ok w0.heap.size st.heap ρ) ρ ρ w { w with drawn := w.drawn + 1 } := fun N => ⟨fun _ _ _ e => e, fun _ _ _ => rfl, fun _ _ h => h, fun _ _ => rfl, Nat.le_refl _⟩
 exact ⟨hi.size, fun t ht => Ext.all_V hx hi.hv.lt (hi.env t ht), fun n b hn => Ext.all_B hx hi.hv.lt (fun _ _ => rfl) has_keep (hi.heap n b hn), hi.inj, hi.own, hi.fresh, hi.below.trans ⟨rfl, rfl, rfl, Nat.le_refl _, fun _ _ => rfl⟩⟩

def RegSem (cx : Cx) (P : Program) (ops : Array Oper) (draw : Bool) (st st' : St) : Prop :=
 ∃ ns, Exec cx (ClSem P cx) ops st.heap.length (List.range ops.size) ⟨st.env, st.heap ++ List.replicate ops.size none, st.fb⟩ st' ns ∧ (draw = true → notesOk (Region.before ops) ns.reverse = true ∧ orderOk ops (Region.before ops) = true)

theorem exec_fb {cl : CL} {base : Nat} : ∀ (l : List Nat) (st st' : St) (ns : List Note), Exec cx cl ops base l st st' ns → st'.fb = st.fb ∧ st'.env.length = st.env.length
 | [], _, _, _, h => by cases h; exact ⟨rfl, rfl⟩
 | i :: l, st, st', ns, h => by
  cases h with
  | cons h1 h2 =>
   obtain ⟨k1, k2⟩ := exec_fb l _ _ _ h2
   have hp : ∀ dst v, (putV st.env dst v).length = st.env.length := fun dst v => by cases dst <;> simp [putV]
   cases h1 with
   | skip => exact ⟨k1, k2.trans (hp _ _)⟩
   | run => exact ⟨k1, k2.trans (hp _ _)⟩

theorem region_wp (hcx : CxOk P cx) (hga : GaOk P cx) {r : Option Nat} {draw : Bool} {id : Nat} {st st' : St} (h : RegSem cx P ops draw st st') (hfb : st.fb ≤ st.heap.length) {Q : Exit → Act → World → Prop} {ρ : Rho} {a : Act} {w : World} (hi : Inv cx ok w0 ρ st a w)
    (hQ : ∀ ρ' a' w', Inv cx ok w0 ρ' st' a' w' → Goes ok w0.heap.size st.fb ρ st.heap w ρ' st'.heap w' → a'.defers = a.defers → Q .normal a' w') : (Code.region id ops draw).wpIn (FW r) 0 P Q a w := by
 obtain ⟨ns, h1, h2⟩ := h
 have hs : ∀ i, i < ops.size → ρ (st.heap.length + i) = none ∧ lk (st.heap ++ List.replicate ops.size none) (st.heap.length + i) = none ∧ st.heap.length + i < (st.heap ++ List.replicate ops.size none).length := fun i hlt => by
  refine ⟨(hi.fresh _ (by omega)).1, ?_, by simp; omega⟩
  rw [lk_append]
  unfold lk
  rw [List.getD_eq_getElem?_getD, List.getElem?_eq_none (by omega)]; rfl
 cases draw with
 | false =>
  refine wpIn_region (exec_wp hcx hga hfb _ _ _ _ h1 List.nodup_range ρ a w (inv_room hi ops.size) (fun i hm => hs i (List.mem_range.1 hm)) (fun ρ' a' w' k1 k2 k3 => ?_))
  exact hQ ρ' a' w' k1 ((goes_room _ _).trans k2) k3
 | true =>
  obtain ⟨g1, g2⟩ := h2 rfl
  refine wpIn_region_draw fun t => ?_
  rw [hcx.mixed]
  have hrev : notesOk (Region.before ops) ns.reverse = true := g1
  have hE := orderOk_spec g2
  have hnotes : ∀ x ∈ ns, ∀ y ∈ ns, x.i ≠ y.i → Free (Region.before ops) x.i y.i → meddle x y = false := fun x hx y hy => notes_sound ns.reverse g1 x (List.mem_reverse.2 hx) y (List.mem_reverse.2 hy)
  obtain ⟨k1, k2, k3⟩ := linearised hE.1 ops.size t (Array.replicate ops.size false) (by simp) (fun a b ha _ => by
   by_cases h : a < ops.size <;> simp [h] at ha) (by refine Nat.le_trans List.countP_le_length ?_; simp)
  have hsch : Region.schedule true ops t = Region.linearise.go .any ops ops.size t (Array.replicate ops.size false) [] := by simp [Region.schedule, Region.linearise]
  have hm : ∀ x, x ∈ Region.schedule true ops t ↔ x < ops.size := fun x => by
   rw [hsch, k2 x]
   exact ⟨fun h => h.1, fun h => ⟨h, by simp [h]⟩⟩
  obtain ⟨ns', q1, _⟩ := reorder (Region.schedule true ops t) (List.range ops.size) _ _ ns h1 ⟨hnotes, hE.2⟩ List.nodup_range (by rw [hsch]; exact k1) (fun x => by rw [hm x, List.mem_range]) (range_topo hE.1 rfl) (by rw [hsch]; exact k3)
  refine exec_wp hcx hga hfb _ _ _ _ q1 (by rw [hsch]; exact k1) ρ a _ (inv_room hi ops.size).drew (fun i hi' => hs i ((hm i).1 hi')) (fun ρ' a' w' r1 r2 r3 => ?_)
  have hd : Goes ok w0.heap.size st.fb ρ (st.heap ++ List.replicate ops.size none) w ρ (st.heap ++ List.replicate ops.size none) { w with drawn := w.drawn + 1 } := ⟨⟨fun _ _ _ e => e, fun _ _ _ => rfl, fun _ _ h => h, fun _ _ => rfl, Nat.le_refl _⟩, Grow.refl _ _ _⟩
  exact hQ ρ' a' w' r1 ((goes_room _ _).trans (hd.trans r2)) r3
end
end Go.Eng
/- A round's head: slices made the call's own, names brought back, what is not needed left. -/
set_option linter.unusedVariables false
set_option linter.unusedSimpArgs false
namespace Go.Eng
open Go Go.RowKit

section
variable {P : Program} {cx : Cx} {ok : Nat → Prop} {w0 : World} {ρ : Rho} {st st' : St} {a : Act} {w : World}

def Turns (cx : Cx) (st st' : St) : Prop :=
 st'.fb = st.fb ∧ (st.fb ≤ st.heap.length → st.fb ≤ st'.heap.length) ∧ ∀ (ok : Nat → Prop) (w0 : World) (ρ : Rho) (a : Act) (w : World), Inv cx ok w0 ρ st a w → st.fb ≤ st.heap.length → ∃ ρ', Inv cx ok w0 ρ' st' a w ∧ Goes ok w0.heap.size st.fb ρ st.heap w ρ' st'.heap w

theorem Turns.refl : Turns cx st st := ⟨rfl, id, fun _ _ ρ _ _ hi _ => ⟨ρ, hi, Goes.refl _ _ _ _ _ _⟩⟩
theorem Turns.trans {s1 s2 s3 : St} (x : Turns cx s1 s2) (y : Turns cx s2 s3) : Turns cx s1 s3 := by
 refine ⟨y.1.trans x.1, fun h => ?_, fun ok w0 ρ a w hi hl => ?_⟩
 ·rw [← x.1]; exact y.2.1 (by rw [x.1]; exact x.2.1 h)
 ·obtain ⟨ρ1, i1, g1⟩ := x.2.2 ok w0 ρ a w hi hl
  obtain ⟨ρ2, i2, g2⟩ := y.2.2 ok w0 ρ1 a w i1 (by rw [x.1]; exact x.2.1 hl)
  rw [x.1] at g2
  exact ⟨ρ2, i2, g1.trans g2⟩

theorem turns_keep (keep : List Nat) : Turns cx st ⟨keepOnly keep st.env, st.heap, st.fb⟩ := by
 refine ⟨rfl, id, fun ok w0 ρ a w hi _ => ⟨ρ, ⟨?_, fun t ht => ?_, hi.heap, hi.inj, hi.own, hi.fresh, hi.below⟩, Goes.refl _ _ _ _ _ _⟩⟩
 ·show a.tmps.size = (keepOnly keep st.env).length
  rw [hi.size]; simp [keepOnly]
 ·have hl : t < st.env.length := by simpa [keepOnly] using ht
  have e : (keepOnly keep st.env).getD t .any = if keep.contains t then st.env.getD t .any else .any := by
   simp [keepOnly, List.getD_eq_getElem?_getD, hl]
  show RV cx ρ _ w ((keepOnly keep st.env).getD t .any) _
  rw [e]
  split
  ·exact hi.env t hl
  ·trivial

def lowR (ρ : Rho) (base : Nat) : Rho := ⟨fun n => if n < base then ρ n else none, fun n k => n < base ∧ ρ.g n k⟩
theorem lowR_at {ρ : Rho} {base n : Nat} (h : n < base) : lowR ρ base n = ρ n := by simp [lowR, h]
theorem lowR_has {ρ : Rho} {base n k : Nat} (h : (lowR ρ base).has n k) : n < base ∧ ρ.has n k := by
 rcases h with h | h
 ·simp only [lowR] at h
  split at h
  ·exact ⟨‹_›, .inl h⟩
  ·cases h
 ·exact ⟨h.1, .inr h.2⟩
theorem RC_low {ok' : Nat → Prop} {base : Nat} {c : C} {x : Value} (hk : ∀ k, ok k → ok' k) (hl : lowC base c = true) (h : RC cx ρ ok w c x) : RC cx (lowR ρ base) ok' w c x := by
 cases c with
 | d y => exact RD.ext h (fun _ _ _ => rfl) (fun k _ => hk k) (Nat.le_refl _)
 | ptr n off =>
  have hl : n < base := by simpa [lowC] using hl
  obtain ⟨b, h1, h2⟩ := h
  exact ⟨b, by rw [lowR_at hl]; exact h1, h2⟩
 | ep n t i j =>
  have hl : n < base := by simpa [lowC] using hl
  obtain ⟨b, h1, h2⟩ := h
  exact ⟨b, by rw [lowR_at hl]; exact h1, h2⟩
 | own n t full off len =>
  have hl : n < base := by simpa [lowC] using hl
  obtain ⟨A, cap, h1, h2, h3, h4⟩ := h
  exact ⟨A, cap, h1, h2, h3, fun hc => by obtain ⟨b, h5, h6⟩ := h4 hc; exact ⟨b, by rw [lowR_at hl]; exact h5, h6⟩⟩
 | clo f first caps =>
  simp only [lowC, Bool.and_eq_true, List.all_eq_true, decide_eq_true_eq] at hl
  have key : ∀ (ns : List Nat) (us : List Value), (∀ n ∈ ns, n < base) → ptrsTo ρ ns us → ptrsTo (lowR ρ base) ns us := fun ns us hn hp => ⟨hp.1, fun i hi => by
   obtain ⟨b, h1, h2⟩ := hp.2 i hi
   exact ⟨b, by rw [lowR_at (hn _ (getD_mem (d := 0) hi))]; exact h1, h2⟩⟩
  obtain ⟨u, v, h1, h2, h3⟩ := h
  exact ⟨u, v, h1, key _ _ hl.1 h2, key _ _ hl.2 h3⟩
 | yld n =>
  have hl : n < base := by simpa [lowC] using hl
  obtain ⟨b, h1, h2⟩ := h
  exact ⟨b, by rw [lowR_at hl]; exact h1, h2⟩
 | mref n =>
  have hl : n < base := by simpa [lowC] using hl
  obtain ⟨b, h1, h2⟩ := h
  exact ⟨b, by rw [lowR_at hl]; exact h1, h2⟩
 | mrow n m len =>
  have hl : n < base ∧ m < base := by simpa [lowC] using hl
  obtain ⟨A, cap, h1, h2, h4⟩ := h
  exact ⟨A, cap, h1, h2, fun hc => by obtain ⟨b, h5, h6⟩ := h4 hc; exact ⟨b, by rw [lowR_at hl.2]; exact h5, h6⟩⟩
theorem RCs_low {ok' : Nat → Prop} {base : Nat} {cs : List C} {vs : List Value} (hk : ∀ k, ok k → ok' k) (hl : cs.all (lowC base) = true) (h : RCs cx ρ ok w cs vs) : RCs cx (lowR ρ base) ok' w cs vs :=
 ⟨h.1, fun j hj => RC_low hk (List.all_eq_true.1 hl _ (getD_mem hj)) (h.2 j hj)⟩
theorem RA_low {ok' : Nat → Prop} {base : Nat} {g : Bool} {cs : List C} {x : Value} (hk : ∀ k, ok k → ok' k) (hl : cs.all (lowC base) = true) (h : RA cx ρ ok w (g, cs) x) : RA cx (lowR ρ base) ok' w (g, cs) x := by
 cases g with
 | true => obtain ⟨vs, h1, h2⟩ := h; exact ⟨vs, h1, RCs_low hk hl h2⟩
 | false =>
  obtain ⟨c, h1, h2⟩ := h
  subst h1
  exact ⟨c, rfl, RC_low hk (by simpa using hl) h2⟩
theorem RV_low {ok' : Nat → Prop} {base : Nat} {v : V} {x : Value} (hk : ∀ k, ok k → ok' k) (hl : lowV base v = true) (h : RV cx ρ ok w v x) : RV cx (lowR ρ base) ok' w v x := by
 cases v with
 | any => trivial
 | v g cs => exact RA_low hk hl h
 | tup vs =>
  obtain ⟨xs, h1, h2⟩ := h
  refine ⟨xs, h1, h2.1, fun j hj => ?_⟩
  have := List.all_eq_true.1 hl _ (getD_mem (d := (false, [])) hj)
  exact RA_low (g := (vs.getD j (false, [])).1) (cs := (vs.getD j (false, [])).2) hk this (h2.2 j hj)

theorem lk_take (h : Heap) (base n : Nat) : lk (h.take base) n = if n < base then lk h n else none := by
 unfold lk
 rw [List.getD_eq_getElem?_getD, List.getD_eq_getElem?_getD, List.getElem?_take]
 split <;> rfl

theorem lk_fg (h : Heap) (n : Nat) : lk (h.map fgB) n = fgB (lk h n) := by
 unfold lk
 rw [List.getD_eq_getElem?_getD, List.getD_eq_getElem?_getD, List.getElem?_map]
 cases h[n]? <;> rfl
theorem fg_some {b : Option Blk} : (fgB b).isSome = b.isSome := by
 unfold fgB
 split <;> rfl
theorem turns_clean {hint : Hint} {base : Nat} (hc : clean hint base st = some st') : Turns cx st st' := by
 unfold clean at hc
 simp only at hc
 split at hc
 ·rename_i hcond
  injection hc with hc; subst hc
  simp only [Bool.and_eq_true, decide_eq_true_eq] at hcond
  obtain ⟨⟨hfb, henv⟩, hheap⟩ := hcond
  refine (turns_keep hint.keep).trans ⟨rfl, fun h => by show st.fb ≤ ((st.heap.take base).map fgB).length; rw [List.length_map, List.length_take]; have : st.fb ≤ st.heap.length := h; omega, fun ok w0 ρ a w hi hl => ?_⟩
  have hl : st.fb ≤ st.heap.length := hl
  have hlive : ∀ n, (lk ((st.heap.take base).map fgB) n).isSome = true → n < base ∧ (lk st.heap n).isSome = true := fun n hn => by
   rw [lk_fg, fg_some, lk_take] at hn
   split at hn
   ·exact ⟨‹_›, hn⟩
   ·cases hn
  have hk : ∀ k, okc ok w0.heap.size st.heap ρ k → okc ok w0.heap.size ((st.heap.take base).map fgB) (lowR ρ base) k := fun k hk => ⟨hk.1, fun n hn hh => by
   obtain ⟨h1, h2⟩ := hlive n hn
   exact hk.2 n h2 (lowR_has hh).2⟩
  refine ⟨lowR ρ base, ⟨hi.size, fun t ht => RV_low hk (List.all_eq_true.1 henv _ (getD_mem ht)) (hi.env t ht), fun n b hn => ?_, fun n m b hn hm h1 h2 => ?_, fun n b hn => ?_, fun n hn => ?_, hi.below⟩, ?_, ?_⟩
  ·have hn' : ∃ b', lk st.heap n = some b' ∧ fgB (some b') = some b ∧ n < base := by
     have hn : lk ((st.heap.take base).map fgB) n = some b := hn
     rw [lk_fg, lk_take] at hn
     split at hn
     ·cases hq : lk st.heap n with
      | none => rw [hq] at hn; cases hn
      | some b' => rw [hq] at hn; exact ⟨b', rfl, hn, ‹_›⟩
     ·cases hn
   obtain ⟨b', hn1, hn2, hn3⟩ := hn'
   have hlen : n < ((st.heap.take base).map fgB).length := by rw [List.length_map, List.length_take]; have := lk_lt (lkh hn1); omega
   have hlow : lowB base (some b) = true := by
    have := List.all_eq_true.1 hheap _ (getD_mem (d := none) hlen)
    have e : ((st.heap.take base).map fgB).getD n none = some b := hn
    rw [e] at this; exact this
   have hB := hi.heap n b' hn1
   cases b' with
   | mp E l lo p =>
    have hb : b = .mp E l [] p := by simp only [fgB, Option.some.injEq] at hn2; exact hn2.symm
    subst hb
    obtain ⟨k, es, ck, q1, q2, q3⟩ := hB
    exact ⟨k, es, ck, by rw [lowR_at hn3]; exact q1, q2, q3.keys, q3.nodup, fun i q e h1 h2 h3 => (q3.rows i q e h1 h2 h3).ext (fun b hb => ⟨hn3, hb⟩) (fun _ _ => rfl), q3.apart, fun m k hm => by (cases hm), fun m k hm => by (cases hm)⟩
   | lp key env s j =>
    have hb : b = .lp key env s j := by simp only [fgB, Option.some.injEq] at hn2; exact hn2.symm
    subst hb
    obtain ⟨k, r, q1, q2, q3, q4, q5⟩ := hB
    exact ⟨k, r, by rw [lowR_at hn3]; exact q1, q2, q3, fun t ht => RV_low hk (List.all_eq_true.1 hlow _ (getD_mem ht)) (q4 t ht), q5⟩
   | box T cs =>
    have hb : b = .box T cs := by simp only [fgB, Option.some.injEq] at hn2; exact hn2.symm
    subst hb
    obtain ⟨k, vs, q1, q2, q3⟩ := hB
    exact ⟨k, vs, by rw [lowR_at hn3]; exact q1, q2, RCs_low hk hlow q3⟩
   | arr T t l =>
    have hb : b = .arr T t l := by simp only [fgB, Option.some.injEq] at hn2; exact hn2.symm
    subst hb
    rcases hB with ⟨q1, q2⟩ | ⟨k, vs, q1, q2, q3, q4⟩
    ·exact .inl ⟨q1, by rw [lowR_at hn3]; exact q2⟩
    ·exact .inr ⟨k, vs, by rw [lowR_at hn3]; exact q1, q2, q3, fun i j hi' hj => (q4 i j hi' hj).ext (fun _ _ _ => rfl) (fun k _ => hk k) (Nat.le_refl _)⟩
  ·obtain ⟨a1, a2⟩ := hlive n hn
   obtain ⟨b1, b2⟩ := hlive m hm
   exact hi.inj n m b a2 b2 (lowR_has h1).2 (lowR_has h2).2
  ·exact hi.own n b (lowR_has hn).2
  ·have hn : ((st.heap.take base).map fgB).length ≤ n := hn
   rw [List.length_map, List.length_take] at hn
   by_cases hb : n < base
   ·have hf := hi.fresh n (by show st.heap.length ≤ n; omega)
    exact ⟨by rw [lowR_at hb]; exact hf.1, fun k hk => hf.2 k hk.2⟩
   ·exact ⟨by simp [lowR, hb], fun k hk => hb hk.1⟩
  ·refine ⟨fun n b hn h => ?_, fun _ _ _ => rfl, fun k _ h => hk k h, fun _ _ => rfl, Nat.le_refl _⟩
   have : n < base := Nat.lt_of_lt_of_le hn hfb
   rw [lowR_at this]; exact h
  ·refine ⟨fun n hn => ?_, fun n hn hd => ?_, fun h => ?_⟩
   ·have : n < base := Nat.lt_of_lt_of_le hn hfb
    exact lowR_at this
   ·show lk ((st.heap.take base).map fgB) n = none
    rw [lk_fg, lk_take]; split
    ·rw [hd]; rfl
    ·rfl
   ·show st.fb ≤ ((st.heap.take base).map fgB).length
    rw [List.length_map, List.length_take]; omega
 ·cases hc

theorem RC_ren {ok' : Nat → Prop} {n m : Nat} {c : C} {x : Value} (hk : ∀ k, ok k → ok' k) (hl : noRefC m c = true) (h : RC cx ρ ok w c x) : RC cx (upd ρ m (ρ n)) ok' w (renC n m c) x := by
 have key : ∀ k b, k ≠ m → ρ k = some b → upd ρ m (ρ n) (ren n m k) = some b := fun k b hne e => by
  unfold ren
  by_cases hkn : k = n
  ·rw [if_pos hkn, upd_same, ← hkn]; exact e
  ·rw [if_neg hkn, upd_ne hne]; exact e
 cases c with
 | d y => exact RD.ext h (fun _ _ _ => rfl) (fun k _ => hk k) (Nat.le_refl _)
 | ptr k off =>
  have hl : k ≠ m := by simpa [noRefC] using hl
  obtain ⟨b, h1, h2⟩ := h
  exact ⟨b, key k b hl h1, h2⟩
 | ep k t i j =>
  have hl : k ≠ m := by simpa [noRefC] using hl
  obtain ⟨b, h1, h2⟩ := h
  exact ⟨b, key k b hl h1, h2⟩
 | own k t full off len =>
  have hl : k ≠ m := by simpa [noRefC] using hl
  obtain ⟨A, cap, h1, h2, h3, h4⟩ := h
  exact ⟨A, cap, h1, h2, h3, fun hc => by obtain ⟨b, h5, h6⟩ := h4 hc; exact ⟨b, key k b hl h5, h6⟩⟩
 | clo f first caps =>
  simp only [noRefC, Bool.and_eq_true, Bool.not_eq_true', List.contains_eq_mem, decide_eq_false_iff_not] at hl
  have kk : ∀ (ns : List Nat) (us : List Value), m ∉ ns → ptrsTo ρ ns us → ptrsTo (upd ρ m (ρ n)) (ns.map (ren n m)) us := fun ns us hn hp => ⟨by simpa using hp.1, fun i hi => by
   have hi' : i < ns.length := by simpa using hi
   obtain ⟨b, h1, h2⟩ := hp.2 i hi'
   have hne : ns.getD i 0 ≠ m := fun e => hn (e ▸ getD_mem hi')
   have e : (ns.map (ren n m)).getD i 0 = ren n m (ns.getD i 0) := by simp [List.getD_eq_getElem?_getD, hi']
   exact ⟨b, by rw [e]; exact key _ b hne h1, h2⟩⟩
  obtain ⟨u, v, h1, h2, h3⟩ := h
  exact ⟨u, v, h1, kk _ _ hl.1 h2, kk _ _ hl.2 h3⟩
 | yld k =>
  have hl : k ≠ m := by simpa [noRefC] using hl
  obtain ⟨b, h1, h2⟩ := h
  exact ⟨b, key k b hl h1, h2⟩
 | mref k =>
  have hl : k ≠ m := by simpa [noRefC] using hl
  obtain ⟨b, h1, h2⟩ := h
  exact ⟨b, key k b hl h1, h2⟩
 | mrow k j len =>
  have hl : k ≠ m ∧ j ≠ m := by simpa [noRefC] using hl
  obtain ⟨A, cap, h1, h2, h4⟩ := h
  exact ⟨A, cap, h1, h2, fun hc => by obtain ⟨b, h5, h6⟩ := h4 hc; exact ⟨b, key j b hl.2 h5, h6⟩⟩
theorem RCs_ren {ok' : Nat → Prop} {n m : Nat} {cs : List C} {vs : List Value} (hk : ∀ k, ok k → ok' k) (hl : cs.all (noRefC m) = true) (h : RCs cx ρ ok w cs vs) : RCs cx (upd ρ m (ρ n)) ok' w (cs.map (renC n m)) vs :=
 ⟨by simpa using h.1, fun j hj => by
  have hj' : j < cs.length := by simpa using hj
  have e : (cs.map (renC n m)).getD j (.d .nils) = renC n m (cs.getD j (.d .nils)) := by simp [List.getD_eq_getElem?_getD, hj']
  rw [e]
  exact RC_ren hk (List.all_eq_true.1 hl _ (getD_mem hj')) (h.2 j hj')⟩
theorem RA_ren {ok' : Nat → Prop} {n m : Nat} {g : Bool} {cs : List C} {x : Value} (hk : ∀ k, ok k → ok' k) (hl : cs.all (noRefC m) = true) (h : RA cx ρ ok w (g, cs) x) : RA cx (upd ρ m (ρ n)) ok' w (g, cs.map (renC n m)) x := by
 cases g with
 | true => obtain ⟨vs, h1, h2⟩ := h; exact ⟨vs, h1, RCs_ren hk hl h2⟩
 | false =>
  obtain ⟨c, h1, h2⟩ := h
  subst h1
  exact ⟨_, rfl, RC_ren hk (by simpa using hl) h2⟩
theorem RV_ren {ok' : Nat → Prop} {n m : Nat} {v : V} {x : Value} (hk : ∀ k, ok k → ok' k) (hl : noRefV m v = true) (h : RV cx ρ ok w v x) : RV cx (upd ρ m (ρ n)) ok' w (renV n m v) x := by
 cases v with
 | any => trivial
 | v g cs => exact RA_ren hk hl h
 | tup vs =>
  obtain ⟨xs, h1, h2⟩ := h
  refine ⟨xs, h1, by simpa using h2.1, fun j hj => ?_⟩
  have hj' : j < vs.length := by simpa using hj
  have := List.all_eq_true.1 hl _ (getD_mem (d := (false, [])) hj')
  have e : (vs.map fun (g, cs) => ((g, cs.map (renC n m)) : Arg)).getD j (false, []) = ((vs.getD j (false, [])).1, (vs.getD j (false, [])).2.map (renC n m)) := by simp [List.getD_eq_getElem?_getD, hj']
  rw [e]
  exact RA_ren (g := (vs.getD j (false, [])).1) (cs := (vs.getD j (false, [])).2) hk this (h2.2 j hj')

theorem RLr_ren {ok' : Nat → Prop} {n m : Nat} {k : Nat} {env : List V} {s : Nat} {j : Option (Option Nat)} {r : Loop} (hk : ∀ k, ok k → ok' k) (hl : env.all (noRefV m) = true) (h : RL' cx ρ ok w k env s j r) : RL' cx (upd ρ m (ρ n)) ok' w k (env.map (renV n m)) s j r := by
 refine ⟨by simpa using h.1, fun t ht => ?_, h.2.2⟩
 have ht' : t < env.length := by simpa using ht
 have e : (env.map (renV n m)).getD t .any = renV n m (env.getD t .any) := by simp [List.getD_eq_getElem?_getD, ht']
 rw [e]
 exact RV_ren hk (List.all_eq_true.1 hl _ (getD_mem ht')) (h.2.1 t ht')

theorem lk_map (h : Heap) (f : Blk → Blk) (n : Nat) : lk (h.map (Option.map f)) n = (lk h n).map f := by
 unfold lk
 rw [List.getD_eq_getElem?_getD, List.getD_eq_getElem?_getD, List.getElem?_map]
 cases h[n]? <;> rfl

theorem turns_back1 {s : Nat} {j : Option Nat} {home : Nat} (hb : back1 s j home st = some st') : Turns cx st st' := by
 unfold back1 at hb
 split at hb
 ·rename_i n _ _ _ _ hg
  split at hb
  ·injection hb with hb; subst hb; exact Turns.refl
  ·rename_i hne
   split at hb
   ·rename_i B0 t0 l0 h1 h2
    generalize hbd : Blk.arr B0 t0 l0 = b at hb h2
    split at hb
    ·rename_i hcond
     injection hb with hb; subst hb
     simp only [Bool.and_eq_true, decide_eq_true_eq] at hcond
     obtain ⟨⟨⟨c1, c2⟩, c3⟩, c4⟩ := hcond
     have hlen : (((st.heap.map (Option.map (renB n home))).set n none).set home (some (renB n home b))).length = st.heap.length := by simp
     have hlk : ∀ m, lk (((st.heap.map (Option.map (renB n home))).set n none).set home (some (renB n home b))) m = if m = home then some (renB n home b) else if m = n then none else (lk st.heap m).map (renB n home) := fun m => by
      have hnl : n < st.heap.length := lk_lt (lkh h2)
      rw [lk_set]
      by_cases e1 : m = home
      ·subst e1; simp [c2]
      ·rw [if_neg (fun h => e1 h.1), if_neg e1, lk_set]
       by_cases e2 : m = n
       ·subst e2; simp [hnl]
       ·rw [if_neg (fun h => e2 h.1), if_neg e2, lk_map]
     have hlive : ∀ m, (lk (((st.heap.map (Option.map (renB n home))).set n none).set home (some (renB n home b))) m).isSome = true → ∃ m', (lk st.heap m').isSome = true ∧ ∀ (ρ : Rho) (k : Nat), (upd ρ home (ρ n)).has m k → ρ.has m' k := fun m hm => by
      rw [hlk m] at hm
      by_cases e1 : m = home
      ·subst e1; exact ⟨n, lkh h2, fun ρ k hh => by rw [upd_has] at hh; exact .inl hh⟩
      ·rw [if_neg e1] at hm
       by_cases e2 : m = n
       ·rw [if_pos e2] at hm; cases hm
       ·rw [if_neg e2] at hm
        exact ⟨m, by cases h : lk st.heap m <;> simp [h] at hm ⊢, fun ρ k hh => by rw [upd_has_ne e1] at hh; exact hh⟩
     refine ⟨rfl, fun h => by show st.fb ≤ List.length _; rw [hlen]; exact h, fun ok w0 ρ a w hi hl => ?_⟩
     have hk : ∀ k, okc ok w0.heap.size st.heap ρ k → okc ok w0.heap.size (((st.heap.map (Option.map (renB n home))).set n none).set home (some (renB n home b))) (upd ρ home (ρ n)) k := fun k hk => ⟨hk.1, fun m hm => by
      obtain ⟨m', e1, e2⟩ := hlive m hm
      exact fun hh => hk.2 m' e1 (e2 ρ k hh)⟩
     have hren : ∀ m c, m = n → c = b → noRefB home (some c) = true → RB cx ρ (okc ok w0.heap.size st.heap ρ) w m c → RB cx (upd ρ home (ρ n)) (okc ok w0.heap.size (((st.heap.map (Option.map (renB n home))).set n none).set home (some (renB n home b))) (upd ρ home (ρ n))) w home (renB n home c) := fun m c hm hcb hno hB => by
      subst hm
      cases c with
      | mp E l lo p => rw [← hbd] at hcb; cases hcb
      | lp key env s j =>
       obtain ⟨k, r, q1, q2, q3⟩ := hB
       exact ⟨k, r, by rw [upd_same]; exact q1, q2, RLr_ren hk hno q3⟩
      | box T cs =>
       obtain ⟨k, vs, q1, q2, q3⟩ := hB
       exact ⟨k, vs, by rw [upd_same]; exact q1, q2, RCs_ren hk hno q3⟩
      | arr T t l =>
       rcases hB with ⟨q1, q2⟩ | ⟨k, vs, q1, q2, q3, q4⟩
       ·exact .inl ⟨q1, by rw [upd_same]; exact q2⟩
       ·exact .inr ⟨k, vs, by rw [upd_same]; exact q1, q2, q3, fun i j hi' hj => (q4 i j hi' hj).ext (fun _ _ _ => rfl) (fun k _ => hk k) (Nat.le_refl _)⟩
     have hno : ∀ m c, lk st.heap m = some c → noRefB home (some c) = true := fun m c hm => by
      have hml := lk_lt (lkh hm)
      have := List.all_eq_true.1 c4 _ (getD_mem (d := none) hml)
      have e : st.heap.getD m none = some c := hm
      rw [e] at this; exact this
     refine ⟨upd ρ home (ρ n), ⟨by show a.tmps.size = (st.env.map (renV n home)).length; rw [hi.size]; simp, fun t ht => ?_, fun m c hm => ?_, fun m1 m2 k hm1 hm2 e1 e2 => ?_, fun m k hm => ?_, fun m hm => ?_, hi.below⟩, ?_, ?_⟩
     ·have ht' : t < st.env.length := by simpa using ht
      have e : (st.env.map (renV n home)).getD t .any = renV n home (st.env.getD t .any) := by simp [List.getD_eq_getElem?_getD, ht']
      show RV cx _ _ w ((st.env.map (renV n home)).getD t .any) _
      rw [e]
      exact RV_ren hk (List.all_eq_true.1 c3 _ (getD_mem ht')) (hi.env t ht')
     ·have hm : lk (((st.heap.map (Option.map (renB n home))).set n none).set home (some (renB n home b))) m = some c := hm
      rw [hlk m] at hm
      by_cases e1 : m = home
      ·rw [if_pos e1] at hm; injection hm with hm; subst hm; rw [e1]
       exact hren n b rfl rfl (hno n b h2) (hi.heap n b h2)
      ·rw [if_neg e1] at hm
       by_cases e2 : m = n
       ·rw [if_pos e2] at hm; cases hm
       ·rw [if_neg e2] at hm
        cases hc : lk st.heap m with
        | none => rw [hc] at hm; cases hm
        | some c0 =>
         rw [hc] at hm; simp only [Option.map_some, Option.some.injEq] at hm; subst hm
         have hB := hi.heap m c0 hc
         have hn0 := hno m c0 hc
         cases c0 with
         | mp E l lo p =>
          obtain ⟨k, es, ck, q1, q2, q3⟩ := hB
          have hrn : ∀ m0 k0 b, (m0, k0) ∈ lo → ρ m0 = some b → upd ρ home (ρ n) (ren n home m0) = some b := fun m0 k0 b hm0 hb0 => by
           have hne0 : m0 ≠ home := by
            have := List.all_eq_true.1 hn0 _ hm0
            simpa using this
           unfold ren
           by_cases hkn : m0 = n
           ·rw [if_pos hkn, upd_same, ← hkn]; exact hb0
           ·rw [if_neg hkn, upd_ne hne0]; exact hb0
          refine ⟨k, es, ck, by rw [upd_ne e1]; exact q1, q2, q3.keys, q3.nodup, fun i q e h1 h2 h3 => (q3.rows i q e h1 h2 h3).ext (fun b hb => ⟨e1, hb⟩) (fun _ _ => rfl), q3.apart, fun m' k' hm' => ?_, fun m' k' hm' h1 => ?_⟩
          ·obtain ⟨⟨m0, k0⟩, hm0, he0⟩ := List.mem_map.1 hm'
           injection he0 with he0 he1; subst he0; subst he1
           exact ⟨(q3.look m0 k0 hm0).1, fun i q e b h1 h2 h3 h4 => hrn m0 k0 b hm0 ((q3.look m0 k0 hm0).2 i q e b h1 h2 h3 h4)⟩
          ·obtain ⟨⟨m0, k0⟩, hm0, he0⟩ := List.mem_map.1 hm'
           injection he0 with he0 he1; subst he0; subst he1
           exact hrn m0 k0 k hm0 (q3.look0 m0 k0 hm0 h1)
         | lp key env s j =>
          obtain ⟨k, r, q1, q2, q3⟩ := hB
          exact ⟨k, r, by rw [upd_ne e1]; exact q1, q2, RLr_ren hk hn0 q3⟩
         | box T cs =>
          obtain ⟨k, vs, q1, q2, q3⟩ := hB
          exact ⟨k, vs, by rw [upd_ne e1]; exact q1, q2, RCs_ren hk hn0 q3⟩
         | arr T t l =>
          rcases hB with ⟨q1, q2⟩ | ⟨k, vs, q1, q2, q3, q4⟩
          ·exact .inl ⟨q1, by rw [upd_ne e1]; exact q2⟩
          ·exact .inr ⟨k, vs, by rw [upd_ne e1]; exact q1, q2, q3, fun i j hi' hj => (q4 i j hi' hj).ext (fun _ _ _ => rfl) (fun k _ => hk k) (Nat.le_refl _)⟩
     ·have d1 := hm1; have d2 := hm2
      rw [hlk m1] at d1; rw [hlk m2] at d2
      by_cases f1 : m1 = home <;> by_cases f2 : m2 = home
      ·rw [f1, f2]
      ·rw [f1, upd_has] at e1; rw [upd_has_ne f2] at e2
       rw [if_neg f2] at d2
       by_cases g2 : m2 = n
       ·rw [if_pos g2] at d2; cases d2
       ·rw [if_neg g2] at d2
        have : (lk st.heap m2).isSome = true := by cases h : lk st.heap m2 <;> simp [h] at d2 ⊢
        exact absurd (hi.inj m2 n k this (lkh h2) e2 (.inl e1)) g2
      ·rw [f2, upd_has] at e2; rw [upd_has_ne f1] at e1
       rw [if_neg f1] at d1
       by_cases g1 : m1 = n
       ·rw [if_pos g1] at d1; cases d1
       ·rw [if_neg g1] at d1
        have : (lk st.heap m1).isSome = true := by cases h : lk st.heap m1 <;> simp [h] at d1 ⊢
        exact absurd (hi.inj m1 n k this (lkh h2) e1 (.inl e2)) g1
      ·rw [upd_has_ne f1] at e1; rw [upd_has_ne f2] at e2
       rw [if_neg f1] at d1; rw [if_neg f2] at d2
       have k1 : (lk st.heap m1).isSome = true := by
        split at d1
        ·cases d1
        ·cases h : lk st.heap m1 <;> simp [h] at d1 ⊢
       have k2 : (lk st.heap m2).isSome = true := by
        split at d2
        ·cases d2
        ·cases h : lk st.heap m2 <;> simp [h] at d2 ⊢
       exact hi.inj m1 m2 k k1 k2 e1 e2
     ·by_cases e1 : m = home
      ·rw [e1, upd_has] at hm; exact hi.own n k (.inl hm)
      ·rw [upd_has_ne e1] at hm; exact hi.own m k hm
     ·have hm : List.length (((st.heap.map (Option.map (renB n home))).set n none).set home (some (renB n home b))) ≤ m := hm
      rw [hlen] at hm
      have hf := hi.fresh m hm
      exact ⟨by rw [upd_ne (by omega)]; exact hf.1, fun k hk => hf.2 k hk.2⟩
     ·refine ⟨fun m k hm e => ?_, fun _ _ _ => rfl, fun k _ h => hk k h, fun _ _ => rfl, Nat.le_refl _⟩
      rw [upd_ne (by omega)]; exact e
     ·refine ⟨fun m hm => upd_ne (by omega), fun m hm hd => ?_, fun h => by show st.fb ≤ List.length _; rw [hlen]; exact h⟩
      show lk (((st.heap.map (Option.map (renB n home))).set n none).set home (some (renB n home b))) m = none
      rw [hlk m, if_neg (by omega), hd]
      split <;> rfl
    ·cases hb
   ·cases hb
 ·cases hb

theorem turns_backs : ∀ (as : List (Nat × Option Nat × ET × TypeId)) (ns : List Nat) (st st' : St), backs as ns st = some st' → Turns cx st st'
 | [], _, st, st', h => by
  simp only [backs] at h; injection h with h; subst h; exact Turns.refl
 | (s, j, t, T) :: r, [], st, st', h => by simp [backs] at h
 | (s, j, t, T) :: r, n :: ns, st, st', h => by
  simp only [backs] at h
  split at h
  ·rename_i st1 h1
   exact (turns_back1 h1).trans (turns_backs r ns st1 st' h)
  ·cases h

theorem lk_frz (h h0 : Heap) (n : Nat) : lk (h.map (frzB h0)) n = frzB h0 (lk h n) := by
 unfold lk
 rw [List.getD_eq_getElem?_getD, List.getD_eq_getElem?_getD, List.getElem?_map]
 cases h[n]? <;> rfl
theorem frz_live {h h0 : Heap} {n : Nat} (hn : (lk (h.map (frzB h0)) n).isSome = true) : (∃ T cs, lk h n = some (.box T cs)) ∨ ∃ k env s j, lk h n = some (.lp k env s j) := by
 rw [lk_frz] at hn
 unfold frzB at hn
 split at hn
 ·rename_i T cs hk; exact .inl ⟨T, cs, hk⟩
 ·rename_i k env s j hk; exact .inr ⟨k, env, s, j, hk⟩
 ·cases hn
theorem frz_some {h h0 : Heap} {n : Nat} (hn : (lk (h.map (frzB h0)) n).isSome = true) : (lk h n).isSome = true := by
 rcases frz_live hn with ⟨T, cs, e⟩ | ⟨k, env, s, j, e⟩ <;> rw [e] <;> rfl
theorem RC_frz {h : Heap} (hi : HInv cx ok w0 ρ h w) {c : C} {x : Value} (hc : frzOk h c = true) (hr : RC cx ρ (okc ok w0.heap.size h ρ) w c x) : RC cx ρ (okc ok w0.heap.size (h.map (frzB h)) ρ) w (frzC h c) x := by
 have hk : ∀ k, okc ok w0.heap.size h ρ k → okc ok w0.heap.size (h.map (frzB h)) ρ k := fun k hk => ⟨hk.1, fun n hn => by
  exact hk.2 n (frz_some hn)⟩
 have plain : RC cx ρ (okc ok w0.heap.size (h.map (frzB h)) ρ) w c x := by
  cases c with
  | d y => exact RD.ext hr (fun _ _ _ => rfl) (fun k _ => hk k) (Nat.le_refl _)
  | _ => exact hr
 cases c with
 | own n t full off len =>
  cases hl : lk h n with
  | none => simp only [frzC, hl]; exact plain
  | some b =>
   cases b with
   | lp key env s j => simp only [frzC, hl]; exact plain
   | mp E l lo p => simp only [frzC, hl]; exact plain
   | box T cs => simp only [frzC, hl]; exact plain
   | arr T t' l =>
    by_cases e : t' = t
    ·subst e
     simp only [frzOk, hl, if_true] at hc
     simp only [frzC, hl, dite_true]
     refine dem0_ok hi (c := .own n t' full off len) (ks := [n]) (p := true) (d := .sl none full t' (sub l off (off + len))) ?_ rfl ⟨fun m hm => ?_, fun m hm => ?_⟩ hr
     ·simp only [dem0, hl, dite_true, hc]
     ·obtain rfl := List.mem_singleton.1 hm
      rw [lk_frz, hl]; rfl
     ·exact frz_some hm
    ·simp only [frzC, hl, e, dite_false]; exact plain
 | _ => exact plain
theorem RCs_frz {h : Heap} (hi : HInv cx ok w0 ρ h w) {cs : List C} {vs : List Value} (hc : cs.all (frzOk h) = true) (hr : RCs cx ρ (okc ok w0.heap.size h ρ) w cs vs) : RCs cx ρ (okc ok w0.heap.size (h.map (frzB h)) ρ) w (cs.map (frzC h)) vs :=
 ⟨by simpa using hr.1, fun j hj => by
  have hj' : j < cs.length := by simpa using hj
  have e : (cs.map (frzC h)).getD j (.d .nils) = frzC h (cs.getD j (.d .nils)) := by simp [List.getD_eq_getElem?_getD, hj']
  rw [e]
  exact RC_frz hi (List.all_eq_true.1 hc _ (getD_mem hj')) (hr.2 j hj')⟩
theorem RA_frz {h : Heap} (hi : HInv cx ok w0 ρ h w) {g : Bool} {cs : List C} {x : Value} (hc : cs.all (frzOk h) = true) (hr : RA cx ρ (okc ok w0.heap.size h ρ) w (g, cs) x) : RA cx ρ (okc ok w0.heap.size (h.map (frzB h)) ρ) w (g, cs.map (frzC h)) x := by
 cases g with
 | true => obtain ⟨vs, h1, h2⟩ := hr; exact ⟨vs, h1, RCs_frz hi hc h2⟩
 | false =>
  obtain ⟨c, h1, h2⟩ := hr
  subst h1
  exact ⟨_, rfl, RC_frz hi (by simpa using hc) h2⟩
theorem RV_frz {h : Heap} (hi : HInv cx ok w0 ρ h w) {v : V} {x : Value} (hc : frzOkV h v = true) (hr : RV cx ρ (okc ok w0.heap.size h ρ) w v x) : RV cx ρ (okc ok w0.heap.size (h.map (frzB h)) ρ) w (frzV h v) x := by
 cases v with
 | any => trivial
 | v g cs => exact RA_frz hi hc hr
 | tup vs =>
  obtain ⟨xs, h1, h2⟩ := hr
  refine ⟨xs, h1, by simpa using h2.1, fun j hj => ?_⟩
  have hj' : j < vs.length := by simpa using hj
  have := List.all_eq_true.1 hc _ (getD_mem (d := (false, [])) hj')
  have e : (vs.map fun (g, cs) => ((g, cs.map (frzC h)) : Arg)).getD j (false, []) = ((vs.getD j (false, [])).1, (vs.getD j (false, [])).2.map (frzC h)) := by simp [List.getD_eq_getElem?_getD, hj']
  rw [e]
  exact RA_frz hi (g := (vs.getD j (false, [])).1) (cs := (vs.getD j (false, [])).2) this (h2.2 j hj')

theorem turns_freeze (hf : freezeOk st = true) : Turns cx st (freeze st) := by
 unfold freezeOk at hf
 simp only [Bool.and_eq_true] at hf
 obtain ⟨h1, h2⟩ := hf
 refine ⟨rfl, fun h => by show st.fb ≤ (st.heap.map (frzB st.heap)).length; simpa using h, fun ok w0 ρ a w hi hl => ?_⟩
 have hk : ∀ k, okc ok w0.heap.size st.heap ρ k → okc ok w0.heap.size (st.heap.map (frzB st.heap)) ρ k := fun k hk => ⟨hk.1, fun n hn => by
  exact hk.2 n (frz_some hn)⟩
 refine ⟨ρ, ⟨by show a.tmps.size = (st.env.map (frzV st.heap)).length; rw [hi.size]; simp, fun t ht => ?_, fun n b hn => ?_, fun n m b hn hm => ?_, hi.own, fun n hn => hi.fresh n (by have hn : (st.heap.map (frzB st.heap)).length ≤ n := hn; simpa using hn), hi.below⟩, ⟨fun _ _ _ e => e, fun _ _ _ => rfl, fun k _ h => hk k h, fun _ _ => rfl, Nat.le_refl _⟩, fun _ _ => rfl, fun n _ hn => ?_, fun h => by show st.fb ≤ (st.heap.map (frzB st.heap)).length; simpa using h⟩
 ·have ht' : t < st.env.length := by have ht : t < (st.env.map (frzV st.heap)).length := ht; simpa using ht
  have e : (st.env.map (frzV st.heap)).getD t .any = frzV st.heap (st.env.getD t .any) := by simp [List.getD_eq_getElem?_getD, ht']
  show RV cx ρ _ w ((st.env.map (frzV st.heap)).getD t .any) _
  rw [e]
  exact RV_frz hi.hv (List.all_eq_true.1 h1 _ (getD_mem ht')) (hi.env t ht')
 ·have hn : lk (st.heap.map (frzB st.heap)) n = some b := hn
  rcases frz_live (lkh hn) with ⟨T, cs, e⟩ | ⟨key, env, s, j, e⟩
  ·rw [lk_frz, e] at hn
   simp only [frzB, Option.some.injEq] at hn
   subst hn
   obtain ⟨k, vs, q1, q2, q3⟩ := hi.heap n _ e
   refine ⟨k, vs, q1, q2, RCs_frz hi.hv ?_ q3⟩
   have := List.all_eq_true.1 h2 _ (getD_mem (d := none) (lk_lt (lkh e)))
   have e2 : st.heap.getD n none = some (.box T cs) := e
   rw [e2] at this; exact this
  ·rw [lk_frz, e] at hn
   simp only [frzB, Option.some.injEq] at hn
   subst hn
   obtain ⟨k, r, q1, q2, q3, q4, q5⟩ := hi.heap n _ e
   have hall : env.all (frzOkV st.heap) = true := by
    have := List.all_eq_true.1 h2 _ (getD_mem (d := none) (lk_lt (lkh e)))
    have e2 : st.heap.getD n none = some (.lp key env s j) := e
    rw [e2] at this; exact this
   refine ⟨k, r, q1, q2, by simpa using q3, fun t ht => ?_, q5⟩
   have ht' : t < env.length := by simpa using ht
   have e3 : (env.map (frzV st.heap)).getD t .any = frzV st.heap (env.getD t .any) := by simp [List.getD_eq_getElem?_getD, ht']
   rw [e3]
   exact RV_frz hi.hv (List.all_eq_true.1 hall _ (getD_mem ht')) (q4 t ht')
 ·have hn : (lk (st.heap.map (frzB st.heap)) n).isSome = true := hn
  have hm : (lk (st.heap.map (frzB st.heap)) m).isSome = true := hm
  exact hi.inj n m b (frz_some hn) (frz_some hm)
 ·show lk (st.heap.map (frzB st.heap)) n = none
  rw [lk_frz, hn]; rfl
end
end Go.Eng
/- Code. -/
set_option linter.unusedVariables false
set_option linter.unusedSimpArgs false
namespace Go.Eng
open Go Go.RowKit

section
variable {P : Program} {cx : Cx} {ok : Nat → Prop} {w0 : World} {ρ : Rho} {st st' : St} {a : Act} {w : World}

theorem lk_push (h : Heap) (b : Option Blk) (n : Nat) : lk (h ++ [b]) n = if n = h.length then b else lk h n := by
 unfold lk
 rw [List.getD_eq_getElem?_getD, List.getD_eq_getElem?_getD, List.getElem?_append]
 by_cases h1 : n < h.length
 ·rw [if_pos h1, if_neg (by omega)]
 ·rw [if_neg h1]
  by_cases h2 : n = h.length
  ·subst h2; simp
  ·rw [if_neg h2, List.getElem?_eq_none (by simp; omega), List.getElem?_eq_none (by omega)]

theorem turns_push (T : TypeId) (t : ET) : ∀ (ok : Nat → Prop) (w0 : World) (ρ : Rho) (a : Act) (w : World), Inv cx ok w0 ρ st a w →
    Inv cx ok w0 ρ ⟨st.env, st.heap ++ [some (.arr T t [])], st.fb⟩ a w ∧ (∀ k, okc ok w0.heap.size st.heap ρ k ↔ okc ok w0.heap.size (st.heap ++ [some (.arr T t [])]) ρ k) := by
 intro ok w0 ρ a w hi
 have hn0 : ρ st.heap.length = none := (hi.fresh _ (Nat.le_refl _)).1
 have hh0 : ∀ k, ¬ ρ.has st.heap.length k := fun k hh => by
  rcases hh with hh | hh
  ·rw [hn0] at hh; cases hh
  ·exact (hi.fresh _ (Nat.le_refl _)).2 k hh
 have hlive : ∀ n, n ≠ st.heap.length → lk (st.heap ++ [some (.arr T t [])]) n = lk st.heap n := fun n hn => by rw [lk_push, if_neg hn]
 have he : ∀ k, okc ok w0.heap.size st.heap ρ k ↔ okc ok w0.heap.size (st.heap ++ [some (.arr T t [])]) ρ k := fun k => by
  constructor
  ·refine fun h => ⟨h.1, fun n hn => ?_⟩
   by_cases e : n = st.heap.length
   ·rw [e]; exact hh0 k
   ·rw [hlive n e] at hn; exact h.2 n hn
  ·refine fun h => ⟨h.1, fun n hn => ?_⟩
   have e : n ≠ st.heap.length := fun e => by have := lk_lt hn; omega
   exact h.2 n (by rw [hlive n e]; exact hn)
 have hx : ∀ N, Ext N (okc ok w0.heap.size st.heap ρ) (okc ok w0.heap.size (st.heap ++ [some (.arr T t [])]) ρ) ρ ρ w w := fun N => ⟨fun _ _ _ e => e, fun _ _ _ => rfl, fun k _ h => (he k).1 h, fun _ _ => rfl, Nat.le_refl _⟩
 refine ⟨⟨hi.size, fun t ht => Ext.all_V hx hi.hv.lt (hi.env t ht), fun n b hn => ?_, fun n m b hn hm h1 h2 => ?_, hi.own, fun n hn => hi.fresh n (by simp at hn; omega), hi.below⟩, he⟩
 ·have hn : lk (st.heap ++ [some (.arr T t [])]) n = some b := hn
  by_cases e : n = st.heap.length
  ·rw [lk_push, if_pos e] at hn; injection hn with hn; subst hn; subst e
   exact .inl ⟨rfl, hn0⟩
  ·rw [hlive n e] at hn
   exact Ext.all_B hx hi.hv.lt (fun _ _ => rfl) has_keep (hi.heap n b hn)
 ·have e1 : n ≠ st.heap.length := fun e => by rw [e] at h1; exact hh0 b h1
  have e2 : m ≠ st.heap.length := fun e => by rw [e] at h2; exact hh0 b h2
  have hn : (lk (st.heap ++ [some (.arr T t [])]) n).isSome = true := hn
  have hm : (lk (st.heap ++ [some (.arr T t [])]) m).isSome = true := hm
  rw [hlive n e1] at hn; rw [hlive m e2] at hm
  exact hi.inj n m b hn hm h1 h2

theorem lk_det (h : Heap) (n : Nat) (b : Option Blk) (hn : n < h.length) (k : Nat) : lk (h.set n none ++ [b]) k = if k = h.length then b else if k = n then none else lk h k := by
 rw [lk_push, List.length_set]
 by_cases e : k = h.length
 ·rw [if_pos e, if_pos e]
 ·rw [if_neg e, if_neg e]
  by_cases e2 : k = n
  ·subst e2; rw [if_pos rfl, lk_set_same hn]
  ·rw [if_neg e2, lk_set_ne e2]

def detR (ρ : Rho) (n L : Nat) : Rho := ⟨fun k => if k = L then ρ n else ρ k, fun m k => m ≠ L ∧ ρ.g m k⟩
theorem turns_det {n : Nat} {T : TypeId} {t : ET} {l : List (Ty t)} (hk : lk st.heap n = some (.arr T t l)) (hfb : st.fb ≤ st.heap.length) : ∀ (ok : Nat → Prop) (w0 : World) (ρ : Rho) (a : Act) (w : World), Inv cx ok w0 ρ st a w →
    Inv cx ok w0 (detR ρ n st.heap.length) ⟨st.env, st.heap.set n none ++ [some (.arr T t l)], st.fb⟩ a w ∧
     Goes ok w0.heap.size st.fb ρ st.heap w (detR ρ n st.heap.length) (st.heap.set n none ++ [some (.arr T t l)]) w := by
 intro ok w0 ρ a w hi
 have hlt : n < st.heap.length := lk_lt (lkh hk)
 have hn0 : ρ st.heap.length = none := (hi.fresh _ (Nat.le_refl _)).1
 have hl := lk_det st.heap n (some (.arr T t l)) hlt
 have hle : ∀ m, (lk st.heap m).isSome = true → m ≠ st.heap.length := fun m hm e => by have := lk_lt hm; omega
 have hs : detR ρ n st.heap.length st.heap.length = ρ n := by simp [detR]
 have hf : ∀ m, m ≠ st.heap.length → detR ρ n st.heap.length m = ρ m := fun m hm => by simp [detR, hm]
 have has1 : ∀ k, (detR ρ n st.heap.length).has st.heap.length k → ρ n = some k := fun k hh => by
  rcases hh with hh | hh
  ·rw [hs] at hh; exact hh
  ·exact absurd rfl hh.1
 have has2 : ∀ m k, m ≠ st.heap.length → (detR ρ n st.heap.length).has m k → ρ.has m k := fun m k hm hh => by
  rcases hh with hh | hh
  ·rw [hf m hm] at hh; exact .inl hh
  ·exact .inr hh.2
 have hks : (lk st.heap n).isSome = true := by rw [hk]; rfl
 have live : ∀ m, m ≠ st.heap.length → (lk (st.heap.set n none ++ [some (.arr T t l)]) m).isSome = true → m ≠ n ∧ (lk st.heap m).isSome = true := fun m hm hx => by
  rw [hl, if_neg hm] at hx
  split at hx
  ·cases hx
  ·rename_i e; exact ⟨e, hx⟩
 have he : ∀ k, okc ok w0.heap.size st.heap ρ k → okc ok w0.heap.size (st.heap.set n none ++ [some (.arr T t l)]) (detR ρ n st.heap.length) k := fun k h => ⟨h.1, fun m hm hh => by
  by_cases e : m = st.heap.length
  ·rw [e] at hh; exact h.2 n hks (.inl (has1 k hh))
  ·exact h.2 m (live m e hm).2 (has2 m k e hh)⟩
 have hx : ∀ N, Ext N (okc ok w0.heap.size st.heap ρ) (okc ok w0.heap.size (st.heap.set n none ++ [some (.arr T t l)]) (detR ρ n st.heap.length)) ρ (detR ρ n st.heap.length) w w := fun N =>
  ⟨fun m b _ e => by
   by_cases e2 : m = st.heap.length
   ·rw [e2, hn0] at e; cases e
   ·rw [hf m e2]; exact e, fun _ _ _ => rfl, fun k _ h => he k h, fun _ _ => rfl, Nat.le_refl _⟩
 refine ⟨⟨hi.size, fun t ht => Ext.all_V hx hi.hv.lt (hi.env t ht), fun m b hm => ?_, fun m1 m2 b hm1 hm2 h1 h2 => ?_, fun m b hm => ?_, fun m hm => ?_, hi.below⟩, ⟨hx _, ⟨fun m hm => ?_, fun m hm hd => ?_, fun h => by simp; omega⟩⟩⟩
 ·have hm : lk (st.heap.set n none ++ [some (.arr T t l)]) m = some b := hm
  by_cases e : m = st.heap.length
  ·rw [hl, if_pos e] at hm; injection hm with hm; subst hm; subst e
   have hb := hi.heap n _ hk
   rcases hb with ⟨q1, q2⟩ | ⟨b0, vs, q1, q2, q3, q4⟩
   ·exact .inl ⟨q1, by rw [hs]; exact q2⟩
   ·refine .inr ⟨b0, vs, by rw [hs]; exact q1, q2, q3, fun i j hi' hj => ?_⟩
    exact (q4 i j hi' hj).ext (fun _ _ _ => rfl) (fun k _ h => he k h) (Nat.le_refl _)
  ·have hlv := live m e (by rw [hm]; rfl)
   rw [hl, if_neg e, if_neg hlv.1] at hm
   exact Ext.all_B hx hi.hv.lt (fun _ _ => rfl) ⟨fun h => by rw [hf m e]; exact h, fun k hk2 => ⟨e, hk2⟩⟩ (hi.heap m b hm)
 ·have hm1 : (lk (st.heap.set n none ++ [some (.arr T t l)]) m1).isSome = true := hm1
  have hm2 : (lk (st.heap.set n none ++ [some (.arr T t l)]) m2).isSome = true := hm2
  by_cases e1 : m1 = st.heap.length <;> by_cases e2 : m2 = st.heap.length
  ·rw [e1, e2]
  ·rw [e1] at h1
   have hlv := live m2 e2 hm2
   exact absurd (hi.inj m2 n b hlv.2 hks (has2 m2 b e2 h2) (.inl (has1 b h1))) hlv.1
  ·rw [e2] at h2
   have hlv := live m1 e1 hm1
   exact absurd (hi.inj m1 n b hlv.2 hks (has2 m1 b e1 h1) (.inl (has1 b h2))) hlv.1
  ·exact hi.inj m1 m2 b (live m1 e1 hm1).2 (live m2 e2 hm2).2 (has2 m1 b e1 h1) (has2 m2 b e2 h2)
 ·by_cases e : m = st.heap.length
  ·rw [e] at hm; exact hi.own n b (.inl (has1 b hm))
  ·exact hi.own m b (has2 m b e hm)
 ·have hm : (st.heap.set n none ++ [some (Blk.arr T t l)]).length ≤ m := hm
  have hm : st.heap.length + 1 ≤ m := by simpa using hm
  have hfr := hi.fresh m (by omega)
  exact ⟨by rw [hf m (by omega)]; exact hfr.1, fun k hk2 => hfr.2 k hk2.2⟩
 ·rw [hf m (by omega)]
 ·rw [hl, if_neg (by omega)]
  by_cases e2 : m = n
  ·rw [if_pos e2]
  ·rw [if_neg e2]; exact hd

theorem acc_refine {s : Nat} {j : Option Nat} {c c' : C} (hg : accGet st s j = some c) (hs : accSet st s j c' = some st') (hi : Inv cx ok w0 ρ st a w)
    (hr : ∀ x, RC cx ρ (okc ok w0.heap.size st.heap ρ) w c x → RC cx ρ (okc ok w0.heap.size st.heap ρ) w c' x) : Inv cx ok w0 ρ st' a w ∧ Goes ok w0.heap.size st.fb ρ st.heap w ρ st'.heap w := by
 unfold accGet at hg
 split at hg
 ·rename_i c0 hv
  by_cases hs1 : 1000 ≤ s
  ·rw [if_pos hs1] at hg; cases hg
  rw [if_neg hs1] at hg
  injection hg with hg; subst hg
  simp only [accSet, hv, if_neg hs1] at hs
  injection hs with hs; subst hs
  have hv : st.env.getD s .any = .v false [c0] := by unfold slotV at hv; rw [if_neg hs1] at hv; exact hv
  refine ⟨⟨by simp [hi.size], fun t ht => ?_, hi.heap, hi.inj, hi.own, hi.fresh, hi.below⟩, Goes.refl _ _ _ _ _ _⟩
  have hl : t < st.env.length := by simpa using ht
  by_cases e : s = t
  ·subst e
   have e1 : (st.env.set s (.v false [c'])).getD s .any = .v false [c'] := by simp [List.getD_eq_getElem?_getD, hl]
   show RV cx ρ _ w ((st.env.set s (.v false [c'])).getD s .any) _
   rw [e1]
   have := hi.env s hl
   rw [hv] at this
   exact RV_of_c (hr _ (RV_c this))
  ·have e1 : (st.env.set s (.v false [c'])).getD t .any = st.env.getD t .any := by simp [List.getD_eq_getElem?_getD, List.getElem?_set, e]
   show RV cx ρ _ w ((st.env.set s (.v false [c'])).getD t .any) _
   rw [e1]; exact hi.env t hl
 ·rename_i n o j hv
  split at hg
  ·rename_i B cs hk
   simp only [accSet, hv, hk] at hs
   injection hs with hs; subst hs
   have hnl := lk_lt (lkh hk)
   have hlive : ∀ m, (lk (st.heap.set n (some (.box B (cs.set (o + j) c')))) m).isSome = (lk st.heap m).isSome := fun m => by
    by_cases e : m = n
    ·subst e; rw [lk_set_same hnl, hk]; rfl
    ·rw [lk_set_ne e]
   have he : ∀ k, okc ok w0.heap.size st.heap ρ k ↔ okc ok w0.heap.size (st.heap.set n (some (.box B (cs.set (o + j) c')))) ρ k := fun k => by
    unfold okc; simp only [hlive]
   have hx : ∀ N, Ext N (okc ok w0.heap.size st.heap ρ) (okc ok w0.heap.size (st.heap.set n (some (.box B (cs.set (o + j) c')))) ρ) ρ ρ w w := fun N => ⟨fun _ _ _ e => e, fun _ _ _ => rfl, fun k _ h => (he k).1 h, fun _ _ => rfl, Nat.le_refl _⟩
   refine ⟨⟨hi.size, fun t ht => Ext.all_V hx hi.hv.lt (hi.env t ht), fun m b hm => ?_, fun m1 m2 b hm1 hm2 => ?_, hi.own, fun m hm => hi.fresh m (by simpa using hm), hi.below⟩, ⟨hx _, ⟨fun _ _ => rfl, fun m _ hm => ?_, fun h => by simpa using h⟩⟩⟩
   ·have hm : lk (st.heap.set n (some (.box B (cs.set (o + j) c')))) m = some b := hm
    by_cases e : m = n
    ·subst e
     rw [lk_set_same hnl] at hm
     injection hm with hm; subst hm
     obtain ⟨b, vs, q1, q2, q3⟩ := hi.heap m _ hk
     refine Ext.all_B hx hi.hv.lt (fun _ _ => rfl) has_keep (show RB cx ρ (okc ok w0.heap.size st.heap ρ) w m (.box B (cs.set (o + j) c')) from ⟨b, vs, q1, q2, by simpa using q3.1, fun q hq => ?_⟩)
     have hq' : q < cs.length := by simpa using hq
     by_cases e2 : o + j = q
     ·subst e2
      have e3 : (cs.set (o + j) c').getD (o + j) (.d .nils) = c' := by simp [List.getD_eq_getElem?_getD, hq']
      rw [e3]
      have h4 := q3.2 (o + j) hq'
      have e5 : cs.getD (o + j) (.d .nils) = c := by rw [List.getD_eq_getElem?_getD, hg]; rfl
      rw [e5] at h4
      exact hr _ h4
     ·have e3 : (cs.set (o + j) c').getD q (.d .nils) = cs.getD q (.d .nils) := by simp [List.getD_eq_getElem?_getD, List.getElem?_set, e2]
      rw [e3]; exact q3.2 q hq'
    ·rw [lk_set_ne e] at hm
     exact Ext.all_B hx hi.hv.lt (fun _ _ => rfl) has_keep (hi.heap m b hm)
   ·have hm1 : (lk (st.heap.set n (some (.box B (cs.set (o + j) c')))) m1).isSome = true := hm1
    have hm2 : (lk (st.heap.set n (some (.box B (cs.set (o + j) c')))) m2).isSome = true := hm2
    rw [hlive] at hm1 hm2
    exact hi.inj m1 m2 b hm1 hm2
   ·show lk (st.heap.set n (some (.box B (cs.set (o + j) c')))) m = none
    have := hlive m
    rw [hm] at this
    cases h : lk (st.heap.set n (some (.box B (cs.set (o + j) c')))) m with
    | none => rfl
    | some b => rw [h] at this; cases this
  ·cases hg
 ·cases hg

theorem acc_fb {s : Nat} {j : Option Nat} {c : C} (hs : accSet st s j c = some st') : st'.fb = st.fb ∧ st'.heap.length = st.heap.length := by
 unfold accSet at hs
 split at hs
 ·split at hs
  ·cases hs
  ·injection hs with hs; subst hs; exact ⟨rfl, rfl⟩
 ·split at hs
  ·injection hs with hs; subst hs; exact ⟨rfl, by simp⟩
  ·cases hs
 ·cases hs

theorem accGet_push {s : Nat} {j : Option Nat} {c : C} {b : Option Blk} (hg : accGet st s j = some c) : accGet ⟨st.env, st.heap ++ [b], st.fb⟩ s j = some c := by
 unfold accGet at hg ⊢
 split at hg
 ·rename_i hv; simp only [hv]; exact hg
 ·rename_i n o j hv
  simp only [hv]
  split at hg
  ·rename_i B cs hk
   have : n ≠ st.heap.length := fun e => by have := lk_lt (lkh hk); omega
   rw [lk_push, if_neg this, hk]; exact hg
  ·cases hg
 ·cases hg

theorem turns_begin : ∀ (as : List (Nat × Option Nat × ET × TypeId)) (st st' : St), begin_ as st = some st' → Turns cx st st'
 | [], st, st', h => by simp only [begin_] at h; injection h with h; subst h; exact Turns.refl
 | (s, j, t, T) :: r, st, st', h => by
  simp only [begin_] at h
  split at h
  ·cases h
  ·rename_i c hg
   split at h
   ·cases h
   ·rename_i c' h' hp
    split at h
    ·cases h
    ·rename_i st1 hs
     refine Turns.trans ?_ (turns_begin r st1 st' h)
     have push : c' = .own st.heap.length t true 0 0 → h' = st.heap ++ [some (.arr T t [])] → (∀ ok ρ w x, RC cx ρ ok w c x → ∃ A, x = .slice A 0 0) → Turns cx st st1 := fun e1 e2 hz => by
      subst e1; subst e2
      obtain ⟨f1, f2⟩ := acc_fb hs
      refine ⟨f1, fun hl => by rw [f2]; simp; omega, fun ok w0 ρ a w hi hl => ?_⟩
      obtain ⟨i1, i2⟩ := turns_push (st := st) T t ok w0 ρ a w hi
      obtain ⟨k1, k2⟩ := acc_refine (accGet_push hg) hs i1 (fun x hx => by
       obtain ⟨A, rfl⟩ := hz _ _ _ _ hx
       exact ⟨A, 0, rfl, Nat.le_refl _, fun _ => rfl, fun h => absurd rfl h⟩)
      refine ⟨ρ, k1, Goes.trans ⟨⟨fun _ _ _ e => e, fun _ _ _ => rfl, fun k _ h => (i2 k).1 h, fun _ _ => rfl, Nat.le_refl _⟩, ⟨fun _ _ => rfl, fun n hn hd => ?_, fun h => by simp; omega⟩⟩ k2⟩
      rw [lk_push, if_neg (by omega)]; exact hd
     unfold promote at hp
     split at hp
     ·injection hp with hp; injection hp with e1 e2
      exact push e1.symm e2.symm (fun ok ρ w x hx => by cases hx; exact ⟨none, rfl⟩)
     ·rename_i nl full t' l
      split at hp
      ·rename_i hc
       injection hp with hp; injection hp with e1 e2
       simp only [Bool.and_eq_true] at hc
       have hl : l = [] := by simpa using hc.2
       refine push e1.symm e2.symm (fun ok ρ w x hx => ?_)
       subst hl
       cases hx with
       | sl0 _ _ _ A cap q1 q2 q3 q4 => rw [q3 hc.1.2]; exact ⟨A, rfl⟩
       | sl _ _ _ _ b off cap vs h0 => exact absurd rfl h0
      ·cases hp
     ·split at hp
      ·split at hp
       ·rename_i n t' full off len _ _ T2 t2 l hk
        injection hp with hp; injection hp with e1 e2; subst e1; subst e2
        have hlt : n < st.heap.length := lk_lt (lkh hk)
        obtain ⟨f1, f2⟩ := acc_fb hs
        refine ⟨f1, fun hl => by rw [f2]; simp; omega, fun ok w0 ρ a w hi hl => ?_⟩
        obtain ⟨i1, i2⟩ := turns_det hk hl ok w0 ρ a w hi
        have hg' : accGet ⟨st.env, st.heap.set n none ++ [some (.arr T2 t2 l)], st.fb⟩ s j = some (.own n t' full off len) := by
         unfold accGet at hg ⊢
         split at hg
         ·rename_i hv; simp only [hv]; exact hg
         ·rename_i n' o j hv
          simp only [hv]
          split at hg
          ·rename_i B cs hk'
           have h1 : n' ≠ st.heap.length := fun e => by have := lk_lt (lkh hk'); omega
           have h2 : n' ≠ n := fun e => by rw [e, hk] at hk'; injection hk' with hk'; cases hk'
           rw [lk_det _ _ _ hlt, if_neg h1, if_neg h2, hk']; exact hg
          ·cases hg
         ·cases hg
        obtain ⟨k1, k2⟩ := acc_refine hg' hs i1 (fun x hx => by
         obtain ⟨A, cap, q1, q2, q3, q4⟩ := hx
         refine ⟨A, cap, q1, q2, q3, fun h => ?_⟩
         obtain ⟨b, q5, q6⟩ := q4 h
         have e9 : detR ρ n st.heap.length n = ρ n := by simp [detR]
         rw [e9] at q5
         exact ⟨b, by simp [detR]; exact q5, q6⟩)
        exact ⟨_, k1, i2.trans k2⟩
       ·cases hp
      ·injection hp with hp; injection hp with e1 e2; subst e1; subst e2
       obtain ⟨f1, f2⟩ := acc_fb hs
       refine ⟨f1, fun hl => by rw [f2]; exact hl, fun ok w0 ρ a w hi hl => ?_⟩
       obtain ⟨k1, k2⟩ := acc_refine hg hs hi (fun x hx => hx)
       exact ⟨ρ, k1, k2⟩
     ·cases hp
end
end Go.Eng
