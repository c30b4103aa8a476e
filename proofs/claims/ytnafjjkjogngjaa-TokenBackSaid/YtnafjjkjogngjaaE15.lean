/- Operations that make memory, second part: slices. -/
import Derived.Test.YtnafjjkjogngjaaE14
set_option linter.unusedVariables false
set_option linter.unusedSimpArgs false
namespace Go.Eng
open Go Go.RowKit

section
variable {P : Program} {cx : Cx} {ok : Nat → Prop} {w0 : World} {ρ : Rho} {st : St} {a : Act} {w : World} {h : Heap}

theorem Less.refl (h : Heap) : Less h h [] := ⟨fun n hn => by simp at hn, fun _ hn => hn⟩

theorem kill_length : ∀ (ks : List Nat) (h : Heap), (kill h ks).length = h.length
  | [], h => rfl
  | k :: ks, h => by rw [kill, kill_length ks]; simp
theorem lk_kill : ∀ (ks : List Nat) (h : Heap) (n : Nat), lk (kill h ks) n = if n ∈ ks then none else lk h n
  | [], h, n => by simp [kill]
  | k :: ks, h, n => by
    rw [kill, lk_kill ks, lk_set]
    by_cases h1 : n ∈ ks
    · simp [h1]
    · rw [if_neg h1]
      by_cases h2 : n = k
      · subst h2
        rw [if_pos (List.mem_cons_self ..)]
        by_cases hl : n < h.length
        · rw [if_pos ⟨rfl, hl⟩]
        · rw [if_neg (fun e => hl e.2)]
          simp [lk, List.getD_eq_getElem?_getD, List.getElem?_eq_none (Nat.le_of_not_lt hl)]
      · rw [if_neg (fun e => h2 e.1), if_neg (by simp [h1, h2])]
theorem Less.kill (h : Heap) (ks : List Nat) : Less h (Eng.kill h ks) ks :=
  ⟨fun n hn => by rw [lk_kill, if_pos hn], fun n hn => by
    rw [lk_kill] at hn
    split at hn
    · cases hn
    · exact hn⟩
theorem HInv.kills : ∀ (ks : List Nat) {h : Heap}, HInv cx ok w0 ρ h w → HInv cx ok w0 ρ (Eng.kill h ks) w
  | [], h, hi => hi
  | k :: ks, h, hi => HInv.kills ks (hi.kill k)

/-- a draw turns nothing -/
theorem Ext.drew (N : Nat) (ok : Nat → Prop) (ρ : Rho) (w : World) : Ext N ok ok ρ ρ w w.drew := ⟨fun _ _ _ h => h, fun _ _ _ => rfl, fun _ _ h => h, fun _ _ => rfl, Nat.le_refl _⟩
theorem HInv.drew (hi : HInv cx ok w0 ρ h w) : HInv cx ok w0 ρ h w.drew :=
  ⟨fun n b hn => Ext.all_B (fun N => Ext.drew N _ _ _) hi.lt (fun _ _ => rfl) (fun h => h) (hi.heap n b hn), hi.inj, hi.own, hi.fresh, hi.below.drew⟩

theorem RL.ext {t : ET} {l : List (Ty t)} {vs : List Value} {ok' : Nat → Prop} {ρ' : Rho} {w' : World} (hr : RL cx ok w t l vs) (e : Ext 0 ok ok' ρ ρ' w w') : RL cx ok' w' t l vs := fun i j hi hj => RD.of_ext e (hr i j hi hj)

theorem roomOf_new (w : World) (vs : List Value) (T : TypeId) : World.roomOf (w.alloc (.cells vs.toArray T)) w.heap.size = vs.length := by
  unfold World.roomOf
  rw [heap_alloc_new]
  simp

/-- a new row of the call's own -/
theorem new_arr (hi : HInv cx ok w0 ρ h w) {nm : Nat} (hρ : ρ nm = none) (hl : nm < h.length) (hk : lk h nm = none) {T : TypeId} {t : ET} {l : List (Ty t)} {vs : List Value} {full : Bool} {cap : Nat} (hrl : RL cx (okc ok w0.heap.size h ρ) w t l vs)
    (hlen : l.length * width t ≤ vs.length) (hcap : cap * width t ≤ vs.length) (hle : l.length ≤ cap) (hf : full = true → cap = l.length) :
    HInv cx ok w0 (upd ρ nm (some w.heap.size)) (h.set nm (some (.arr T t l))) (w.alloc (.cells vs.toArray T)) ∧
    RC cx (upd ρ nm (some w.heap.size)) (okc ok w0.heap.size (h.set nm (some (.arr T t l))) (upd ρ nm (some w.heap.size))) (w.alloc (.cells vs.toArray T)) (.own nm t full 0 l.length) (.slice (some ⟨w.heap.size, 0, none⟩) l.length cap) := by
  have hx := ext_new hi hρ (.cells vs.toArray T) (some (.arr T t l))
  refine ⟨hi.new hρ hl hk _ _ (.inr ⟨_, vs, upd_same _ _ _, heap_alloc_new w _, hlen, hrl.ext (hx 0)⟩), _, cap, rfl, hle, hf, fun _ => ⟨_, upd_same _ _ _, by rw [Nat.zero_mul], ?_⟩⟩
  rw [roomOf_new, Nat.zero_add]
  exact hcap

/-- no row: nothing in it -/
theorem no_arr (hi : HInv cx ok w0 ρ h w) {nm : Nat} (hρ : ρ nm = none) (hl : nm < h.length) (hk : lk h nm = none) {T : TypeId} {t : ET} :
    HInv cx ok w0 ρ (h.set nm (some (.arr T t []))) w ∧ ∀ N, Ext N (okc ok w0.heap.size h ρ) (okc ok w0.heap.size (h.set nm (some (.arr T t []))) ρ) ρ ρ w w := by
  have hx : ∀ N, Ext N (okc ok w0.heap.size h ρ) (okc ok w0.heap.size (h.set nm (some (.arr T t []))) ρ) ρ ρ w w := fun N =>
    ⟨fun _ _ _ e => e, fun _ _ _ => rfl, fun k _ ho => ⟨ho.1, fun n hn => by
      by_cases e : n = nm
      · subst e; rw [hρ]; intro h; cases h
      · rw [lk_set_ne e] at hn; exact ho.2 n hn⟩, fun _ _ => rfl, Nat.le_refl _⟩
  refine ⟨⟨fun n b hn => ?_, fun n m b hn hm h1 h2 => ?_, hi.own, fun n hn => hi.fresh n (by simpa using hn), hi.below⟩, hx⟩
  · by_cases e : n = nm
    · subst e; rw [lk_set_same hl] at hn; injection hn with hn; subst hn; exact .inl ⟨rfl, hρ⟩
    · rw [lk_set_ne e] at hn; exact Ext.all_B hx hi.lt (fun _ _ => rfl) (fun h => h) (hi.heap n b hn)
  · have e1 : n ≠ nm := fun e => by rw [e, hρ] at h1; cases h1
    have e2 : m ≠ nm := fun e => by rw [e, hρ] at h2; cases h2
    rw [lk_set_ne e1] at hn; rw [lk_set_ne e2] at hm
    exact hi.inj n m b hn hm h1 h2

theorem zval_cells {e : TypeId} {ie : TI} {t : ET} (ht : TyOk P cx e ie) (hz : ie.zero.map zval = (enc t (dflt t)).map zval) (hs : ie.size = width t) : (mkv ie.agg (ie.zero.map zval)).cells = ((enc t (dflt t)).map zval).toArray := by
  rw [hz]
  refine mkv_cells (fun hg => ?_)
  have h1 := ht.one hg
  have hlen : ((enc t (dflt t)).map zval).length = 1 := by simp [enc_length]; omega
  have hr := RCs_zero (ρ := fun _ => none) (ok := fun _ => True) (w := (default : World)) ht
  rw [hz] at hr
  match hv : (enc t (dflt t)).map zval, hlen with
  | [v], _ =>
    refine ⟨v, rfl, ?_⟩
    rw [hv] at hr
    exact RCs_oneCell hr v (List.mem_singleton.2 rfl)

theorem zero_dflt (t : ET) : ∀ d ∈ enc t (dflt t), zeroD d := by
  cases t <;> intro d hd <;> simp [enc, dflt] at hd
  all_goals first
    | (rcases hd with rfl | rfl | rfl | rfl | rfl | rfl | rfl <;> first | trivial | exact ⟨.inr rfl, rfl⟩ | rfl)
    | (rcases hd with rfl | rfl | rfl | rfl | rfl <;> first | trivial | exact ⟨.inr rfl, rfl⟩ | rfl)
    | (rcases hd with rfl | rfl | rfl | rfl <;> first | trivial | exact ⟨.inr rfl, rfl⟩ | rfl)
    | (rcases hd with rfl | rfl | rfl <;> first | trivial | exact ⟨.inr rfl, rfl⟩ | rfl)
    | (rcases hd with rfl | rfl <;> first | trivial | exact ⟨.inr rfl, rfl⟩ | rfl)
    | (subst hd; first | trivial | rfl)

theorem madeCells_getD (t : ET) (n : Nat) {i j : Nat} (hi : i < n) (hj : j < width t) : (madeCells ((enc t (dflt t)).map zval).toArray (n * width t)).toList.getD (i * width t + j) undef = zval ((enc t (dflt t)).getD j .nils) := by
  have hlt := idx_lt hi hj
  have hs : ((enc t (dflt t)).map zval).toArray.size = width t := by simp [enc_length]
  have e2 : (i * width t + j) % width t = j := by rw [Nat.mul_comm, Nat.mul_add_mod, Nat.mod_eq_of_lt hj]
  have hj' : j < (enc t (dflt t)).length := by rw [enc_length]; exact hj
  simp [madeCells, List.getD_eq_getElem?_getD, hlt, hs, e2, hj', enc_length]
  rw [List.getElem?_eq_getElem hj']
  rfl

theorem RL_zero (t : ET) (n : Nat) : RL cx ok w t (List.replicate n (dflt t)) (madeCells ((enc t (dflt t)).map zval).toArray (n * width t)).toList := by
  intro i j hi hj
  have hi' : i < n := by simpa using hi
  rw [madeCells_getD t n hi' hj]
  have e : cellAt t (List.replicate n (dflt t)) i j = (enc t (dflt t)).getD j .nils := by
    unfold cellAt
    congr 2
    simp [List.getD_eq_getElem?_getD, hi']
  rw [e]
  exact RD_zero (zero_dflt t _ (getD_mem (by rw [enc_length]; exact hj)))

theorem does_makeSlice (hcx : CxOk P cx) (hi : Inv cx ok w0 ρ st a w) {nm : Nat} (hρ : ρ nm = none) (hl : nm < st.heap.length) (hk : lk st.heap nm = none) {o : Oper} {T e : TypeId} {t : ET} {sz : Nat} {z : List D} {es : List (Option ET)} {x y : Operand} {n m : Int} (ho : o.op = .makeSlice T x y)
    (hT : cx.tt T = some ⟨.slice e t, sz, z, es⟩) (hx : opv st.env x = .v false [.d (.sc (.int .i64 n))]) (hy : opv st.env y = .v false [.d (.sc (.int .i64 m))]) (h0 : 0 ≤ n) (h1 : n ≤ 1048576) (h2 : n = m) :
    Does P cx ok w0 ρ st a w nm o (.v false [.own nm t true 0 n.toNat]) (st.heap.set nm (some (.arr e t (List.replicate n.toNat (dflt t))))) := by
  subst h2
  obtain ⟨hu, ie, hie, hsz, hz⟩ := und_of hcx hT
  have hte := hcx.ty _ _ hie
  obtain ⟨inf, g1, g2, g3, g4⟩ := hte.info
  have hcells := zval_cells hte hz hsz
  have hrun := run_make (P := P) w T e inf _ hu g1 g3 .i64 .i64 n n h0 (Int.le_refl _) (by
    have : (inf.bytes : Int) * n ≤ 4096 * 1048576 := Int.mul_le_mul (by omega) h1 h0 (by omega)
    omega) (by omega)
  rw [hcells, g2, hsz] at hrun
  have key := new_arr (h := st.heap) hi.hv hρ hl hk (T := e) (full := true) (cap := n.toNat) (RL_zero (cx := cx) (ok := okc ok w0.heap.size st.heap ρ) (w := w) t n.toNat) (by simp [size_madeCells]) (by simp [size_madeCells]) (by simp) (fun _ => by simp)
  obtain ⟨k1, k2⟩ := key
  have hx' := ext_new hi.hv hρ (.cells (madeCells ((enc t (dflt t)).map zval).toArray (n.toNat * width t)) e) (some (.arr e t (List.replicate n.toNat (dflt t))))
  refine ⟨_, _, _, _, ?_, .inl rfl, fun q hq => upd_ne hq, hx', by simpa using k1, RV_of_c (by simpa using k2)⟩
  simp [execOp, ho, op_sc hi hx, op_sc hi hy, Sc.val, hrun]

/-- rows of a literal -/
theorem rows_ok (hcx : CxOk P cx) (hi : Inv cx ok w0 ρ st a w) {e : TypeId} {t : ET} {h' : Heap} : ∀ (parts : List (Nat × Operand)) (l l' : List (Ty t)) (ks ks' : List Nat) (p p' : Bool) (vs : List Value), rowsB cx e t st.env st.heap parts l ks p = some (l', ks', p') → p' = true →
    Less st.heap h' ks' → vs.length = l.length * width t → RL cx (okc ok w0.heap.size h' ρ) w t l vs →
      (∀ n ∈ ks, n ∈ ks') ∧ p = true ∧ l'.length = l.length ∧ ∃ vs' : List Value, Instr.fill (fun i => some (i * width t, width t)) vs.toArray (parts.map fun (i, x) => (i, a.eval x)) = some vs'.toArray ∧ vs'.length = l'.length * width t ∧ RL cx (okc ok w0.heap.size h' ρ) w t l' vs'
  | [], l, l', ks, ks', p, p', vs, h, hp, hl, hv, hr => by
    simp only [rowsB, Option.some.injEq, Prod.mk.injEq] at h
    obtain ⟨rfl, rfl, rfl⟩ := h
    exact ⟨fun _ h => h, hp, rfl, vs, rfl, hv, hr⟩
  | (i, x) :: r, l, l', ks, ks', p, p', vs, h, hp, hl, hv, hr => by
    have hx := RV_norm (T := e) (RV_op hi x)
    unfold rowsB at h
    split at h
    · rename_i g ys hn
      rw [hn] at hx
      split at h
      · rename_i ds k q hd
        split at h
        · rename_i y hy
          split at h
          · rename_i hlt
            obtain ⟨us, e1, e2, _⟩ := RA_cells hx
            have hin : ∀ (l2 : List (Ty t)) (r2 : List (Nat × Operand)) (ks2 : List Nat) (p2 : Bool), rowsB cx e t st.env st.heap r2 l2 ks2 p2 = some (l', ks', p') → (∀ n ∈ ks2, n ∈ ks') ∧ p2 = true := by
              intro l2 r2
              induction r2 generalizing l2 with
              | nil =>
                intro ks2 p2 h2
                simp only [rowsB, Option.some.injEq, Prod.mk.injEq] at h2
                obtain ⟨_, rfl, rfl⟩ := h2
                exact ⟨fun _ h => h, hp⟩
              | cons z r2 ih =>
                intro ks2 p2 h2
                unfold rowsB at h2
                repeat (split at h2 <;> try cases h2)
                have := ih _ _ _ h2
                simp only [Bool.and_eq_true] at this
                exact ⟨fun n hn => this.1 n (List.mem_append.2 (.inl hn)), this.2.1⟩
            obtain ⟨hks, hpq⟩ := hin _ _ _ _ h
            simp only [Bool.and_eq_true] at hpq
            obtain ⟨d1, d2⟩ := demL_ok hi.hv ys ds k q us hd hpq.2 (hl.sub fun n hn => hks n (List.mem_append.2 (.inr hn))) e2
            obtain ⟨d3, d4⟩ := dec_ok (cx := cx) (ok := okc ok w0.heap.size h' ρ) (w := w) t ds y hy
            have hul : us.length = width t := by rw [d1, d3]
            have hfit : i * width t + us.length ≤ vs.length := by
              rw [hv, hul]
              have : (i + 1) * width t ≤ l.length * width t := Nat.mul_le_mul_right _ hlt
              rw [Nat.add_mul, Nat.one_mul] at this
              exact this
            obtain ⟨_, _, g3, vs', g4, g5, g6⟩ := rows_ok hcx hi r (l.set i y) l' _ ks' _ p' (putL vs (i * width t) us) h hp hl (by rw [putL_length, hv]; simp) (fun i' j' hi' hj' => by
              have hi2 : i' < l.length := by simpa using hi'
              rw [putL_getD undef us vs _ _ hfit]
              by_cases hik : i' = i
              · subst hik
                have ec : cellAt t (l.set i' y) i' j' = (enc t y).getD j' .nils := by
                  unfold cellAt
                  congr 2
                  simp [List.getD_eq_getElem?_getD, List.getElem?_set, hi2]
                rw [ec, if_pos (by omega), show i' * width t + j' - i' * width t = j' from by omega]
                exact d4 j' _ hj' (d2 j' (by omega))
              · have ec : cellAt t (l.set i y) i' j' = cellAt t l i' j' := by
                  unfold cellAt
                  congr 2
                  simp [List.getD_eq_getElem?_getD, List.getElem?_set, show ¬ i = i' from fun e => hik e.symm]
                rw [ec, if_neg]
                · exact hr i' j' hi2 hj'
                · intro hin
                  rcases Nat.lt_or_ge i' i with hlt' | hge
                  · have : (i' + 1) * width t ≤ i * width t := Nat.mul_le_mul_right _ hlt'
                    rw [Nat.add_mul, Nat.one_mul] at this
                    omega
                  · have : (i + 1) * width t ≤ i' * width t := Nat.mul_le_mul_right _ (by omega)
                    rw [Nat.add_mul, Nat.one_mul] at this
                    omega)
            refine ⟨fun n hn => hks n (List.mem_append.2 (.inl hn)), hpq.1, by simpa using g3, vs', ?_, g5, g6⟩
            have hzip : (us.toArray.zipIdx.foldl (fun (cs : Array Value) (x : Value × Nat) => cs.setIfInBounds (i * width t + x.2) x.1) vs.toArray) = (putL vs (i * width t) us).toArray := by
              apply Array.ext'
              have := fold_put us 0 vs.toArray (i * width t)
              simpa using this
            simp only [List.map_cons, Instr.fill, e1, List.size_toArray]
            rw [if_neg]
            · rw [hzip]; exact g4
            · simp; omega
          · cases h
        · cases h
      · cases h
    · cases h

theorem does_buildSlice (hcx : CxOk P cx) (hi : Inv cx ok w0 ρ st a w) {nm : Nat} (hρ : ρ nm = none) (hl : nm < st.heap.length) (hk : lk st.heap nm = none) {o : Oper} {T e : TypeId} {t : ET} {sz n : Nat} {z : List D} {es : List (Option ET)} {parts : Array (Nat × Operand)} {l : List (Ty t)} {ks : List Nat} {p : Bool}
    (ho : o.op = .buildSlice T n parts) (hT : cx.tt T = some ⟨.slice e t, sz, z, es⟩) (hr : rowsB cx e t st.env st.heap parts.toList (List.replicate n (dflt t)) [] true = some (l, ks, p)) (hp : p = true) (hn : n ≤ 1000) :
    Does P cx ok w0 ρ st a w nm o (.v false [.own nm t true 0 n]) ((kill st.heap ks).set nm (some (.arr e t l))) := by
  obtain ⟨hu, ie, hie, hsz, hz⟩ := und_of hcx hT
  have hte := hcx.ty _ _ hie
  obtain ⟨inf, g1, g2, g3, g4⟩ := hte.info
  have hcells := zval_cells hte hz hsz
  have hless := Less.kill st.heap ks
  obtain ⟨_, _, hll, vs', f1, f2, f3⟩ := rows_ok hcx hi parts.toList (List.replicate n (dflt t)) l [] ks true p (madeCells ((enc t (dflt t)).map zval).toArray (n * width t)).toList hr hp hless (by simp [size_madeCells]) (RL_zero t n)
  have hll' : l.length = n := by simpa using hll
  have hrun : (Instr.buildSlice T n (parts.map fun (i, x) => (i, a.eval x))).run P w = .ok (.slice (some ⟨w.heap.size, 0, none⟩) n n) (w.alloc (.cells vs'.toArray e)) := by
    have hw : width t ≤ 7 := by cases t <;> decide
    have hsmall : ¬ n * inf.size > 2 ^ 24 := by
      rw [g2, hsz]
      have : n * width t ≤ 1000 * 7 := Nat.mul_le_mul hn hw
      omega
    have hfill : Instr.fill (fun i => some (i * inf.size, inf.size)) (madeCells ((enc t (dflt t)).map zval).toArray (n * inf.size)) (parts.map fun (i, x) => (i, a.eval x)).toList = some vs'.toArray := by
      rw [g2, hsz, Array.toList_map]
      simpa using f1
    by_cases h0 : n * inf.size = 0
    · have hn0 : n = 0 := by
        rcases Nat.mul_eq_zero.1 h0 with h | h
        · exact h
        · rw [g2, hsz] at h; have := width_pos t; omega
      subst hn0
      have hv0 : vs' = [] := by
        apply List.length_eq_zero_iff.1
        rw [f2, hll', Nat.zero_mul]
      subst hv0
      have hpe : parts.toList = [] := by
        cases hpl : parts.toList with
        | nil => rfl
        | cons q r =>
          rw [hpl] at hr
          unfold rowsB at hr
          repeat (split at hr <;> try cases hr)
          all_goals (rename_i hlt; simp at hlt)
      have hpe' : parts = #[] := Array.toList_inj.1 hpe
      subst hpe'
      simp only [Instr.buildSlice, Sem.run_bind, run_underlying hu, Result.andThen_ok]
      simp [sizeOf, typeInfo, g1, newRow, Instr.fill, Array.range_zero']
    · have := run_buildSlice w T e n (parts.map fun (i, x) => (i, a.eval x)) vs'.toArray inf _ hu g1 g3 hsmall h0 (by rw [hcells]; exact hfill)
      exact this
  have hk' : lk (kill st.heap ks) nm = none := by
    rw [lk_kill]
    split
    · rfl
    · exact hk
  have key := new_arr (h := kill st.heap ks) (HInv.kills ks hi.hv) hρ (by rw [kill_length]; exact hl) hk' (T := e) (full := true) (cap := n) f3 (by omega) (by rw [f2, hll']; exact Nat.le_refl _) (by omega) (fun _ => hll'.symm)
  rw [hll'] at key
  have hx' := ext_new (HInv.kills ks hi.hv) hρ (.cells vs'.toArray e) (some (.arr e t l))
  refine ⟨_, _, _, _, ?_, .inl rfl, fun q hq => upd_ne hq, fun N => (hless.ext N).trans (hx' N), key.1, RV_of_c key.2⟩
  simp [execOp, ho, hrun]
end
end Go.Eng
