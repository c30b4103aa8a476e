/- Operations that make memory, third part: append. -/
import Derived.Test.YtnafjjkjogngjaaE15
set_option linter.unusedVariables false
set_option linter.unusedSimpArgs false
namespace Go.Eng
open Go Go.RowKit

section
variable {P : Program} {cx : Cx} {ok : Nat → Prop} {w0 : World} {ρ : Rho} {st : St} {a : Act} {w : World} {h : Heap}

/-- a row goes on under a new name -/
theorem move_ok (hi : HInv cx ok w0 ρ h w) {n nm : Nat} {w' : World} (hs : (lk h n).isSome = true) (hne : n ≠ nm) (hρ : ρ nm = none) (hl : nm < h.length) (hk : lk h nm = none) (hw : ∀ k, ρ n ≠ some k → w'.heap[k]? = w.heap[k]?) (hsz : w'.heap.size = w.heap.size)
    (hroom : ∀ k, World.roomOf w' k = World.roomOf w k) (hB : Below w0.heap.size w0 w') {blk : Blk}
    (hblk : RB cx (upd ρ nm (ρ n)) (okc ok w0.heap.size ((h.set n none).set nm (some blk)) (upd ρ nm (ρ n))) w' nm blk) :
    (∀ N, Ext N (okc ok w0.heap.size h ρ) (okc ok w0.heap.size ((h.set n none).set nm (some blk)) (upd ρ nm (ρ n))) ρ (upd ρ nm (ρ n)) w w') ∧ HInv cx ok w0 (upd ρ nm (ρ n)) ((h.set n none).set nm (some blk)) w' := by
  have hlk : ∀ m, m ≠ nm → lk ((h.set n none).set nm (some blk)) m = if m = n then none else lk h m := fun m hm => by
    rw [lk_set_ne hm, lk_set]
    by_cases e : m = n
    · rw [if_pos ⟨e, lk_lt hs⟩, if_pos e]
    · rw [if_neg (fun x => e x.1), if_neg e]
  have live : ∀ m, m ≠ nm → (lk ((h.set n none).set nm (some blk)) m).isSome = true → m ≠ n ∧ (lk h m).isSome = true := fun m hm hx => by
    rw [hlk m hm] at hx
    split at hx
    · cases hx
    · rename_i e; exact ⟨e, hx⟩
  have hx : ∀ N, Ext N (okc ok w0.heap.size h ρ) (okc ok w0.heap.size ((h.set n none).set nm (some blk)) (upd ρ nm (ρ n))) ρ (upd ρ nm (ρ n)) w w' := fun N =>
    ⟨fun m b _ hm => by
      have : m ≠ nm := fun e => by rw [e, hρ] at hm; cases hm
      rw [upd_ne this]; exact hm,
     fun k _ ho => hw k (ho.2 n hs),
     fun k _ ho => ⟨ho.1, fun m hm => by
      by_cases e : m = nm
      · rw [e, upd_same]; exact ho.2 n hs
      · rw [upd_ne e]; exact ho.2 m (live m e hm).2⟩,
     fun k _ => hroom k, by rw [hsz]; exact Nat.le_refl _⟩
  refine ⟨hx, fun m c hm => ?_, fun m1 m2 k h1 h2 g1 g2 => ?_, fun m k hm => ?_, fun m hm => ?_, hB⟩
  · by_cases e : m = nm
    · subst e
      rw [lk_set_same (by simpa using hl)] at hm
      injection hm with hm; subst hm; exact hblk
    · have hlv := live m e (by rw [hm]; rfl)
      rw [hlk m e, if_neg hlv.1] at hm
      refine Ext.all_B hx hi.lt (fun k hk2 => hw k (fun e2 => hlv.1 (hi.inj m n k hlv.2 hs hk2 e2))) (fun h0 => by rw [upd_ne e]; exact h0) (hi.heap m c hm)
  · by_cases e1 : m1 = nm <;> by_cases e2 : m2 = nm
    · rw [e1, e2]
    · rw [e1, upd_same] at g1; rw [upd_ne e2] at g2
      have := live m2 e2 h2
      exact absurd (hi.inj m2 n k this.2 hs g2 g1) this.1
    · rw [e2, upd_same] at g2; rw [upd_ne e1] at g1
      have := live m1 e1 h1
      exact absurd (hi.inj m1 n k this.2 hs g1 g2) this.1
    · rw [upd_ne e1] at g1; rw [upd_ne e2] at g2
      exact hi.inj m1 m2 k (live m1 e1 h1).2 (live m2 e2 h2).2 g1 g2
  · by_cases e : m = nm
    · rw [e, upd_same] at hm; have := hi.own n k hm; exact ⟨this.1, by rw [hsz]; exact this.2⟩
    · rw [upd_ne e] at hm; have := hi.own m k hm; exact ⟨this.1, by rw [hsz]; exact this.2⟩
  · have hm' : h.length ≤ m := by simpa using hm
    have : m ≠ nm := fun e => by omega
    rw [upd_ne this]; exact hi.fresh m hm'

theorem cellAt_append {t : ET} {l m : List (Ty t)} {i j : Nat} : cellAt t (l ++ m) i j = if i < l.length then cellAt t l i j else cellAt t m (i - l.length) j := by
  unfold cellAt
  split
  · rename_i hi
    congr 2
    simp [List.getD_eq_getElem?_getD, List.getElem?_append, hi]
  · rename_i hi
    congr 2
    simp [List.getD_eq_getElem?_getD, List.getElem?_append, hi]

theorem RL_append {t : ET} {l m : List (Ty t)} {us vs rest : List Value} (h1 : us.length = l.length * width t) (h2 : vs.length = m.length * width t) (r1 : RL cx ok w t l us) (r2 : RL cx ok w t m vs) : RL cx ok w t (l ++ m) (us ++ vs ++ rest) := by
  intro i j hi hj
  rw [cellAt_append]
  rw [List.length_append] at hi
  split
  · rename_i h
    have hlt := idx_lt h hj
    have := r1 i j h hj
    rw [show (us ++ vs ++ rest).getD (i * width t + j) undef = us.getD (i * width t + j) undef from by
      rw [List.append_assoc]
      simp [List.getD_eq_getElem?_getD, List.getElem?_append, show i * width t + j < us.length by omega]]
    exact this
  · rename_i h
    have h' : i - l.length < m.length := by omega
    have hlt := idx_lt h' hj
    have := r2 (i - l.length) j h' hj
    have e : i * width t + j = us.length + ((i - l.length) * width t + j) := by
      rw [h1, ← Nat.add_assoc, ← Nat.add_mul]
      congr 2
      omega
    rw [show (us ++ vs ++ rest).getD (i * width t + j) undef = vs.getD ((i - l.length) * width t + j) undef from by
      rw [e, List.append_assoc]
      simp [List.getD_eq_getElem?_getD, List.getElem?_append, show (i - l.length) * width t + j < vs.length by omega]
      rw [if_neg (by omega)]
      rfl]
    exact this

theorem RL_take {t : ET} {l : List (Ty t)} {vs vs' : List Value} {n : Nat} (hn : n ≤ l.length) (r : RL cx ok w t l vs) (hv : ∀ q, q < n * width t → vs'.getD q undef = vs.getD q undef) : RL cx ok w t (l.take n) vs' := by
  intro i j hi hj
  have hi' : i < n := by simp at hi; omega
  rw [hv _ (idx_lt hi' hj)]
  have e : cellAt t (l.take n) i j = cellAt t l i j := by
    unfold cellAt
    congr 2
    simp [List.getD_eq_getElem?_getD, hi']
  rw [e]
  exact r i j (by omega) hj

theorem run_grow {T T2 e ty e2 : TypeId} {ie : TI} {t : ET} {lb lx : List (Ty t)} {f1 f2 o1 o2 : Bool} {d1 d2 : List Nat} {vb vx : Value} {A A2 : Option Addr} {cap cap2 : Nat} {olds news : List Value} (hu : P.underlying T = some (.slice e)) (hu2 : P.underlying T2 = some (.slice e2)) (hte : TyOk P cx e ie) (hsz : ie.size = width t)
    (hz : ie.zero.map zval = (enc t (dflt t)).map zval) (rb : SlRead cx ok w ⟨t, lb, f1, d1, o1⟩ vb A cap olds) (rx : SlRead cx ok w ⟨t, lx, f2, d2, o2⟩ vx A2 cap2 news) (hg : cap < lb.length + lx.length) (hb : lb.length + lx.length ≤ 1048576) :
    ∃ cap' rest, (Builtin.append_ #[T, T2] ty #[vb, vx]).run P w = .ok (.slice (some ⟨w.heap.size, 0, none⟩) (lb.length + lx.length) cap') (w.drew.alloc (.cells (olds ++ news ++ rest).toArray e)) ∧ lb.length + lx.length ≤ cap' ∧ (olds ++ news ++ rest).length = cap' * width t := by
  obtain ⟨inf, g1, g2, g3, g4⟩ := hte.info
  have hcells := zval_cells hte hz hsz
  have hsb := rb.src (P := P) hu
  have hsx := rx.src (P := P) hu2
  simp only at hsb hsx
  have hw : inf.size = width t := by rw [g2, hsz]
  have hfit : Builtin.nextslicecap (lb.length + lx.length) cap * inf.bytes ≤ 281474976710656 := by
    have h1 := nextslicecap_le_wide hg
    have h2 : Builtin.nextslicecap (lb.length + lx.length) cap * inf.bytes ≤ 1400000 * 4096 := Nat.mul_le_mul (by omega) g4
    omega
  have hv := rb.shape
  have hcd := hsb.cellsD
  simp only at hv
  rw [hv] at hcd
  have hrun := run_append_grow_src w T T2 ty e inf _ hu g1 g3 A lb.length cap olds (by rw [hw]; exact hcd) vx lx.length news (by rw [hw]; exact hsx) hg (by omega) hfit
  rw [← hv, hcells] at hrun
  refine ⟨grownCap w (lb.length + lx.length) cap e, (Builtin.zeroCells ((enc t (dflt t)).map zval).toArray (grownCap w (lb.length + lx.length) cap e - (lb.length + lx.length))).toList, ?_, grownCap_ge w _ _ _, ?_⟩
  · rw [hrun]
    congr 3
    apply Array.ext'
    simp
  · have l1 := rb.len
    have l2 := rx.len
    simp only at l1 l2
    have hge := grownCap_ge w (lb.length + lx.length) cap e
    simp only [List.length_append, l1, l2, Array.length_toList, size_zeroCells]
    rw [← Nat.add_mul, show ((enc t (dflt t)).map zval).toArray.size = width t from by simp [enc_length], ← Nat.add_mul]
    congr 1
    omega

/-- a row that is made by append, out of what was killed or let alone -/
theorem grown_arr (hi : HInv cx ok w0 ρ h w) {h1 : Heap} {ks : List Nat} (hless : Less h h1 ks) (hi1 : HInv cx ok w0 ρ h1 w) {nm : Nat} (hρ : ρ nm = none) (hl : nm < h1.length) (hk : lk h1 nm = none) {e : TypeId} {t : ET} {lb lx : List (Ty t)} {olds news rest : List Value} {cap' : Nat}
    (l1 : olds.length = lb.length * width t) (l2 : news.length = lx.length * width t) (r1 : RL cx (okc ok w0.heap.size h ρ) w t lb olds) (r2 : RL cx (okc ok w0.heap.size h ρ) w t lx news) (hc1 : lb.length + lx.length ≤ cap') (hc2 : (olds ++ news ++ rest).length = cap' * width t) :
    (∀ N, Ext N (okc ok w0.heap.size h ρ) (okc ok w0.heap.size (h1.set nm (some (.arr e t (lb ++ lx)))) (upd ρ nm (some w.heap.size))) ρ (upd ρ nm (some w.heap.size)) w (w.drew.alloc (.cells (olds ++ news ++ rest).toArray e))) ∧
    HInv cx ok w0 (upd ρ nm (some w.heap.size)) (h1.set nm (some (.arr e t (lb ++ lx)))) (w.drew.alloc (.cells (olds ++ news ++ rest).toArray e)) ∧
    RC cx (upd ρ nm (some w.heap.size)) (okc ok w0.heap.size (h1.set nm (some (.arr e t (lb ++ lx)))) (upd ρ nm (some w.heap.size))) (w.drew.alloc (.cells (olds ++ news ++ rest).toArray e)) (.own nm t false 0 (lb.length + lx.length)) (.slice (some ⟨w.heap.size, 0, none⟩) (lb.length + lx.length) cap') := by
  have hrl : RL cx (okc ok w0.heap.size h1 ρ) w.drew t (lb ++ lx) (olds ++ news ++ rest) := (RL_append l1 l2 r1 r2).ext ((hless.ext (w := w) 0).trans (Ext.drew 0 _ _ _))
  have hcap : (lb ++ lx).length * width t ≤ (olds ++ news ++ rest).length := by
    rw [hc2, List.length_append]
    exact Nat.mul_le_mul_right _ hc1
  have key := new_arr (h := h1) (w := w.drew) hi1.drew hρ hl hk (T := e) (full := false) (cap := cap') hrl hcap (by omega) (by rw [List.length_append]; exact hc1) (fun e => by cases e)
  rw [List.length_append] at key
  refine ⟨fun N => ((hless.ext (w := w) N).trans (Ext.drew N _ _ _)).trans (ext_new (w := w.drew) hi1.drew hρ _ _ N), key.1, key.2⟩

theorem run_builtin {o : Oper} {cl : Call} {b : Builtin} {u : Value} {w' : World} (ho : o.op = .call cl) (hb : cl.callee = .builtin b) (hr : ∀ cs, (builtin b cl.argTypes o.type cs (cl.args.map a.eval)).run P w = .ok (.value u) w') : (execOp a.eval o).run P w = .ok (.value u) w' := by
  simp [execOp, ho, resolve, hb, invoke, hr]

theorem args_two {cl : Call} {x y : Operand} (h : cl.args.toList = [x, y]) : cl.args.map a.eval = #[a.eval x, a.eval y] := by
  have : cl.args = #[x, y] := Array.toList_inj.1 h
  rw [this]; simp
theorem args_one {cl : Call} {x : Operand} (h : cl.args.toList = [x]) : cl.args.map a.eval = #[a.eval x] := by
  have : cl.args = #[x] := Array.toList_inj.1 h
  rw [this]; simp

/-- append makes a new row -/
theorem app_grow (hi : Inv cx ok w0 ρ st a w) {nm : Nat} (hρ : ρ nm = none) (hl : nm < st.heap.length) {o : Oper} {S X : Operand} {T T2 E e2 : TypeId} {t : ET} {ie : TI} {h1 : Heap} {ks : List Nat} (hless : Less st.heap h1 ks) (hi1 : HInv cx ok w0 ρ h1 w) (hl1 : h1.length = st.heap.length) (hk : lk h1 nm = none)
    (run : ∀ u w', (Builtin.append_ #[T, T2] o.type #[a.eval S, a.eval X]).run P w = .ok u w' → (execOp a.eval o).run P w = .ok (.value u) w')
    (hu : P.underlying T = some (.slice E)) (hu2 : P.underlying T2 = some (.slice e2)) (hte : TyOk P cx E ie) (hsz : ie.size = width t) (hz : ie.zero.map zval = (enc t (dflt t)).map zval) {lb lx : List (Ty t)} {f1 f2 o1 o2 : Bool} {d1 d2 : List Nat} {A A2 : Option Addr} {cap cap2 : Nat} {olds news : List Value}
    (rb : SlRead cx (okc ok w0.heap.size st.heap ρ) w ⟨t, lb, f1, d1, o1⟩ (a.eval S) A cap olds) (rx : SlRead cx (okc ok w0.heap.size st.heap ρ) w ⟨t, lx, f2, d2, o2⟩ (a.eval X) A2 cap2 news) (hg : cap < lb.length + lx.length) (hb : lb.length + lx.length ≤ 1048576) :
    Does P cx ok w0 ρ st a w nm o (.v false [.own nm t false 0 (lb.length + lx.length)]) (h1.set nm (some (.arr E t (lb ++ lx)))) := by
  obtain ⟨cap', rest, q1, q2, q3⟩ := run_grow (ty := o.type) hu hu2 hte hsz hz rb rx hg hb
  obtain ⟨k1, k2, k3⟩ := grown_arr hi.hv hless hi1 hρ (by omega) hk (e := E) rb.len rx.len rb.rl rx.rl q2 q3
  exact ⟨_, _, _, _, run _ _ q1, .inl rfl, fun q hq => upd_ne hq, k1, k2, RV_of_c k3⟩

theorem does_append (hcx : CxOk P cx) (hi : Inv cx ok w0 ρ st a w) {nm : Nat} (hρ : ρ nm = none) (hl : nm < st.heap.length) (hk : lk st.heap nm = none) {o : Oper} {cl : Call} {S X : Operand} {T T2 : TypeId} {s x : C} {e : Eff} (ho : o.op = .call cl) (hb : cl.callee = .builtin .append)
    (hargs : cl.args.toList = [S, X]) (hts : cl.argTypes.toList = [T, T2]) (hS : opv st.env S = .v false [s]) (hX : opv st.env X = .v false [x]) {e2 : TypeId} {t2 : ET} {n2 : Nat} {z2 : List D} {es2 : List (Option ET)} (hT2 : cx.tt T2 = some ⟨.slice e2 t2, n2, z2, es2⟩)
    (he : appendE cx T nm st.heap s x = some e) (hok : e.ok = true) : Does P cx ok w0 ρ st a w nm o e.val e.heap := by
  have hs := op_c hi hS
  have hx := op_c hi hX
  have hu2 : P.underlying T2 = some (.slice e2) := (und_of hcx hT2).1
  have hty : cl.argTypes = #[T, T2] := Array.toList_inj.1 hts
  have run : ∀ u w', (Builtin.append_ #[T, T2] o.type #[a.eval S, a.eval X]).run P w = .ok u w' → (execOp a.eval o).run P w = .ok (.value u) w' := fun u w' h =>
    run_builtin ho hb (fun cs => by rw [hty, args_two hargs]; simp [builtin, h])
  unfold appendE at he
  split at he
  · rename_i E t sz z es hT
    obtain ⟨hu, ie, hie, hsz, hz⟩ := und_of hcx hT
    have hte := hcx.ty _ _ hie
    obtain ⟨inf, g1, g2, _⟩ := hte.info
    have hw : inf.size = width t := by rw [g2, hsz]
    have nothing : ∀ (A : Option Addr) (n cap : Nat) (l2 : List (Ty t)) (f2 p : Bool) (r2 : List Nat) (A2 : Option Addr) (cap2 : Nat) (news : List Value), a.eval S = .slice A n cap → n ≤ cap → SlRead cx (okc ok w0.heap.size st.heap ρ) w ⟨t, l2, f2, r2, p⟩ (a.eval X) A2 cap2 news → l2 = [] →
        (Builtin.append_ #[T, T2] o.type #[a.eval S, a.eval X]).run P w = .ok (.slice A n cap) w := by
      intro A n cap l2 f2 p r2 A2 cap2 news hSe hle rx hm
      subst hm
      have hsx := rx.src (P := P) hu2
      have hn0 : news = [] := by have := rx.len; simpa using this
      subst hn0
      rw [hSe]
      exact run_append_nothing w T T2 o.type E inf hu g1 A n cap hle _ (by rw [hw]; exact hsx)
    split at he
    · cases he
    · rename_i t' l2 f2 r2 p hsl
      split at he
      · rename_i ett; subst ett
        simp only at he
        split at he
        · injection he with he; subst he
          simp only [Bool.and_eq_true, decide_eq_true_eq] at hok
          obtain ⟨A2, cap2, news, rx⟩ := sl_read hi.hv hx hsl hok.1
          have hSe : a.eval S = .slice none 0 0 := by
            generalize a.eval S = vs at hs
            cases hs; rfl
          have rb : SlRead cx (okc ok w0.heap.size st.heap ρ) w ⟨t', [], true, [], true⟩ (a.eval S) none 0 [] := ⟨hSe, Nat.le_refl _, fun _ => rfl, by simp, fun i j hi => by simp at hi, fun hne => absurd rfl hne⟩
          by_cases hm : l2 = []
          · obtain ⟨q1, q2⟩ := no_arr hi.hv hρ hl hk (T := E) (t := t')
            have := nothing none 0 0 l2 f2 p r2 A2 cap2 news hSe (Nat.le_refl _) rx hm
            subst hm
            exact ⟨ρ, w, _, .slice none 0 0, run _ _ this, .inl rfl, fun _ _ => rfl, q2, q1, RV_of_c ⟨none, 0, rfl, Nat.le_refl _, (fun e => by cases e), (fun e => absurd rfl e)⟩⟩
          · have hpos : 0 < l2.length := List.length_pos_iff.2 hm
            have := app_grow hi hρ hl (Less.refl _) hi.hv rfl hk run hu hu2 hte hsz hz rb rx (by simpa using hpos) (by simpa using hok.2)
            simpa using this
        · rename_i nl full t'' l
          split at he
          · rename_i e1; subst e1
            injection he with he; subst he
            simp only [Bool.and_eq_true, Bool.or_eq_true, decide_eq_true_eq] at hok
            obtain ⟨⟨⟨hp, hfull⟩, hem⟩, hbd⟩ := hok
            obtain ⟨A2, cap2, news, rx⟩ := sl_read hi.hv hx hsl hp
            obtain ⟨A, cap, olds, rb⟩ := sl_read hi.hv hs (s := ⟨t'', l, full, [], true⟩) rfl rfl
            have hcap : cap = l.length := rb.full hfull
            by_cases hm : l2 = []
            · have hl0 : l = [] := by
                rcases hem with h | h
                · simpa using h
                · rw [hm] at h; simp at h
              subst hl0
              have hc0 : cap = 0 := by simpa using hcap
              subst hc0
              obtain ⟨q1, q2⟩ := no_arr hi.hv hρ hl hk (T := E) (t := t'')
              have := nothing A 0 0 l2 f2 p r2 A2 cap2 news rb.shape (Nat.le_refl _) rx hm
              subst hm
              exact ⟨ρ, w, _, .slice A 0 0, run _ _ this, .inl rfl, fun _ _ => rfl, q2, q1, RV_of_c ⟨A, 0, rfl, Nat.le_refl _, (fun e => by cases e), (fun e => absurd rfl e)⟩⟩
            · have hpos : 0 < l2.length := List.length_pos_iff.2 hm
              exact app_grow hi hρ hl (Less.refl _) hi.hv rfl hk run hu hu2 hte hsz hz rb rx (by omega) hbd
          · cases he
        · rename_i n tn fulln len
          split at he
          · rename_i E' t'' l hn
            split at he
            · rename_i e1; subst e1
              split at he
              · rename_i hcond
                simp only [Bool.and_eq_true, decide_eq_true_eq, beq_iff_eq, Bool.not_eq_true', List.contains_eq_mem, decide_eq_false_iff_not] at hcond
                obtain ⟨⟨htn, hE⟩, hr2⟩ := hcond
                subst htn; subst hE
                injection he with he; subst he
                simp only [Bool.and_eq_true, decide_eq_true_eq] at hok
                obtain ⟨⟨hp, hlen⟩, hbd⟩ := hok
                have hne : n ≠ nm := fun e => by rw [e, hk] at hn; cases hn
                obtain ⟨A2, cap2, news, rx⟩ := sl_read hi.hv hx hsl hp
                obtain ⟨A, cap, olds, rb⟩ := sl_read hi.hv hs (s := ⟨tn, sub l 0 (0 + len), fulln, [n], decide (0 + len ≤ l.length)⟩) (by simp [slOf, hn]) (by simpa using hlen)
                have etake : sub l 0 (0 + len) = l.take len := by simp [sub]
                rw [etake] at rb
                have elen : (l.take len).length = len := by simp; omega
                obtain ⟨A', cap', hSe, hle, hfl, hA⟩ := hs
                have hAA : A = A' ∧ cap = cap' := by
                  have := rb.shape
                  rw [hSe] at this
                  injection this with q1 q2 q3
                  exact ⟨q1.symm, q3.symm⟩
                obtain ⟨rfl, rfl⟩ := hAA
                by_cases hg : cap < len + l2.length
                · have hk1 : lk (st.heap.set n none) nm = none := by rw [lk_set_ne (fun e => hne e.symm)]; exact hk
                  have hless : Less st.heap (st.heap.set n none) [n] := by
                    have := Less.kill st.heap [n]
                    simpa [kill] using this
                  have := app_grow hi hρ hl hless (hi.hv.kill n) (by simp) hk1 run hu hu2 hte hsz hz rb rx (by rw [elen]; exact hg) (by rw [elen]; exact hbd)
                  rw [elen] at this
                  exact this
                · have hRB := hi.heap n _ hn
                  by_cases hm : l2 = []
                  · have hrun := nothing A len cap l2 f2 p r2 A2 cap2 news hSe hle rx hm
                    have mv := move_ok (w' := w) hi.hv (lk_some hn) hne hρ hl hk (fun _ _ => rfl) rfl (fun _ => rfl) hi.below (blk := .arr E' tn (l.take len ++ l2))
                    subst hm
                    rw [List.append_nil] at mv ⊢
                    have hblk : RB cx (upd ρ nm (ρ n)) (okc ok w0.heap.size ((st.heap.set n none).set nm (some (.arr E' tn (l.take len)))) (upd ρ nm (ρ n))) w nm (.arr E' tn (l.take len)) := by
                      rcases hRB with ⟨q1, q2⟩ | ⟨b, vs, q1, q2, q3, q4⟩
                      · exact .inl ⟨by rw [q1]; simp, by rw [upd_same]; exact q2⟩
                      · refine .inr ⟨b, vs, by rw [upd_same]; exact q1, q2, ?_, ?_⟩
                        · rw [elen]; exact Nat.le_trans (Nat.mul_le_mul_right _ hlen) q3
                        · refine RL_take hlen (vs := vs) (fun i j hi' hj => ?_) (fun _ _ => rfl)
                          refine (q4 i j hi' hj).ext (fun _ _ _ => rfl) (fun k _ ho => ⟨ho.1, fun m hm => ?_⟩) (Nat.le_refl _)
                          by_cases e : m = nm
                          · rw [e, upd_same]; exact ho.2 n (lk_some hn)
                          · rw [upd_ne e]
                            rw [lk_set_ne e, lk_set] at hm
                            split at hm
                            · cases hm
                            · exact ho.2 m hm
                    obtain ⟨k1, k2⟩ := mv hblk
                    refine ⟨_, w, _, .slice A len cap, run _ _ hrun, .inl rfl, fun q hq => upd_ne hq, k1, k2, RV_of_c ⟨A, cap, rfl, hle, (fun e => by cases e), fun hc => ?_⟩⟩
                    obtain ⟨b, r1, r2, r3⟩ := hA hc
                    exact ⟨b, (upd_same _ _ _).trans r1, r2, r3⟩
                  · have hpos : 0 < l2.length := List.length_pos_iff.2 hm
                    obtain ⟨b, r1, r2, r3⟩ := hA (by omega)
                    rcases hRB with ⟨q1, q2⟩ | ⟨b', vs, q1, q2, q3, q4⟩
                    · rw [r1] at q2; cases q2
                    · rw [r1] at q1; injection q1 with q1; subst q1
                      have hroomv : World.roomOf w b = vs.length := by unfold World.roomOf; rw [q2]; simp
                      rw [hroomv, Nat.zero_add] at r3
                      have hnl := rx.len
                      simp only at hnl
                      have hfit : len * width tn + news.length ≤ vs.length := by
                        rw [hnl, ← Nat.add_mul]
                        exact Nat.le_trans (Nat.mul_le_mul_right _ (by omega)) r3
                      have hrun : (Builtin.append_ #[T, T2] o.type #[a.eval S, a.eval X]).run P w = .ok (.slice A (len + l2.length) cap) (w.setRow b (vs.take (len * width tn) ++ news ++ vs.drop (len * width tn + news.length)).toArray) := by
                        have hsx := rx.src (P := P) hu2
                        simp only at hsx
                        rw [hSe, r2]
                        have hst := run_storeCells_at P b (len * width tn) E' news 0 vs.toArray w q2 (by simpa using hfit) hsx.one
                        simp only [Nat.add_zero] at hst
                        have hwr : (Builtin.firstCells (width tn) l2.length (a.eval X)).run P w = .ok news.toArray w := hsx.cells
                        have hln := hsx.len w
                        have hroom' : len + l2.length ≤ cap := by omega
                        simp [Builtin.append_, run_underlying hu, run_underlying hu2, sizeOf, typeInfo, g1, hw, hln, hroom', hwr, add_plain, hst]
                      have hz' : ((vs.take (len * width tn) ++ news ++ vs.drop (len * width tn + news.length)).toArray).size = (vs.toArray).size := by simp; omega
                      have hne' : ∀ k, ρ n ≠ some k → (w.setRow b (vs.take (len * width tn) ++ news ++ vs.drop (len * width tn + news.length)).toArray).heap[k]? = w.heap[k]? := fun k hk => setRow_other w b k _ (fun e => hk (by rw [e]; exact r1))
                      have hrm : ∀ k, World.roomOf (w.setRow b (vs.take (len * width tn) ++ news ++ vs.drop (len * width tn + news.length)).toArray) k = World.roomOf w k := fun k => by
                        by_cases e : k = b
                        · subst e
                          unfold World.roomOf
                          rw [q2, setRow_heap w k _ _ _ _ q2]
                          exact hz'
                        · exact roomOf_eq (setRow_other w b k _ e)
                      have hB : Below w0.heap.size w0 (w.setRow b (vs.take (len * width tn) ++ news ++ vs.drop (len * width tn + news.length)).toArray) := hi.below.trans ⟨rfl, rfl, rfl, by simp, fun k hk => setRow_other w b k _ (by have := (hi.own n b r1).1; omega)⟩
                      have mv := move_ok hi.hv (lk_some hn) hne hρ hl hk hne' (by simp) hrm hB (blk := .arr E' tn (l.take len ++ l2))
                      have hoks : ∀ k, okc ok w0.heap.size st.heap ρ k → okc ok w0.heap.size ((st.heap.set n none).set nm (some (.arr E' tn (l.take len ++ l2)))) (upd ρ nm (ρ n)) k := fun k ho => ⟨ho.1, fun m hm => by
                        by_cases e : m = nm
                        · rw [e, upd_same]; exact ho.2 n (lk_some hn)
                        · rw [upd_ne e]
                          rw [lk_set_ne e, lk_set] at hm
                          split at hm
                          · cases hm
                          · exact ho.2 m hm⟩
                      have hcell : ∀ k, okc ok w0.heap.size st.heap ρ k → (w.setRow b (vs.take (len * width tn) ++ news ++ vs.drop (len * width tn + news.length)).toArray).heap[k]? = w.heap[k]? := fun k ho => hne' k (ho.2 n (lk_some hn))
                      have hblk : RB cx (upd ρ nm (ρ n)) (okc ok w0.heap.size ((st.heap.set n none).set nm (some (.arr E' tn (l.take len ++ l2)))) (upd ρ nm (ρ n))) (w.setRow b (vs.take (len * width tn) ++ news ++ vs.drop (len * width tn + news.length)).toArray) nm (.arr E' tn (l.take len ++ l2)) := by
                        refine .inr ⟨b, _, by rw [upd_same]; exact r1, setRow_heap w b _ _ _ _ q2, ?_, ?_⟩
                        · rw [List.length_append, elen, Nat.add_mul, ← hnl]
                          simp; omega
                        · refine RL_append (by rw [elen, List.length_take]; have : len * width tn ≤ vs.length := by omega
                                               omega) hnl ?_ ?_
                          · refine RL_take hlen (vs := vs) (fun i j hi' hj => (q4 i j hi' hj).ext (fun k _ ho => hcell k ho) (fun k _ ho => hoks k ho) (by simp)) (fun q hq => ?_)
                            simp [List.getD_eq_getElem?_getD, List.getElem?_take, hq]
                          · exact fun i j hi' hj => (rx.rl i j hi' hj).ext (fun k _ ho => hcell k ho) (fun k _ ho => hoks k ho) (by simp)
                      obtain ⟨k1, k2⟩ := mv hblk
                      refine ⟨_, _, _, .slice A (len + l2.length) cap, run _ _ hrun, .inl rfl, fun q hq => upd_ne hq, k1, k2, RV_of_c ⟨A, cap, rfl, by omega, (fun e => by cases e), fun hc => ⟨b, (upd_same _ _ _).trans r1, by rw [r2], ?_⟩⟩⟩
                      rw [hrm b, hroomv, Nat.zero_add]
                      exact r3
              · cases he
            · cases he
          · cases he
        · cases he
      · cases he
  · cases he
end
end Go.Eng
