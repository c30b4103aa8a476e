/- Operations that read and reckon alone, fourth part. -/
import Derived.Test.YtnafjjkjogngjaaE8
set_option linter.unusedVariables false
set_option linter.unusedSimpArgs false
namespace Go.Eng
open Go Go.RowKit

section
variable {P : Program} {cx : Cx} {ok : Nat → Prop} {w0 : World} {ρ : Rho} {st : St} {a : Act} {w : World}

theorem gives_not (hi : Inv cx ok w0 ρ st a w) {o : Oper} {T : TypeId} {x : Operand} {b : Bool} (ho : o.op = .unOp .not T x) (hx : opv st.env x = .v false [.d (.sc (.bool b))]) : Gives P cx ok w0 ρ st a w o (.b (!b)) :=
  ⟨.bool (!b), by simp [execOp, ho, op_sc hi hx, Sc.val, Op.unary], RV_of_sc (.bool _)⟩
theorem gives_neg (hi : Inv cx ok w0 ρ st a w) {o : Oper} {T : TypeId} {x : Operand} {k : IntKind} {n : Int} (ho : o.op = .unOp .neg T x) (hx : opv st.env x = .v false [.d (.sc (.int k n))]) :
    Gives P cx ok w0 ρ st a w o (.v false [.d (.sc (.int k (k.wrap (0 - n))))]) :=
  ⟨.int k (k.wrap (0 - n)), by simp [execOp, ho, op_sc hi hx, Sc.val, Op.unary, Op.intArith], RV_of_sc (.int _ _)⟩

theorem gives_convert (hcx : CxOk P cx) (hi : Inv cx ok w0 ρ st a w) {o : Oper} {S T : TypeId} {x : Operand} {j k l : IntKind} {n : Int} {n1 n2 : Nat} {z1 z2 : List D} {e1 e2 : List (Option ET)} (ho : o.op = .convert S T x)
    (hS : cx.tt S = some ⟨.int j, n1, z1, e1⟩) (hT : cx.tt T = some ⟨.int k, n2, z2, e2⟩) (hx : opv st.env x = .v false [.d (.sc (.int l n))]) : Gives P cx ok w0 ρ st a w o (.v false [.d (.sc (.int k (k.wrap n)))]) := by
  have hs : P.underlying S = some (.int j) := und_of hcx hS
  have ht : P.underlying T = some (.int k) := und_of hcx hT
  exact ⟨.int k (k.wrap n), by simp [execOp, ho, op_sc hi hx, Sc.val, convert, run_underlying hs, run_underlying ht, Conv.intToInt], RV_of_sc (.int _ _)⟩

theorem gives_iface (hcx : CxOk P cx) (hi : Inv cx ok w0 ρ st a w) {o : Oper} {T : TypeId} {x : Operand} {v : V} (ho : o.op = .makeInterface T x) (he : ifaceE cx T (opv st.env x) = some v) : Gives P cx ok w0 ρ st a w o v := by
  have hx := RV_op hi x
  unfold ifaceE at he
  split at he
  · rename_i s hxe
    rw [hxe] at hx
    have e1 := RV_sc hx
    split at he
    · rename_i _ k n z e k' m hT
      have hu : P.underlying T = some (.int k) := und_of hcx hT
      split at he
      · rename_i hk; subst hk
        injection he with he; subst he
        exact ⟨.iface T (.int k m), by simp [execOp, ho, e1, Sc.val, Instr.makeInterface, run_underlying hu], RV_of_c (RD.one T (.int k m) (by simp [oneOk, hT]))⟩
      · cases he
    · rename_i _ n z e b hT
      have hu : P.underlying T = some .bool := und_of hcx hT
      injection he with he; subst he
      exact ⟨.iface T (.bool b), by simp [execOp, ho, e1, Sc.val, Instr.makeInterface, run_underlying hu], RV_of_c (RD.one T (.bool b) (by simp [oneOk, hT]))⟩
    · rename_i _ n z e b hT
      have hu : P.underlying T = some .string := und_of hcx hT
      injection he with he; subst he
      exact ⟨.iface T (.string b), by simp [execOp, ho, e1, Sc.val, Instr.makeInterface, run_underlying hu], RV_of_c (RD.one T (.str b) (by simp [oneOk, hT]))⟩
    · cases he
  · rename_i p q s hxe
    rw [hxe] at hx
    obtain ⟨vs, e1, r1⟩ := hx
    have e2 := RCs_scs _ [.int .i64 p, .int .i64 q, .str s] vs rfl r1
    subst e2
    split at he
    · rename_i fs n0 e hT
      obtain ⟨fields, hu, _⟩ := und_of hcx hT
      injection he with he; subst he
      exact ⟨.iface T (.agg (valCells ⟨p, q, s⟩)), by simp [execOp, ho, e1, Sc.val, valCells, Instr.makeInterface, run_underlying hu], RV_of_c (RD.val T ⟨p, q, s⟩ (by simp [threeOk, hT]))⟩
    · cases he
  · cases he

theorem field_of (hcx : CxOk P cx) {S : TypeId} {f off : Nat} {F : TypeId} (h : fieldOf cx S f = some (off, F)) : ∃ fields : Array Field, ∃ fd, P.underlying S = some (.struct fields) ∧ fields[f]? = some fd ∧ fd.offset = off ∧ fd.type = F := by
  unfold fieldOf at h
  split at h
  · rename_i fs n z e hS
    obtain ⟨fields, hu, hf, _⟩ := und_of hcx hS
    subst hf
    rw [List.getElem?_map] at h
    cases hfd : fields.toList[f]? with
    | none => rw [hfd] at h; cases h
    | some fd =>
      rw [hfd] at h
      simp only [Option.map_some, Option.some.injEq, Prod.mk.injEq] at h
      exact ⟨fields, fd, hu, by simpa using hfd, h.1, h.2⟩
  · cases h

theorem run_fieldPlace' (hcx : CxOk P cx) {fd : Field} {b o : Nat} (h : sizeOfT cx fd.type ≠ 0) : (fieldPlace ⟨b, o, none⟩ fd).run P w = .ok ⟨b, o + fd.offset, none⟩ w := by
  unfold sizeOfT at h
  split at h
  · rename_i i hF
    unfold fieldPlace
    rw [Sem.run_bind, run_size (hcx.ty _ _ hF)]
    simp [h, add_plain]
  · exact absurd rfl h

theorem gives_fieldAddr (hcx : CxOk P cx) (hi : Inv cx ok w0 ρ st a w) {o : Oper} {S : TypeId} {x : Operand} {f off : Nat} {F : TypeId} {e : Eff} (ho : o.op = .fieldAddr S x f) (hf : fieldOf cx S f = some (off, F)) (hF : sizeOfT cx F ≠ 0)
    (he : (match opv st.env x with
      | .v false [.ptr n o] => pure1 st.heap (.v false [.ptr n (o + off)])
      | .v false [.ep n t i j] => pure1 st.heap (.v false [.ep n t i (j + off)])
      | .v false [.d (.ref cs)] => pure1 st.heap (.v false [.d (.ref (cs.drop off))])
      | _ => none) = some e) : Gives P cx ok w0 ρ st a w o e.val ∧ e.heap = st.heap ∧ e.ok = true := by
  obtain ⟨fields, fd, hu, hfd, rfl, rfl⟩ := field_of hcx hf
  have run : ∀ b q, a.eval x = .pointer (some ⟨b, q, none⟩) → (execOp a.eval o).run P w = .ok (.value (.pointer (some ⟨b, q + fd.offset, none⟩))) w := fun b q hx => by
    simp [execOp, ho, hx, Instr.fieldAt, run_underlying hu, hfd, Instr.sureAddr, run_fieldPlace' hcx hF]
  split at he
  · rename_i n q hx
    obtain ⟨b, hb, hv⟩ := op_c hi hx
    simp only [pure1] at he; injection he with he; subst he
    exact ⟨⟨_, run b q hv, RV_of_c ⟨b, hb, rfl⟩⟩, rfl, rfl⟩
  · rename_i n t i j hx
    obtain ⟨b, hb, hv⟩ := op_c hi hx
    simp only [pure1] at he; injection he with he; subst he
    exact ⟨⟨_, run b _ hv, RV_of_c ⟨b, hb, by rw [Nat.add_assoc]⟩⟩, rfl, rfl⟩
  · rename_i cs hx
    have hv := op_c hi hx
    simp only [pure1] at he; injection he with he; subst he
    generalize hxe : a.eval x = xe at hv
    cases hv with
    | ref cs b q vs h1 hb hc hr =>
      refine ⟨⟨_, run b q hxe, RV_of_c (RD.ref _ b (q + fd.offset) (fun j => vs (fd.offset + j)) h1 hb (fun j hj => ?_) (fun j hj => ?_))⟩, rfl, rfl⟩
      · rw [List.length_drop] at hj
        rw [Nat.add_assoc]; exact hc _ (by omega)
      · rw [List.length_drop] at hj
        have := hr (fd.offset + j) (by omega)
        simpa [List.getD_eq_getElem?_getD] using this
  · cases he

theorem gives_field (hcx : CxOk P cx) (hi : Inv cx ok w0 ρ st a w) {o : Oper} {S : TypeId} {x : Operand} {f off : Nat} {F : TypeId} {i : TI} {cs : List C} (ho : o.op = .field S x f) (hf : fieldOf cx S f = some (off, F)) (hx : opv st.env x = .v true cs)
    (hF : cx.tt F = some i) (hl : off + i.size ≤ cs.length) : Gives P cx ok w0 ρ st a w o (.v i.agg (seg cs off i.size)) := by
  obtain ⟨fields, fd, hu, hfd, rfl, rfl⟩ := field_of hcx hf
  have hr := RV_op hi x
  rw [hx] at hr
  obtain ⟨vs, e1, r1⟩ := hr
  have ht := hcx.ty _ _ hF
  have hvl : vs.length = cs.length := r1.1
  refine ⟨mkv i.agg (seg vs fd.offset i.size), ?_, RA_mkv (RCs_seg r1 hl) (fun hg => by rw [seg_length hl]; exact ht.one hg)⟩
  have hp : (part fd.type vs.toArray fd.offset).run P w = .ok (mkv i.agg (seg vs fd.offset i.size)) w := by
    unfold part
    rw [Sem.run_bind, run_isAgg ht]
    simp only [Result.andThen_ok]
    cases hg : i.agg with
    | true =>
      rw [if_pos rfl, Sem.run_bind, run_size ht]
      simp only [Result.andThen_ok, mkv, if_true, Sem.run_pure]
      congr 2
      apply Array.ext'
      simp [seg, List.extract_eq_take_drop]
    | false =>
      have h1 := ht.one hg
      have hlt : fd.offset < vs.length := by omega
      simp [mkv, seg, h1, List.head?_eq_getElem?, hlt]
  simp [execOp, ho, e1, Instr.field, run_underlying hu, hfd, asAgg, hp]

theorem run_indexAt {T e : TypeId} {i : TI} (hu : P.underlying T = some (.slice e)) (he : TyOk P cx e i) {b off len cap : Nat} {k : IntKind} {n : Int} (h0 : 0 ≤ n) (h1 : n < len) :
    (Instr.indexAt T (.slice (some ⟨b, off, none⟩) len cap) (.int k n)).run P w = .ok (.pointer (some ⟨b, off + n.toNat * i.size, none⟩)) w := by
  simp [Instr.indexAt, asIntOf, run_underlying hu, h0, h1, run_size he, add_plain]

theorem gives_indexD (hcx : CxOk P cx) (hi : Inv cx ok w0 ρ st a w) {o : Oper} {T e : TypeId} {x y : Operand} {nl : Option Bool} {full : Bool} {t : ET} {l : List (Ty t)} {k : IntKind} {n : Int} {sz : Nat} {z : List D} {es : List (Option ET)} (ho : o.op = .indexAddr T x y)
    (hT : cx.tt T = some ⟨.slice e t, sz, z, es⟩) (hx : opv st.env x = .v false [.d (.sl nl full t l)]) (hy : opv st.env y = .v false [.d (.sc (.int k n))]) (h0 : 0 ≤ n) (h1 : n < l.length) :
    Gives P cx ok w0 ρ st a w o (.v false [.d (.ref (enc t (l.getD n.toNat (dflt t))))]) := by
  have hv := op_c hi hx
  have hyv := op_sc hi hy
  obtain ⟨hu, ie, hie, hsz, _⟩ := und_of hcx hT
  have hte := hcx.ty _ _ hie
  generalize hxe : a.eval x = xe at hv
  cases hv with
  | sl0 _ _ _ A cap => simp at h1; omega
  | sl _ _ _ _ b off cap vs g0 g1 g2 g3 g4 hc hr =>
    have hn : n.toNat < l.length := by omega
    refine ⟨.pointer (some ⟨b, off + n.toNat * width t, none⟩), ?_, RV_of_c (RD.ref _ b _ (fun j => vs n.toNat j) g1 (cell_lt (hc 0 0 (List.length_pos_iff.2 g0) (width_pos t))) (fun j hj => ?_) (fun j hj => ?_))⟩
    · have := run_indexAt (w := w) hu hte (b := b) (off := off) (len := l.length) (cap := cap) (k := k) h0 h1
      rw [hsz] at this
      simp [execOp, ho, hxe, hyv, Sc.val, this]
    · rw [enc_length] at hj
      rw [Nat.add_assoc]
      exact hc n.toNat j hn hj
    · rw [enc_length] at hj
      exact hr n.toNat j hn hj

theorem gives_indexO (hcx : CxOk P cx) (hi : Inv cx ok w0 ρ st a w) {o : Oper} {T e : TypeId} {x y : Operand} {m off len : Nat} {full : Bool} {t : ET} {k : IntKind} {n : Int} {sz : Nat} {z : List D} {es : List (Option ET)} (ho : o.op = .indexAddr T x y)
    (hT : cx.tt T = some ⟨.slice e t, sz, z, es⟩) (hx : opv st.env x = .v false [.own m t full off len]) (hy : opv st.env y = .v false [.d (.sc (.int k n))]) (h0 : 0 ≤ n) (h1 : n < len) :
    Gives P cx ok w0 ρ st a w o (.v false [.ep m t (off + n.toNat) 0]) := by
  obtain ⟨A, cap, hv, h2, h3, h4⟩ := op_c hi hx
  have hyv := op_sc hi hy
  obtain ⟨hu, ie, hie, hsz, _⟩ := und_of hcx hT
  obtain ⟨b, hb, hA, _⟩ := h4 (by omega)
  refine ⟨.pointer (some ⟨b, off * width t + n.toNat * width t, none⟩), ?_, RV_of_c ⟨b, hb, by rw [Nat.add_mul, Nat.add_zero]⟩⟩
  have := run_indexAt (w := w) hu (hcx.ty _ _ hie) (b := b) (off := off * width t) (len := len) (cap := cap) (k := k) h0 h1
  rw [hsz] at this
  simp [execOp, ho, hv, hA, hyv, Sc.val, this]

theorem gives_indexA (hcx : CxOk P cx) (hi : Inv cx ok w0 ρ st a w) {o : Oper} {T e : TypeId} {x y : Operand} {m q len : Nat} {k : IntKind} {n : Int} {sz : Nat} {z : List D} {es : List (Option ET)} {i : TI} (ho : o.op = .indexAddr T x y)
    (hT : cx.tt T = some ⟨.array len e, sz, z, es⟩) (hx : opv st.env x = .v false [.ptr m q]) (hy : opv st.env y = .v false [.d (.sc (.int k n))]) (hE : cx.tt e = some i) (h0 : 0 ≤ n) (h1 : n < len) :
    Gives P cx ok w0 ρ st a w o (.v false [.ptr m (q + n.toNat * sizeOfT cx e)]) := by
  obtain ⟨b, hb, hv⟩ := op_c hi hx
  have hyv := op_sc hi hy
  have hu : P.underlying T = some (.array len e) := und_of hcx hT
  have hs : sizeOfT cx e = i.size := by simp [sizeOfT, hE]
  refine ⟨.pointer (some ⟨b, q + n.toNat * i.size, none⟩), ?_, RV_of_c ⟨b, hb, by rw [hs]⟩⟩
  simp [execOp, ho, hv, hyv, Sc.val, Instr.indexAt, asIntOf, run_underlying hu, Instr.sureAddr, h0, h1, run_size (hcx.ty _ _ hE), add_plain]

theorem gives_indexS (hcx : CxOk P cx) (hi : Inv cx ok w0 ρ st a w) {o : Oper} {T : TypeId} {x y : Operand} {s : ByteArray} {k : IntKind} {n : Int} {sz : Nat} {z : List D} {es : List (Option ET)} (ho : o.op = .index T x y)
    (hT : cx.tt T = some ⟨.str, sz, z, es⟩) (hx : opv st.env x = .v false [.d (.sc (.str s))]) (hy : opv st.env y = .v false [.d (.sc (.int k n))]) (h0 : 0 ≤ n) (h1 : n < s.size) :
    Gives P cx ok w0 ρ st a w o (.v false [.d (.sc (.int .u8 (byteAt s n.toNat)))]) := by
  have hu : P.underlying T = some .string := und_of hcx hT
  have hn : n.toNat < s.size := by omega
  refine ⟨.int .u8 (byteAt s n.toNat), ?_, RV_of_sc (.int _ _)⟩
  have h2 : s[n.toNat]? = some s[n.toNat] := by simp [hn]
  have h3 : byteAt s n.toNat = s[n.toNat].toNat := by
    have h4 : s.data[n.toNat]? = some s[n.toNat] := Array.getElem?_eq_getElem hn
    simp [byteAt, h4]
  simp [execOp, ho, op_sc hi hx, op_sc hi hy, Sc.val, Instr.index, asIntOf, run_underlying hu, h0, h2, h3]
end
end Go.Eng
