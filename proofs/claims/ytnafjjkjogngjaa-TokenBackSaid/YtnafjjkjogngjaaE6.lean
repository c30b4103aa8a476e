/- Operations that read and reckon alone, first part. -/
import Derived.Test.YtnafjjkjogngjaaE5
set_option linter.unusedVariables false
set_option linter.unusedSimpArgs false
namespace Go.Eng
open Go Go.RowKit

def Gives (P : Program) (cx : Cx) (ok : Nat → Prop) (w0 : World) (ρ : Rho) (st : St) (a : Act) (w : World) (o : Oper) (v : V) : Prop :=
  ∃ x, (execOp a.eval o).run P w = .ok (.value x) w ∧ RV cx ρ (okc ok w0.heap.size st.heap ρ) w v x

section
variable {P : Program} {cx : Cx} {ok : Nat → Prop} {w0 : World} {ρ : Rho} {st : St} {a : Act} {w : World}

theorem RV_c {c : C} {x : Value} (h : RV cx ρ ok w (.v false [c]) x) : RC cx ρ ok w c x := by
  obtain ⟨c', h1, h2⟩ := h
  injection h1 with h1
  subst h1
  exact h2
theorem RV_of_c {c : C} {x : Value} (h : RC cx ρ ok w c x) : RV cx ρ ok w (.v false [c]) x := ⟨c, rfl, h⟩
theorem RV_sc {s : Sc} {x : Value} (h : RV cx ρ ok w (.v false [.d (.sc s)]) x) : x = s.val := by
  have := RV_c h
  cases this
  rfl
theorem RV_of_sc (s : Sc) : RV cx ρ ok w (.v false [.d (.sc s)]) s.val := RV_of_c (RD.sc s)

/-- operands that are known, as the machine has them -/
theorem op_sc (hi : Inv cx ok w0 ρ st a w) {x : Operand} {s : Sc} (h : opv st.env x = .v false [.d (.sc s)]) : a.eval x = s.val := by
  have := RV_op hi x
  rw [h] at this
  exact RV_sc this
theorem op_c (hi : Inv cx ok w0 ρ st a w) {x : Operand} {c : C} (h : opv st.env x = .v false [c]) : RC cx ρ (okc ok w0.heap.size st.heap ρ) w c (a.eval x) := by
  have := RV_op hi x
  rw [h] at this
  exact RV_c this

theorem gives_move (hi : Inv cx ok w0 ρ st a w) {o : Oper} {x : Operand} (ho : o.op = .move x ∨ o.op = .assign x) : Gives P cx ok w0 ρ st a w o (norm cx o.type (opv st.env x)) := by
  refine ⟨a.eval x, ?_, RV_norm (RV_op hi x)⟩
  rcases ho with h | h <;> simp [execOp, h]

theorem gives_pick (hi : Inv cx ok w0 ρ st a w) {o : Oper} {c x y : Operand} {t : Bool} (ho : o.op = .pick c x y) (hc : opv st.env c = .v false [.d (.sc (.bool t))]) :
    Gives P cx ok w0 ρ st a w o (pickV t (opv st.env x) (opv st.env y)) := by
  have h1 := op_sc hi hc
  refine ⟨if t then a.eval x else a.eval y, ?_, ?_⟩
  · simp [execOp, ho, h1, Sc.val, asBool]
  · have hx := RV_op hi x
    have hy := RV_op hi y
    unfold pickV
    split
    · rename_i p q h2 h3
      rw [h2] at hx; rw [h3] at hy
      rw [RV_sc hx, RV_sc hy]
      cases t <;> exact RV_of_sc _
    · cases t
      · simpa using hy
      · simpa using hx

theorem run_isAgg {T : TypeId} {i : TI} (ht : TyOk P cx T i) : (isAgg T).run P w = .ok i.agg w := by
  have h := ht.und
  unfold TI.agg
  unfold KdOk at h
  cases hk : i.kd <;> simp only [hk] at h ⊢
  · simp [isAgg, run_underlying h]
  · simp [isAgg, run_underlying h]
  · simp [isAgg, run_underlying h]
  · simp [isAgg, run_underlying h.1]
  · obtain ⟨f, h, _⟩ := h; simp [isAgg, run_underlying h]
  · simp [isAgg, run_underlying h]
  · obtain ⟨f, h⟩ := h; simp [isAgg, run_underlying h]
  · obtain ⟨f, g, k, h⟩ := h; simp [isAgg, run_underlying h]

theorem run_size {T : TypeId} {i : TI} (ht : TyOk P cx T i) : (sizeOf T).run P w = .ok i.size w := by
  obtain ⟨inf, h1, h2, _⟩ := ht.info
  simp [sizeOf, typeInfo, h1, h2]

theorem run_zero {T : TypeId} {i : TI} (ht : TyOk P cx T i) : (zeroValue T).run P w = .ok (mkv i.agg (i.zero.map zval)) w := by
  obtain ⟨inf, h1, _, h2, _⟩ := ht.info
  simp [zeroValue, typeInfo, h1, h2]

theorem add_plain (b off j : Nat) : (⟨b, off, none⟩ : Addr).add j = ⟨b, off + j, none⟩ := by
  unfold Addr.add
  split <;> simp_all

theorem run_loadVar' {T : TypeId} {i : TI} (ht : TyOk P cx T i) {b off : Nat} {vs : List Value} (hl : vs.length = i.size) (h : ∀ j, j < i.size → w.cell? ⟨b, off + j, none⟩ = some (vs.getD j undef)) :
    (loadVar T ⟨b, off, none⟩).run P w = .ok (mkv i.agg vs) w := by
  unfold loadVar
  rw [Sem.run_bind, run_isAgg ht]
  simp only [Result.andThen_ok]
  cases hg : i.agg with
  | true =>
    rw [if_pos rfl, Sem.run_bind, run_size ht]
    simp only [Result.andThen_ok]
    have := run_loadCells_list (P := P) w ⟨b, off, none⟩ vs (fun j v hj => by
      have hj' : j < vs.length := by
        rcases Nat.lt_or_ge j vs.length with h1 | h1
        · exact h1
        · rw [List.getElem?_eq_none h1] at hj; cases hj
      rw [add_plain, h j (by omega)]
      simp [List.getD_eq_getElem?_getD, hj])
    rw [hl] at this
    rw [Sem.run_bind, this]
    simp [mkv]
  | false =>
    have h1 := ht.one hg
    have h2 := h 0 (by omega)
    simp only [Nat.add_zero] at h2
    cases vs with
    | nil => simp at hl; omega
    | cons v vs =>
      have h3 : w.cell? ⟨b, off, none⟩ = some v := h2
      simp [load, Sem.run, h3, mkv]

theorem RA_mkv {g : Bool} {cs : List C} {vs : List Value} (h : RCs cx ρ ok w cs vs) (h1 : g = false → cs.length = 1) : RA cx ρ ok w (g, cs) (mkv g vs) := by
  cases g with
  | true => exact ⟨vs, rfl, h⟩
  | false =>
    match cs, h1 rfl with
    | [c], _ =>
      obtain ⟨v, rfl, hv⟩ := RCs_one h
      exact ⟨c, rfl, hv⟩

theorem RCs_map_d {ds : List D} {vs : List Value} (hl : vs.length = ds.length) (h : ∀ j, j < ds.length → RD cx ok w (ds.getD j .nils) (vs.getD j undef)) : RCs cx ρ ok w (ds.map .d) vs :=
  ⟨by simpa using hl, fun j hj => by
    have hj' : j < ds.length := by simpa using hj
    have e : (ds.map C.d).getD j (.d .nils) = .d (ds.getD j .nils) := by simp [List.getD_eq_getElem?_getD, hj']
    rw [e]
    exact h j hj'⟩

theorem lk_some {h : Heap} {n : Nat} {b : Blk} (e : lk h n = some b) : (lk h n).isSome = true := by rw [e]; rfl

theorem seg_length {α : Type} {l : List α} {off n : Nat} (h : off + n ≤ l.length) : (seg l off n).length = n := by simp [seg]; omega
theorem seg_getD {α : Type} {l : List α} {off n j : Nat} {d : α} (h : off + n ≤ l.length) (hj : j < n) : (seg l off n).getD j d = l.getD (off + j) d := by
  simp [seg, List.getD_eq_getElem?_getD, hj]

theorem cell_of_block {b j : Nat} {vs : List Value} {T : TypeId} {fr : Nat × Nat} (hb : w.heap[b]? = some (.cells vs.toArray T fr)) (hj : j < vs.length) : w.cell? ⟨b, j, none⟩ = some (vs.getD j undef) := by
  simp [World.cell?, hb, hj]

theorem gives_load (hcx : ∀ T i, cx.tt T = some i → TyOk P cx T i) (hi : Inv cx ok w0 ρ st a w) {o : Oper} {x : Operand} {T : TypeId} {e : Eff} (ho : o.op = .load T x) (he : loadE cx T st.env st.heap x = some e) (hok : e.ok = true) :
    Gives P cx ok w0 ρ st a w o e.val ∧ e.heap = st.heap := by
  unfold loadE at he
  split at he
  · cases he
  · rename_i i hT
    have ht := hcx T i hT
    have fin : ∀ (b off : Nat) (cs : List C) (vs : List Value), a.eval x = .pointer (some ⟨b, off, none⟩) → cs.length = i.size → RCs cx ρ (okc ok w0.heap.size st.heap ρ) w cs vs →
        (∀ j, j < i.size → w.cell? ⟨b, off + j, none⟩ = some (vs.getD j undef)) → Gives P cx ok w0 ρ st a w o (.v i.agg cs) := by
      intro b off cs vs hx hcs hr hc
      refine ⟨mkv i.agg vs, ?_, RA_mkv hr (fun hg => by rw [hcs]; exact ht.one hg)⟩
      have hl : vs.length = i.size := by rw [hr.1, hcs]
      have := run_loadVar' (w := w) ht hl hc
      simp [execOp, ho, Instr.loadAt, Instr.sureAddr, hx, this]
    split at he
    · rename_i n off hx
      obtain ⟨b, hb, hv⟩ := op_c hi hx
      split at he
      · rename_i B cs hk
        split at he
        · rename_i hle
          injection he with he; subst he
          obtain ⟨b', vs, h1, h2, h3⟩ := hi.heap n _ hk
          rw [hb] at h1; injection h1 with h1; subst h1
          have hvl : vs.length = cs.length := h3.1
          refine ⟨fin b off (seg cs off i.size) (seg vs off i.size) hv (seg_length hle) (RCs_seg h3 hle) (fun j hj => ?_), rfl⟩
          rw [seg_getD (by omega) hj]
          exact cell_of_block h2 (by omega)
        · cases he
      · cases he
    · rename_i n t k j hx
      obtain ⟨b, hb, hv⟩ := op_c hi hx
      split at he
      · rename_i B t' l hk
        split at he
        · rename_i ett
          subst ett
          split at he
          · rename_i hle
            injection he with he; subst he
            have hkl : k < l.length := by simpa using hok
            rcases hi.heap n _ hk with ⟨h1, _⟩ | ⟨b', vs, h1, h2, h3, h4⟩
            · subst h1; simp at hkl
            · rw [hb] at h1; injection h1 with h1; subst h1
              have hbound : k * width t' + width t' ≤ vs.length := by
                have : (k + 1) * width t' ≤ l.length * width t' := Nat.mul_le_mul_right _ hkl
                rw [Nat.add_mul, Nat.one_mul] at this
                omega
              have hel : (enc t' (l.getD k (dflt t'))).length = width t' := enc_length _ _
              have hr0 : RCs cx ρ (okc ok w0.heap.size st.heap ρ) w ((enc t' (l.getD k (dflt t'))).map .d) (seg vs (k * width t') (width t')) :=
                RCs_map_d (by rw [seg_length (by omega), hel]) (fun q hq => by
                  rw [hel] at hq
                  rw [seg_getD (by omega) hq]
                  exact h4 k q hkl hq)
              have hr1 := RCs_seg (off := j) (n := i.size) hr0 (by rw [List.length_map, hel]; exact hle)
              have hseg : seg vs (k * width t' + j) i.size = seg (seg vs (k * width t') (width t')) j i.size := by
                apply ext_list
                · rw [seg_length (by omega), seg_length (by rw [seg_length (by omega)]; omega)]
                · intro q hq
                  rw [seg_length (by omega)] at hq
                  rw [seg_getD (by omega) hq, seg_getD (by rw [seg_length (by omega)]; omega) hq, seg_getD (by omega) (by omega), Nat.add_assoc]
              refine ⟨fin b (k * width t' + j) _ (seg vs (k * width t' + j) i.size) hv (seg_length (by rw [List.length_map, hel]; exact hle)) (by rw [hseg]; exact hr1) (fun q hq => ?_), rfl⟩
              rw [seg_getD (by omega) hq]
              exact cell_of_block h2 (by omega)
          · cases he
        · cases he
      · cases he
    · rename_i cs hx
      have hv := op_c hi hx
      split at he
      · rename_i hle
        simp only [pure1] at he
        injection he with he; subst he
        generalize hxe : a.eval x = xe at hv
        cases hv with
        | ref cs b off vs h1 hb hc hr =>
          refine ⟨fin b off _ ((List.range i.size).map vs) hxe (seg_length (by simpa using hle)) ?_ (fun j hj => ?_), rfl⟩
          · have h0 : RCs cx ρ (okc ok w0.heap.size st.heap ρ) w (cs.map .d) ((List.range cs.length).map vs) := RCs_map_d (by simp) (fun j hj => by
              have : ((List.range cs.length).map vs).getD j undef = vs j := by simp [List.getD_eq_getElem?_getD, hj]
              rw [this]; exact hr j hj)
            have := RCs_seg (off := 0) (n := i.size) h0 (by simpa using hle)
            rw [show seg ((List.range cs.length).map vs) 0 i.size = (List.range i.size).map vs from ?_] at this
            · exact this
            · simp [seg, ← List.map_take, List.take_range, Nat.min_eq_left hle]
          · have : ((List.range i.size).map vs).getD j undef = vs j := by simp [List.getD_eq_getElem?_getD, hj]
            rw [this]
            exact hc j (by omega)
      · cases he
    · cases he
end
end Go.Eng
