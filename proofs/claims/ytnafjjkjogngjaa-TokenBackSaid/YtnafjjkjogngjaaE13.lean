/- Operations that make memory, first part: variables, stores. -/
import Derived.Test.YtnafjjkjogngjaaE12
set_option linter.unusedVariables false
set_option linter.unusedSimpArgs false
namespace Go.Eng
open Go Go.RowKit

def Does (P : Program) (cx : Cx) (ok : Nat → Prop) (w0 : World) (ρ : Rho) (st : St) (a : Act) (w : World) (nm : Nat) (o : Oper) (v : V) (h' : Heap) : Prop :=
  ∃ ρ' w' nx x, (execOp a.eval o).run P w = .ok nx w' ∧ (nx = .value x ∨ (nx = .skip ∧ x = undef)) ∧ (∀ n, n ≠ nm → ρ' n = ρ n) ∧
    (∀ N, Ext N (okc ok w0.heap.size st.heap ρ) (okc ok w0.heap.size h' ρ') ρ ρ' w w') ∧ HInv cx ok w0 ρ' h' w' ∧ RV cx ρ' (okc ok w0.heap.size h' ρ') w' v x

theorem mkv_cells {g : Bool} {vs : List Value} (h : g = false → ∃ v, vs = [v] ∧ v.oneCell' = true) : (mkv g vs).cells = vs.toArray := by
  cases g with
  | true => rfl
  | false =>
    obtain ⟨v, rfl, hv⟩ := h rfl
    show v.cells = _
    cases v <;> first | rfl | cases hv

theorem putL_eq {α : Type} : ∀ (l cs : List α) (off : Nat), off + l.length ≤ cs.length → putL cs off l = cs.take off ++ l ++ cs.drop (off + l.length)
  | [], cs, off, h => by simp [putL]
  | x :: l, cs, off, h => by
    simp only [List.length_cons] at h
    rw [putL, putL_eq l _ _ (by simp; omega)]
    have h1 : (cs.set off x).take (off + 1) = cs.take off ++ [x] := by
      rw [List.take_set, List.take_succ_eq_append_getElem (by omega)]
      rw [List.set_append_right _ _ (by rw [List.length_take]; omega)]
      simp [Nat.min_eq_left (show off ≤ cs.length by omega)]
    have h2 : (cs.set off x).drop (off + 1 + l.length) = cs.drop (off + (x :: l).length) := by
      rw [List.drop_set_of_lt (by omega)]
      simp only [List.length_cons]
      congr 1
      omega
    rw [h1, h2]
    simp

theorem putL_getD {α : Type} (d : α) : ∀ (l cs : List α) (off q : Nat), off + l.length ≤ cs.length → (putL cs off l).getD q d = if off ≤ q ∧ q < off + l.length then l.getD (q - off) d else cs.getD q d
  | [], cs, off, q, h => by
    rw [if_neg (by simp only [List.length_nil]; omega)]; rfl
  | x :: l, cs, off, q, h => by
    simp only [List.length_cons] at h ⊢
    rw [putL, putL_getD d l _ (off + 1) q (by simp; omega)]
    by_cases h1 : q = off
    · subst h1
      rw [if_neg (by omega), if_pos (by omega), Nat.sub_self]
      simp [List.getD_eq_getElem?_getD, List.getElem?_set, show q < cs.length by omega]
    · by_cases h2 : off + 1 ≤ q ∧ q < off + 1 + l.length
      · rw [if_pos h2, if_pos (by omega)]
        obtain ⟨m, hm⟩ : ∃ m, q - off = m + 1 := ⟨q - off - 1, by omega⟩
        rw [hm, show q - (off + 1) = m from by omega]
        rfl
      · rw [if_neg h2, if_neg (by omega)]
        simp [List.getD_eq_getElem?_getD, List.getElem?_set, show ¬ off = q from fun e => h1 e.symm]

section
variable {P : Program} {cx : Cx} {ok : Nat → Prop} {w0 : World} {ρ : Rho} {st : St} {a : Act} {w : World}

/-- a new variable -/
theorem does_new (hi : Inv cx ok w0 ρ st a w) {nm : Nat} (hρ : ρ nm = none) (hl : nm < st.heap.length) (hk : lk st.heap nm = none) {o : Oper} {T : TypeId} {cs : List C} {vs : List Value} (hr : RCs cx ρ (okc ok w0.heap.size st.heap ρ) w cs vs)
    (hrun : (execOp a.eval o).run P w = .ok (.value (.pointer (some ⟨w.heap.size, 0, none⟩))) (w.alloc (.cells vs.toArray T))) :
    Does P cx ok w0 ρ st a w nm o (.v false [.ptr nm 0]) (st.heap.set nm (some (.box T cs))) := by
  have hx := ext_new hi.hv hρ (.cells vs.toArray T) (some (.box T cs))
  refine ⟨upd ρ nm (some w.heap.size), _, _, _, hrun, .inl rfl, fun n hn => upd_ne hn, hx, ?_, RV_of_c ⟨_, upd_same _ _ _, rfl⟩⟩
  exact hi.hv.new hρ hl hk _ _ ⟨_, vs, upd_same _ _ _, heap_alloc_new w _, Ext.all_Cs hx hi.hv.lt hr⟩

theorem does_alloc (hcx : CxOk P cx) (hi : Inv cx ok w0 ρ st a w) {nm : Nat} (hρ : ρ nm = none) (hl : nm < st.heap.length) (hk : lk st.heap nm = none) {o : Oper} {T : TypeId} {i : TI} (ho : o.op = .alloc T) (hT : cx.tt T = some i) :
    Does P cx ok w0 ρ st a w nm o (.v false [.ptr nm 0]) (st.heap.set nm (some (.box T (i.zero.map .d)))) := by
  have ht := hcx.ty _ _ hT
  have hr := RCs_zero (ρ := ρ) (ok := okc ok w0.heap.size st.heap ρ) (w := w) ht
  refine does_new hi hρ hl hk hr ?_
  have hc : (mkv i.agg (i.zero.map zval)).cells = (i.zero.map zval).toArray := mkv_cells (fun hg => by
    have h1 := ht.one hg
    have h2 := ht.len
    match hz : i.zero, (by omega : i.zero.length = 1) with
    | [d], _ =>
      refine ⟨zval d, rfl, ?_⟩
      rw [hz] at hr
      have := hr.2 0 (by simp)
      exact RC_one this)
  simp [execOp, ho, Instr.alloc, run_zero ht, newVar, newRow, hc]

theorem does_box (hcx : CxOk P cx) (hi : Inv cx ok w0 ρ st a w) {nm : Nat} (hρ : ρ nm = none) (hl : nm < st.heap.length) (hk : lk st.heap nm = none) {o : Oper} {T : TypeId} {x : Operand} {g : Bool} {cs : List C} (ho : o.op = .box T x) (hx : norm cx T (opv st.env x) = .v g cs) :
    Does P cx ok w0 ρ st a w nm o (.v false [.ptr nm 0]) (st.heap.set nm (some (.box T cs))) := by
  have hv := RV_norm (T := T) (RV_op hi x)
  rw [hx] at hv
  obtain ⟨vs, e1, h2, _⟩ := RA_cells hv
  refine does_new hi hρ hl hk h2 ?_
  simp [execOp, ho, Instr.box, newVar, newRow, e1]

theorem run_storeVar' {T : TypeId} {i : TI} (ht : TyOk P cx T i) {b off : Nat} {cur us : List Value} {B : TypeId} {v : Value} (hb : w.heap[b]? = some (.cells cur.toArray B (0, 0))) (hv : v.cells = us.toArray) (hl : us.length = i.size) (hle : off + i.size ≤ cur.length)
    (h1 : ∀ u ∈ us, u.oneCell' = true) : (storeVar T ⟨b, off, none⟩ v).run P w = .ok () (w.setRow b (putL cur off us).toArray) := by
  have hst := run_storeCells_at P b off B us 0 cur.toArray w hb (by simp; omega) h1
  simp only [Nat.add_zero] at hst
  rw [putL_eq us cur off (by omega)]
  simp [storeVar, run_size ht, hv, hl, hst]

theorem RCs_oneCell {cs : List C} {vs : List Value} (h : RCs cx ρ ok w cs vs) : ∀ u ∈ vs, u.oneCell' = true := by
  intro u hu
  obtain ⟨j, hj, rfl⟩ := List.getElem_of_mem hu
  have := h.2 j (by rw [← h.1]; exact hj)
  have e : vs.getD j undef = vs[j] := by simp [List.getD_eq_getElem?_getD, hj]
  rw [e] at this
  exact RC_one this

/-- flags may be forgotten -/
theorem RD_forget {nl : Option Bool} {full : Bool} {t : ET} {l : List (Ty t)} {x : Value} (h : RD cx ok w (.sl nl full t l) x) : RD cx ok w (.l t l) x := by
  cases h with
  | sl0 _ _ _ A cap h1 h2 h3 h4 => exact RD.sl0 _ _ _ _ _ (fun e => by cases e) (fun e => by cases e) (fun e => by cases e) h4
  | sl _ _ _ _ b off cap vs h0 h1 h2 h3 h4 hc hr => exact RD.sl _ _ _ _ b off cap vs h0 h1 h2 (fun e => by cases e) (by simp) hc hr

theorem dec_ok (t : ET) (ds : List D) (z : Ty t) (h : dec t ds = some z) : ds.length = width t ∧ ∀ j x, j < width t → RD cx ok w (ds.getD j .nils) x → RD cx ok w ((enc t z).getD j .nils) x := by
  cases t
  case mat =>
    change decMat ds = some z at h
    unfold decMat at h
    split at h
    · injection h with h; subst h; exact ⟨rfl, fun j x _ hr => hr⟩
    · cases h
  case run =>
    change decRun ds = some z at h
    unfold decRun at h
    split at h
    · injection h with h; subst h; exact ⟨rfl, fun j x _ hr => hr⟩
    · cases h
  case pass =>
    change decPass ds = some z at h
    unfold decPass at h
    split at h
    · injection h with h; subst h; exact ⟨rfl, fun j x _ hr => hr⟩
    · cases h
  case val =>
    change decVal ds = some z at h
    unfold decVal at h
    split at h
    · injection h with h; subst h; exact ⟨rfl, fun j x _ hr => hr⟩
    · cases h
  case op =>
    change decOp ds = some z at h
    unfold decOp at h
    split at h
    · injection h with h; subst h; exact ⟨rfl, fun j x _ hr => hr⟩
    · cases h
  case step =>
    change decStep ds = some z at h
    unfold decStep at h
    split at h
    · injection h with h; subst h
      refine ⟨rfl, fun j x hj hr => ?_⟩
      match j, hj, hr with
      | 0, _, hr => exact hr
      | 1, _, hr => exact RD_forget hr
      | 2, _, hr => exact hr
      | 3, _, hr => exact hr
      | 4, _, hr => exact hr
      | 5, _, hr => exact hr
      | 6, _, hr => exact RD_forget hr
    · cases h
  case evt =>
    change decEvt ds = some z at h
    unfold decEvt at h
    split at h
    · injection h with h; subst h
      refine ⟨rfl, fun j x hj hr => ?_⟩
      match j, hj, hr with
      | 0, _, hr => exact hr
      | 1, _, hr => exact hr
      | 2, _, hr => exact RD_forget hr
    · cases h
  case pred =>
    change decPred ds = some z at h
    unfold decPred at h
    split at h
    · injection h with h; subst h
      refine ⟨rfl, fun j x hj hr => ?_⟩
      match j, hj, hr with
      | 0, _, hr => exact hr
      | 1, _, hr => exact RD_forget hr
    · cases h
  case query =>
    change decQuery ds = some z at h
    unfold decQuery at h
    split at h
    · injection h with h; subst h
      refine ⟨rfl, fun j x hj hr => ?_⟩
      match j, hj, hr with
      | 0, _, hr => exact RD_forget hr
      | 1, _, hr => exact hr
      | 2, _, hr => exact hr
      | 3, _, hr => exact hr
      | 4, _, hr => exact hr
    · cases h
  case int =>
    change decInt ds = some z at h
    unfold decInt at h
    split at h
    · injection h with h; subst h; exact ⟨rfl, fun j x _ hr => hr⟩
    · cases h
  case bool =>
    change decBool ds = some z at h
    unfold decBool at h
    split at h
    · injection h with h; subst h; exact ⟨rfl, fun j x _ hr => hr⟩
    · cases h
  case thing =>
    change decThing ds = some z at h
    unfold decThing at h
    split at h
    · injection h with h; subst h; exact ⟨rfl, fun j x _ hr => hr⟩
    · cases h

theorem toDL_some : ∀ (cs : List C) (ds : List D), toDL cs = some ds → cs = ds.map .d
  | [], ds, h => by simp only [toDL, Option.some.injEq] at h; subst h; rfl
  | c :: cs, ds, h => by
    simp only [toDL] at h
    split at h
    · rename_i x xs h1 h2
      injection h with h; subst h
      rw [toDL_some cs xs h2]
      cases c <;> simp [toD1] at h1
      subst h1; rfl
    · cases h

theorem does_store_elem (hi : Inv cx ok w0 ρ st a w) {nm : Nat} {o : Oper} {T : TypeId} {x y : Operand} (ho : o.op = .store T x y) {i : TI} (ht : TyOk P cx T i) {n b k j : Nat} {B : TypeId} {t : ET} {l : List (Ty t)} (hk : lk st.heap n = some (.arr B t l)) (hkl : k < l.length)
    {ys : List C} {ds : List D} (hys : ys = ds.map .d) (hjw : j + i.size ≤ width t) {z : Ty t} (hz : dec t (putL (enc t (l.getD k (dflt t))) j ds) = some z) (hb : ρ n = some b) (hxe : a.eval x = .pointer (some ⟨b, k * width t + j, none⟩))
    {us : List Value} (h2 : RCs cx ρ (okc ok w0.heap.size st.heap ρ) w ys us) (hul : us.length = i.size) (e1 : (a.eval y).cells = us.toArray) (h1 : ∀ u ∈ us, u.oneCell' = true) :
    Does P cx ok w0 ρ st a w nm o .any (st.heap.set n (some (.arr B t (l.set k z)))) := by
  subst hys
  have hdl : ds.length = i.size := by have := h2.1; simp at this; omega
  rcases hi.heap n _ hk with ⟨g1, _⟩ | ⟨b', vs, g1, g2, g3, g4⟩
  · subst g1; simp at hkl
  · rw [hb] at g1; injection g1 with g1; subst g1
    have hbound : k * width t + width t ≤ vs.length := by
      have : (k + 1) * width t ≤ l.length * width t := Nat.mul_le_mul_right _ hkl
      rw [Nat.add_mul, Nat.one_mul] at this
      omega
    have hle : k * width t + j + us.length ≤ vs.length := by omega
    have hrun := run_storeVar' (P := P) (w := w) (off := k * width t + j) ht g2 e1 hul (by omega) h1
    have hsz : ((putL vs (k * width t + j) us).toArray).size = (vs.toArray).size := by simp [putL_length]
    have hxt := fun N => ext_write hi.hv (lk_some hk) hb g2 hsz (.arr B t (l.set k z)) N
    refine ⟨ρ, _, .skip, undef, ?_, .inr ⟨rfl, rfl⟩, fun _ _ => rfl, hxt, hi.hv.write (lk_some hk) hb g2 hsz _ (.inr ⟨b, _, hb, setRow_heap w b _ _ _ _ g2, by simpa [putL_length] using g3, fun i' j' hi' hj' => ?_⟩), trivial⟩
    · simp [execOp, ho, Instr.storeAt, Instr.sureAddr, hxe, hrun]
    · obtain ⟨_, hdr⟩ := dec_ok (cx := cx) (ok := okc ok w0.heap.size (st.heap.set n (some (.arr B t (l.set k z)))) ρ) (w := w.setRow b (putL vs (k * width t + j) us).toArray) t _ z hz
      have hi2 : i' < l.length := by simpa using hi'
      rw [putL_getD undef us vs _ _ hle]
      by_cases hik : i' = k
      · subst hik
        have ec : cellAt t (l.set i' z) i' j' = (enc t z).getD j' .nils := by
          unfold cellAt
          congr 2
          simp [List.getD_eq_getElem?_getD, List.getElem?_set, hi2]
        rw [ec]
        refine hdr j' _ hj' ?_
        rw [putL_getD .nils ds _ j j' (by rw [enc_length]; omega)]
        by_cases hin : j ≤ j' ∧ j' < j + ds.length
        · rw [if_pos hin, if_pos (by omega)]
          have hq := h2.2 (j' - j) (by simp; omega)
          have e3 : (ds.map C.d).getD (j' - j) (.d .nils) = .d (ds.getD (j' - j) .nils) := by simp [List.getD_eq_getElem?_getD, show j' - j < ds.length by omega]
          rw [e3] at hq
          rw [show i' * width t + j' - (i' * width t + j) = j' - j from by omega]
          exact RD.of_ext (hxt 0) hq
        · rw [if_neg hin, if_neg (by omega)]
          exact RD.of_ext (hxt 0) (g4 i' j' hi2 hj')
      · have ec : cellAt t (l.set k z) i' j' = cellAt t l i' j' := by
          unfold cellAt
          congr 2
          simp [List.getD_eq_getElem?_getD, List.getElem?_set, show ¬ k = i' from fun e => hik e.symm]
        rw [ec, if_neg]
        · exact RD.of_ext (hxt 0) (g4 i' j' hi2 hj')
        · intro hin
          rcases Nat.lt_or_ge i' k with hlt | hge
          · have : (i' + 1) * width t ≤ k * width t := Nat.mul_le_mul_right _ hlt
            rw [Nat.add_mul, Nat.one_mul] at this
            omega
          · have : (k + 1) * width t ≤ i' * width t := Nat.mul_le_mul_right _ (by omega)
            rw [Nat.add_mul, Nat.one_mul] at this
            omega

theorem does_store (hcx : CxOk P cx) (hi : Inv cx ok w0 ρ st a w) {nm : Nat} {o : Oper} {T : TypeId} {x y : Operand} {e : Eff} (ho : o.op = .store T x y) (he : storeE cx T st.env st.heap x y = some e) (hok : e.ok = true) :
    Does P cx ok w0 ρ st a w nm o e.val e.heap := by
  unfold storeE at he
  split at he
  · cases he
  · rename_i i hT
    have ht := hcx.ty _ _ hT
    split at he
    · rename_i g ys hy
      have hv := RV_norm (T := T) (RV_op hi y)
      rw [hy] at hv
      obtain ⟨us, e1, h2, _⟩ := RA_cells hv
      split at he
      · rename_i hlen
        simp only [beq_iff_eq] at hlen
        have hul : us.length = i.size := by rw [h2.1, hlen]
        have fin : ∀ (n b off : Nat) (cur : List Value) (B : TypeId) (blk : Blk), (lk st.heap n).isSome = true → ρ n = some b → w.heap[b]? = some (.cells cur.toArray B (0, 0)) → a.eval x = .pointer (some ⟨b, off, none⟩) → off + i.size ≤ cur.length →
            RB cx ρ (okc ok w0.heap.size (st.heap.set n (some blk)) ρ) (w.setRow b (putL cur off us).toArray) n blk → Does P cx ok w0 ρ st a w nm o .any (st.heap.set n (some blk)) := by
          intro n b off cur B blk hs hn hb hx hle hblk
          have hrun := run_storeVar' (P := P) (w := w) ht hb e1 hul hle (RCs_oneCell h2)
          have hz : ((putL cur off us).toArray).size = (cur.toArray).size := by simp [putL_length]
          refine ⟨ρ, _, .skip, undef, ?_, .inr ⟨rfl, rfl⟩, fun _ _ => rfl, fun N => ext_write hi.hv hs hn hb hz blk N, hi.hv.write hs hn hb hz blk hblk, trivial⟩
          simp [execOp, ho, Instr.storeAt, Instr.sureAddr, hx, hrun]
        split at he
        · rename_i n off hx
          obtain ⟨b, hb, hxe⟩ := op_c hi hx
          split at he
          · rename_i B cs hk
            split at he
            · rename_i hle
              injection he with he; subst he
              obtain ⟨b', vs, g1, g2, g3⟩ := hi.heap n _ hk
              rw [hb] at g1; injection g1 with g1; subst g1
              have hz : ((putL vs off us).toArray).size = (vs.toArray).size := by simp [putL_length]
              have hxt := fun N => ext_write hi.hv (lk_some hk) hb g2 hz (.box B (putL cs off ys)) N
              exact fin n b off vs B _ (lk_some hk) hb g2 hxe (by rw [g3.1]; exact hle) ⟨b, _, hb, setRow_heap w b _ _ _ _ g2, Ext.all_Cs hxt hi.hv.lt (RCs_putL ys us cs vs off g3 h2)⟩
            · cases he
          · cases he
        · rename_i n t k j hx
          obtain ⟨b, hb, hxe⟩ := op_c hi hx
          split at he
          · rename_i B t' l ds hk hds
            split at he
            · rename_i ett; subst ett
              split at he
              · rename_i hjw
                split at he
                · rename_i z hz
                  injection he with he; subst he
                  exact does_store_elem hi ho ht hk (by simpa using hok) (toDL_some _ _ hds) hjw hz hb hxe h2 hul e1 (RCs_oneCell h2)
                · cases he
              · cases he
            · cases he
          · cases he
        · cases he
      · cases he
    · cases he
end
end Go.Eng
