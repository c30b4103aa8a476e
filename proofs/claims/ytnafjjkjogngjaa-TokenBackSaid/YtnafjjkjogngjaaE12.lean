/- Literals of structs; what is zero. -/
import Derived.Test.YtnafjjkjogngjaaE11
import Derived.Laws.Tables
import Derived.Great.BuildSlice
set_option linter.unusedVariables false
set_option linter.unusedSimpArgs false
namespace Go.Eng
open Go Go.RowKit

theorem putL_length {α : Type} : ∀ (l : List α) (cs : List α) (off : Nat), (putL cs off l).length = cs.length
  | [], cs, off => rfl
  | x :: l, cs, off => by simp only [putL]; rw [putL_length l]; simp

theorem fold_put : ∀ (l : List Value) (k : Nat) (cells : Array Value) (off : Nat),
    ((l.zipIdx k).foldl (fun cs (p : Value × Nat) => cs.setIfInBounds (off + p.2) p.1) cells).toList = putL cells.toList (off + k) l
  | [], k, cells, off => rfl
  | x :: l, k, cells, off => by
    simp only [List.zipIdx_cons, List.foldl_cons, putL]
    rw [fold_put l (k + 1)]
    simp [Nat.add_assoc]

theorem mapM_some {α β : Type} (g : α → Option β) : ∀ (l : List α) (r : List β), l.mapM g = some r → ∀ (i : Nat) (x : α), l[i]? = some x → ∃ y, g x = some y ∧ r[i]? = some y
  | [], r, h, i, x, hx => by simp at hx
  | a :: l, r, h, i, x, hx => by
    simp only [List.mapM_cons, Option.bind_eq_bind, Option.pure_def] at h
    cases ha : g a with
    | none => rw [ha] at h; simp at h
    | some b =>
      cases hr : l.mapM g with
      | none => rw [ha, hr] at h; simp at h
      | some rest =>
        rw [ha, hr] at h
        simp at h
        subst h
        cases i with
        | zero => simp at hx; subst hx; exact ⟨b, ha, rfl⟩
        | succ i => simpa using mapM_some g l rest hr i x (by simpa using hx)

section
variable {P : Program} {cx : Cx} {ok : Nat → Prop} {w0 : World} {ρ : Rho} {st : St} {a : Act} {w : World}

theorem RCs_set {cs : List C} {vs : List Value} {c : C} {v : Value} (j : Nat) (h : RCs cx ρ ok w cs vs) (hc : RC cx ρ ok w c v) : RCs cx ρ ok w (cs.set j c) (vs.set j v) := by
  refine ⟨by simp [h.1], fun q hq => ?_⟩
  have hq' : q < cs.length := by simpa using hq
  have hv' : q < vs.length := by rw [h.1]; exact hq'
  by_cases e : j = q
  · subst e; simpa [List.getD_eq_getElem?_getD, List.getElem?_set, hq', hv'] using hc
  · have := h.2 q hq'
    simpa [List.getD_eq_getElem?_getD, List.getElem?_set, e] using this

theorem RCs_putL : ∀ (ys : List C) (us : List Value) (cs : List C) (vs : List Value) (off : Nat), RCs cx ρ ok w cs vs → RCs cx ρ ok w ys us → RCs cx ρ ok w (putL cs off ys) (putL vs off us)
  | [], us, cs, vs, off, h, hy => by
    have : us = [] := by have := hy.1; simpa using this
    subst this; exact h
  | y :: ys, us, cs, vs, off, h, hy => by
    obtain ⟨u, us', rfl, h1, h2⟩ := RCs_inv hy
    exact RCs_putL ys us' _ _ (off + 1) (RCs_set off h h1) h2

theorem RD_zero {d : D} (h : zeroD d) : RD cx ok w d (zval d) := by
  cases d with
  | sc s => exact RD.sc s
  | sl nl full t l =>
    obtain ⟨h1, rfl⟩ := h
    exact RD.sl0 _ _ _ _ _ (fun _ => rfl) (fun e => by rcases h1 with h1 | h1 <;> rw [h1] at e <;> cases e) (fun _ => rfl) (fun _ => rfl)
  | th x => cases h; exact RD.nilI
  | nilf => exact RD.nilf
  | _ => exact h.elim

theorem RCs_zero {T : TypeId} {i : TI} (ht : TyOk P cx T i) : RCs cx ρ ok w (i.zero.map .d) (i.zero.map zval) :=
  RCs_map_d (by simp) (fun j hj => by
    have e1 : (i.zero.map zval).getD j undef = zval (i.zero.getD j .nils) := by simp [List.getD_eq_getElem?_getD, hj]
    rw [e1]
    exact RD_zero (ht.zok _ (getD_mem hj)))

/-- a value's cells -/
theorem RA_cells {g : Bool} {cs : List C} {x : Value} (h : RA cx ρ ok w (g, cs) x) : ∃ vs : List Value, x.cells = vs.toArray ∧ RCs cx ρ ok w cs vs ∧ x = mkv g vs := by
  cases g with
  | true => obtain ⟨vs, rfl, h2⟩ := h; exact ⟨vs, rfl, h2, rfl⟩
  | false =>
    obtain ⟨c, rfl, h2⟩ := h
    refine ⟨[x], ?_, RCs_cons h2 RCs_nil, rfl⟩
    have := RC_one h2
    cases x <;> first | rfl | cases this

theorem fill_ok (hcx : CxOk P cx) (hi : Inv cx ok w0 ρ st a w) {T : TypeId} {fields : Array Field} {places : List (Nat × Nat)} (hu : P.underlying T = some (.struct fields))
    (hp : fields.toList.mapM (fun f => (P.info? f.type).map fun i => (f.offset, i.size)) = some places) :
    ∀ (parts : List (Nat × Operand)) (cs cs' : List C) (vs : List Value), fillB cx T st.env parts cs = some cs' → RCs cx ρ (okc ok w0.heap.size st.heap ρ) w cs vs →
      ∃ vs' : List Value, Instr.fill (places.toArray[·]?) vs.toArray (parts.map fun (i, x) => (i, a.eval x)) = some vs'.toArray ∧ RCs cx ρ (okc ok w0.heap.size st.heap ρ) w cs' vs'
  | [], cs, cs', vs, h, hr => by simp only [fillB, Option.some.injEq] at h; subst h; exact ⟨vs, rfl, hr⟩
  | (i, x) :: r, cs, cs', vs, h, hr => by
    unfold fillB at h
    split at h
    · rename_i off F hf
      split at h
      · rename_i fi g ys hF hn
        split at h
        · rename_i hc
          simp only [Bool.and_eq_true, beq_iff_eq, decide_eq_true_eq] at hc
          obtain ⟨fields', fd, hu', hfd, rfl, rfl⟩ := field_of hcx hf
          rw [hu] at hu'; injection hu' with hu'; injection hu' with hu'; subst hu'
          have hx := RV_norm (T := fd.type) (RV_op hi x)
          rw [hn] at hx
          obtain ⟨us, e1, h2, _⟩ := RA_cells hx
          obtain ⟨y, hy, hpl⟩ := mapM_some _ _ _ hp i fd (by simpa using hfd)
          obtain ⟨inf, hinf, hsz, _⟩ := (hcx.ty _ _ hF).info
          rw [hinf] at hy
          simp only [Option.map_some, Option.some.injEq] at hy
          subst hy
          have hul : us.length = ys.length := h2.1
          have hle := hc.2
          obtain ⟨vs', g1, g2⟩ := fill_ok hcx hi hu hp r _ cs' _ h (RCs_putL ys us cs vs fd.offset hr h2)
          refine ⟨vs', ?_, g2⟩
          have hvl : vs.length = cs.length := hr.1
          have hpl' : places.toArray[i]? = some (fd.offset, inf.size) := by simpa using hpl
          simp only [List.map_cons, Instr.fill, hpl', e1, List.size_toArray]
          have hc1 : (us.length != inf.size || decide (fd.offset + us.length > vs.length)) = false := by
            simp; omega
          have hzip : (us.toArray.zipIdx.foldl (fun (cs : Array Value) (x : Value × Nat) => cs.setIfInBounds (fd.offset + x.2) x.1) vs.toArray) = (putL vs fd.offset us).toArray := by
            apply Array.ext'
            have := fold_put us 0 vs.toArray fd.offset
            simpa using this
          rw [if_neg]
          · rw [hzip]; exact g1
          · simp; omega
        · cases h
      · cases h
    · cases h

theorem gives_build (hcx : CxOk P cx) (hi : Inv cx ok w0 ρ st a w) {o : Oper} {T : TypeId} {parts : Array (Nat × Operand)} {fs : List (Nat × TypeId)} {n : Nat} {z : List D} {e : List (Option ET)} {cs : List C} (ho : o.op = .build T parts)
    (hT : cx.tt T = some ⟨.struct fs, n, z, e⟩) (hf : fillB cx T st.env parts.toList (z.map .d) = some cs) : Gives P cx ok w0 ρ st a w o (.v true cs) := by
  have ht := hcx.ty _ _ hT
  obtain ⟨fields, hu, _, hp⟩ := und_of hcx hT
  obtain ⟨places, hp⟩ := Option.isSome_iff_exists.1 hp
  obtain ⟨inf, hinf, hsz, hz, _⟩ := ht.info
  obtain ⟨vs', g1, g2⟩ := fill_ok hcx hi hu hp parts.toList _ cs _ hf (RCs_zero ht)
  refine ⟨.agg vs'.toArray, ?_, vs', rfl, g2⟩
  have hb : P.built T (parts.map fun (i, x) => (i, a.eval x)).toList = some vs'.toArray := by
    simp only [Program.built, hinf, hu, hz, hp]
    rw [Array.toList_map]
    exact g1
  simp [execOp, ho, run_build w T _ _ hb]

theorem fillA_ok (hcx : CxOk P cx) (hi : Inv cx ok w0 ρ st a w) {F : TypeId} {fi : TI} {n : Nat} (hn : n = fi.size) :
    ∀ (parts : List (Nat × Operand)) (cs cs' : List C) (vs : List Value), fillA cx F fi st.env parts cs = some cs' → RCs cx ρ (okc ok w0.heap.size st.heap ρ) w cs vs →
      ∃ vs' : List Value, Instr.fill (fun i => some (i * n, n)) vs.toArray (parts.map fun (i, x) => (i, a.eval x)) = some vs'.toArray ∧ RCs cx ρ (okc ok w0.heap.size st.heap ρ) w cs' vs'
  | [], cs, cs', vs, h, hr => by simp only [fillA, Option.some.injEq] at h; subst h; exact ⟨vs, rfl, hr⟩
  | (i, x) :: r, cs, cs', vs, h, hr => by
    unfold fillA at h
    split at h
    · rename_i g ys hnm
      split at h
      · rename_i hc
        simp only [Bool.and_eq_true, beq_iff_eq, decide_eq_true_eq] at hc
        have hx := RV_norm (T := F) (RV_op hi x)
        rw [hnm] at hx
        obtain ⟨us, e1, h2, _⟩ := RA_cells hx
        have hul : us.length = ys.length := h2.1
        have hle := hc.2
        subst hn
        obtain ⟨vs', g1, g2⟩ := fillA_ok hcx hi rfl r _ cs' _ h (RCs_putL ys us cs vs (i * fi.size) hr h2)
        refine ⟨vs', ?_, g2⟩
        have hvl : vs.length = cs.length := hr.1
        simp only [List.map_cons, Instr.fill, e1, List.size_toArray]
        have hzip : (us.toArray.zipIdx.foldl (fun (cs : Array Value) (x : Value × Nat) => cs.setIfInBounds (i * fi.size + x.2) x.1) vs.toArray) = (putL vs (i * fi.size) us).toArray := by
          apply Array.ext'
          have := fold_put us 0 vs.toArray (i * fi.size)
          simpa using this
        rw [if_neg]
        · rw [hzip]; exact g1
        · simp; omega
      · cases h
    · cases h

theorem gives_buildA (hcx : CxOk P cx) (hi : Inv cx ok w0 ρ st a w) {o : Oper} {T F : TypeId} {fi : TI} {parts : Array (Nat × Operand)} {m n : Nat} {z : List D} {e : List (Option ET)} {cs : List C} (ho : o.op = .build T parts)
    (hT : cx.tt T = some ⟨.array m F, n, z, e⟩) (hF : cx.tt F = some fi) (hf : fillA cx F fi st.env parts.toList (z.map .d) = some cs) : Gives P cx ok w0 ρ st a w o (.v true cs) := by
  have ht := hcx.ty _ _ hT
  have hu : P.underlying T = some (.array m F) := und_of hcx hT
  obtain ⟨inf, hinf, hsz, hz, _⟩ := ht.info
  obtain ⟨inf2, hinf2, hsz2, _, _⟩ := (hcx.ty _ _ hF).info
  obtain ⟨vs', g1, g2⟩ := fillA_ok hcx hi hsz2 parts.toList _ cs _ hf (RCs_zero ht)
  refine ⟨.agg vs'.toArray, ?_, vs', rfl, g2⟩
  have hb : P.built T (parts.map fun (i, x) => (i, a.eval x)).toList = some vs'.toArray := by
    simp only [Program.built, hinf, hu, hz, hinf2]
    rw [Array.toList_map]
    exact g1
  simp [execOp, ho, run_build w T _ _ hb]
end
end Go.Eng
