/- Operations that read and reckon alone, fifth part. -/
import Derived.Test.YtnafjjkjogngjaaE9
set_option linter.unusedVariables false
set_option linter.unusedSimpArgs false
namespace Go.Eng
open Go Go.RowKit

section
variable {P : Program} {cx : Cx} {ok : Nat → Prop} {w0 : World} {ρ : Rho} {st : St} {a : Act} {w : World}

/-- a type assertion, as the machine has it -/
theorem run_assert {x : Value} {xT T : TypeId} {d : TypeDesc} (hu : P.underlying T = some d) (hd : ∀ ms, d ≠ .interface ms) (hx : x = .nilIface ∨ ∃ T' v, x = .iface T' v) {i : TI} (ht : TyOk P cx T i) :
    (∀ v, x = .iface T v → (Instr.typeAssert x xT T false).run P w = .ok v w ∧ (Instr.typeAssert x xT T true).run P w = .ok (.tuple #[v, .bool true]) w) ∧
    ((∀ v, x ≠ .iface T v) → (Instr.typeAssert x xT T true).run P w = .ok (.tuple #[mkv i.agg (i.zero.map zval), .bool false]) w) := by
  have hz := run_zero (w := w) ht
  constructor
  · rintro v rfl
    cases d <;> first | exact absurd rfl (hd _) | (constructor <;> simp [Instr.typeAssert, run_underlying hu])
  · intro hne
    rcases hx with rfl | ⟨T', v, rfl⟩
    · cases d <;> first | exact absurd rfl (hd _) | simp [Instr.typeAssert, run_underlying hu, hz]
    · have hT : ¬ T' = T := fun e => hne v (by rw [e])
      cases d <;> first | exact absurd rfl (hd _) | simp [Instr.typeAssert, run_underlying hu, hz, hT]

theorem gives_assert (hcx : CxOk P cx) (hi : Inv cx ok w0 ρ st a w) {o : Oper} {xT T : TypeId} {x : Operand} {commaOk : Bool} {y : Thing} {c : Bool} {v : V} (ho : o.op = .typeAssert x xT T commaOk) (hx : opv st.env x = .v false [.d (.th y)])
    (he : assertE cx y T commaOk = some (c, v)) (hc : c = true) : Gives P cx ok w0 ρ st a w o v := by
  have hv := op_c hi hx
  generalize hxe : a.eval x = xe at hv
  have hif : xe = .nilIface ∨ ∃ T' v, xe = .iface T' v := by
    cases hv with
    | nilI => exact .inl rfl
    | one T' s h => exact .inr ⟨_, _, rfl⟩
    | val T' u h => exact .inr ⟨_, _, rfl⟩
  have run : ∀ u, (Instr.typeAssert xe xT T commaOk).run P w = .ok u w → (execOp a.eval o).run P w = .ok (.value u) w := fun u h => by simp [execOp, ho, hxe, h]
  have fin : ∀ (i : TI) (d : TypeDesc) (is g : Bool) (cs : List C) (u : Value), TyOk P cx T i → P.underlying T = some d → (∀ ms, d ≠ .interface ms) →
      (is = true → xe = .iface T u) → (is = false → ∀ v, xe ≠ .iface T v) → ((∀ v, xe ≠ .iface T v) → u = mkv i.agg (i.zero.map zval)) → RA cx ρ (okc ok w0.heap.size st.heap ρ) w (g, cs) u →
      (if commaOk then some (true, V.tup [(g, cs), (false, [.d (.b is)])]) else some (is, V.v g cs)) = some (c, v) → Gives P cx ok w0 ρ st a w o v := by
    intro i d is g cs u ht hu hd h1 h2 h3 hr hcv
    obtain ⟨ra, rb⟩ := run_assert (w := w) (xT := xT) hu hd hif ht
    cases hk : commaOk with
    | false =>
      rw [hk] at hcv run
      injection hcv with hcv; injection hcv with e1 e2; subst e2
      rw [e1] at h1
      have := h1 hc
      exact ⟨u, run u (ra u this).1, hr⟩
    | true =>
      rw [hk] at hcv run
      injection hcv with hcv; injection hcv with e1 e2; subst e2
      refine ⟨.tuple #[u, .bool is], ?_, [u, .bool is], rfl, rfl, fun j hj => ?_⟩
      · cases is with
        | true => exact run _ (ra u (h1 rfl)).2
        | false => rw [h3 (h2 rfl)]; exact run _ (rb (h2 rfl))
      · match j, hj with
        | 0, _ => exact hr
        | 1, _ => exact ⟨_, rfl, RD.sc (.bool is)⟩
  unfold assertE at he
  simp only at he
  split at he
  · rename_i k n k2 e hT
    split at he
    · rename_i hk; subst hk
      refine fin _ (.int k2) (y.isI T k2) false [.d (.sc (.int k2 (y.asI T k2)))] (.int k2 (y.asI T k2)) (hcx.ty _ _ hT) (und_of hcx hT) (by intro ms h; cases h) (fun h => ?_) (fun h v hv' => ?_) (fun hne => ?_) ⟨_, rfl, RD.sc (.int k2 _)⟩ he
      · cases hv with
        | nilI => cases h
        | one T' s hs =>
          cases s with
          | int k' m =>
            simp only [Thing.isI, Bool.and_eq_true, beq_iff_eq, decide_eq_true_eq] at h
            obtain ⟨rfl, rfl⟩ := h
            simp [Thing.asI, Sc.val]
          | _ => cases h
        | val T' u hs => cases h
      · subst hv'
        cases hv with
        | one _ s hs =>
          cases s <;> simp [oneOk, hT] at hs
          subst hs; simp [Thing.isI] at h
        | val _ u hs => simp [threeOk, hT] at hs
      · have : y.asI T k2 = 0 := by
          cases hv with
          | nilI => rfl
          | one T' s h =>
            cases s with
            | int k' m =>
              have : (T' == T) = false := by rw [beq_eq_false_iff_ne]; intro e; exact hne _ (by rw [e])
              simp [Thing.asI, this]
            | _ => rfl
          | val T' u h => rfl
        rw [this]; rfl
    · cases he
  · rename_i n e hT
    refine fin _ .bool (y.isB T) false [.d (.b (y.asB T))] (.bool (y.asB T)) (hcx.ty _ _ hT) (und_of hcx hT) (by intro ms h; cases h) (fun h => ?_) (fun h v hv' => ?_) (fun hne => ?_) ⟨_, rfl, RD.sc (.bool _)⟩ he
    · cases hv with
      | nilI => cases h
      | one T' s hs =>
        cases s with
        | bool b =>
          simp only [Thing.isB, beq_iff_eq] at h
          obtain rfl := h
          simp [Thing.asB, Sc.val]
        | _ => cases h
      | val T' u hs => cases h
    · subst hv'
      cases hv with
      | one _ s hs =>
        cases s <;> simp [oneOk, hT] at hs
        simp [Thing.isB] at h
      | val _ u hs => simp [threeOk, hT] at hs
    · have : y.asB T = false := by
        cases hv with
        | nilI => rfl
        | one T' s h =>
          cases s with
          | bool b =>
            have : (T' == T) = false := by rw [beq_eq_false_iff_ne]; intro e; exact hne _ (by rw [e])
            simp [Thing.asB, this]
          | _ => rfl
        | val T' u h => rfl
      rw [this]; rfl
  · rename_i n z e hT
    split at he
    · rename_i hz; subst hz
      refine fin _ .string (y.isS T) false [.d (.s (y.asS T))] (.string (y.asS T)) (hcx.ty _ _ hT) (und_of hcx hT) (by intro ms h; cases h) (fun h => ?_) (fun h v hv' => ?_) (fun hne => ?_) ⟨_, rfl, RD.sc (.str _)⟩ he
      · cases hv with
        | nilI => cases h
        | one T' s hs =>
          cases s with
          | str b =>
            simp only [Thing.isS, beq_iff_eq] at h
            obtain rfl := h
            simp [Thing.asS, Sc.val]
          | _ => cases h
        | val T' u hs => cases h
      · subst hv'
        cases hv with
        | one _ s hs =>
          cases s <;> simp [oneOk, hT] at hs
          simp [Thing.isS] at h
        | val _ u hs => simp [threeOk, hT] at hs
      · have : y.asS T = ByteArray.empty := by
          cases hv with
          | nilI => rfl
          | one T' s h =>
            cases s with
            | str b =>
              have : (T' == T) = false := by rw [beq_eq_false_iff_ne]; intro e; exact hne _ (by rw [e])
              simp [Thing.asS, this]
            | _ => rfl
          | val T' u h => rfl
        rw [this]; rfl
    · cases he
  · rename_i fs z e hT
    split at he
    · rename_i hz; subst hz
      obtain ⟨fields, hu, _⟩ := und_of hcx hT
      refine fin _ (.struct fields) (y.isV T) true _ (.agg (valCells (y.asV T))) (hcx.ty _ _ hT) hu (by intro ms h; cases h) (fun h => ?_) (fun h v hv' => ?_) (fun hne => ?_) ⟨(valCells (y.asV T)).toList, by simp, ?_⟩ he
      · cases hv with
        | nilI => cases h
        | one T' s hs => cases h
        | val T' u hs =>
          simp only [Thing.isV, beq_iff_eq] at h
          obtain rfl := h
          simp [Thing.asV]
      · subst hv'
        cases hv with
        | one _ s hs => cases s <;> simp [oneOk, hT] at hs
        | val _ u hs => simp [Thing.isV] at h
      · have : y.asV T = default := by
          cases hv with
          | nilI => rfl
          | one T' s h => rfl
          | val T' u h =>
            have : (T' == T) = false := by rw [beq_eq_false_iff_ne]; intro e; exact hne _ (by rw [e])
            simp [Thing.asV, this]
        rw [this]; rfl
      · refine RCs_map_d (by simp [valCells, enc]) (fun j hj => ?_)
        match j, hj with
        | 0, _ => exact RD.sc (.int _ _)
        | 1, _ => exact RD.sc (.int _ _)
        | 2, _ => exact RD.sc (.str _)
    · cases he
  · cases he

theorem gives_extract (hi : Inv cx ok w0 ρ st a w) {o : Oper} {x : Operand} {n : Nat} {vs : List Arg} {g : Arg} (ho : o.op = .extract x n) (hx : opv st.env x = .tup vs) (hg : vs[n]? = some g) : Gives P cx ok w0 ρ st a w o (.v g.1 g.2) := by
  have hr := RV_op hi x
  rw [hx] at hr
  obtain ⟨xs, e1, e2, h⟩ := hr
  have hn : n < vs.length := by
    rcases Nat.lt_or_ge n vs.length with h | h
    · exact h
    · rw [List.getElem?_eq_none h] at hg; cases hg
  have hn' : n < xs.length := by omega
  have hh := h n hn
  have e3 : vs.getD n (false, []) = g := by rw [List.getD_eq_getElem?_getD, hg]; rfl
  rw [e3] at hh
  refine ⟨xs.getD n undef, ?_, hh⟩
  have e4 : xs.getD n undef = xs[n] := by simp [List.getD_eq_getElem?_getD, hn']
  rw [e4]
  simp [execOp, ho, e1, Instr.extract, hn']

theorem gives_makeFunc (hi : Inv cx ok w0 ρ st a w) {o : Oper} {f : FuncId} {first caps : Array Operand} {v : V} (ho : o.op = .makeFunc (.func f) first caps)
    (he : (match first.toList.map (opv st.env), caps.toList.map (opv st.env) with
      | [], [] => pure1 st.heap (.v false [.d (.fn f [] [])])
      | _, _ => match ptrs (first.toList.map (opv st.env)), ptrs (caps.toList.map (opv st.env)) with
        | some x, some y => pure1 st.heap (.v false [.clo f x y])
        | _, _ => match refs (first.toList.map (opv st.env)), refs (caps.toList.map (opv st.env)) with
          | some x, some y => pure1 st.heap (.v false [.d (.fn f x y)])
          | _, _ => none) = some { ok := true, val := v, heap := st.heap }) : Gives P cx ok w0 ρ st a w o v := by
  have run : (execOp a.eval o).run P w = .ok (.value (.func (.func f) (first.map a.eval) (caps.map a.eval))) w := by simp [execOp, ho, Instr.makeFunc]
  have pt : ∀ (l : List Operand) (ns : List Nat), ptrs (l.map (opv st.env)) = some ns → ptrsTo ρ ns (l.map a.eval) := by
    intro l
    induction l with
    | nil => intro ns h; simp only [List.map_nil, ptrs] at h; injection h with h; subst h; exact ⟨rfl, fun i hi => by simp at hi⟩
    | cons x l ih =>
      intro ns h
      have hx := RV_op hi x
      rw [List.map_cons] at h
      unfold ptrs at h
      split at h
      · cases ‹_ = []›
      · rename_i n r heq
        injection heq with h1 h2
        subst h2
        split at h
        · rename_i ns' hns
          injection h with h; subst h
          rw [h1] at hx
          obtain ⟨b, hb, hv⟩ := RV_c hx
          have := ih ns' hns
          refine ⟨by simp [this.1], fun i hi => ?_⟩
          cases i with
          | zero => exact ⟨b, hb, hv⟩
          | succ i => simpa using this.2 i (by simpa using hi)
        · cases h
      · cases h
  have rf : ∀ (l : List Operand) (ns : List (List D)), refs (l.map (opv st.env)) = some ns → (l.map a.eval).length = ns.length ∧ ∀ i, i < ns.length → RD cx (okc ok w0.heap.size st.heap ρ) w (.ref (ns.getD i [])) ((l.map a.eval).getD i undef) := by
    intro l
    induction l with
    | nil => intro ns h; simp only [List.map_nil, refs] at h; injection h with h; subst h; exact ⟨rfl, fun i hi => by simp at hi⟩
    | cons x l ih =>
      intro ns h
      have hx := RV_op hi x
      rw [List.map_cons] at h
      unfold refs at h
      split at h
      · cases ‹_ = []›
      · rename_i n r heq
        injection heq with h1 h2
        subst h2
        split at h
        · rename_i ns' hns
          injection h with h; subst h
          rw [h1] at hx
          have hv := RV_c hx
          have := ih ns' hns
          refine ⟨by simp [this.1], fun i hi => ?_⟩
          cases i with
          | zero => exact hv
          | succ i => simpa using this.2 i (by simpa using hi)
        · cases h
      · cases h
  refine ⟨_, run, ?_⟩
  have e1 : first.map a.eval = (first.toList.map a.eval).toArray := by apply Array.ext'; simp
  have e2 : caps.map a.eval = (caps.toList.map a.eval).toArray := by apply Array.ext'; simp
  rw [e1, e2]
  split at he
  · rename_i h1 h2
    simp only [pure1, Option.some.injEq, Eff.mk.injEq, true_and, and_true] at he
    subst he
    rw [List.map_eq_nil_iff] at h1 h2
    rw [h1, h2]
    exact ⟨_, rfl, RD.fn f [] [] [] [] rfl rfl (fun i hi => by simp at hi) (fun i hi => by simp at hi)⟩
  · split at he
    · rename_i x y h1 h2
      simp only [pure1, Option.some.injEq, Eff.mk.injEq, true_and, and_true] at he
      subst he
      exact ⟨_, rfl, _, _, rfl, pt _ _ h1, pt _ _ h2⟩
    · split at he
      · rename_i x y h1 h2
        simp only [pure1, Option.some.injEq, Eff.mk.injEq, true_and, and_true] at he
        subst he
        obtain ⟨l1, r1⟩ := rf _ _ h1
        obtain ⟨l2, r2⟩ := rf _ _ h2
        exact ⟨_, rfl, RD.fn f x y _ _ l1 l2 r1 r2⟩
      · cases he
end
end Go.Eng
