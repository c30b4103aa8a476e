/- Functions. -/
import Derived.Test.YtnafjjkjogngjaaE30
set_option linter.unusedVariables false
set_option linter.unusedSimpArgs false
namespace Go.Eng
open Go Go.RowKit

/-- a result, as the machine takes it out of the frame -/
def resM (tmps : Array Value) : ResultVar → Sem Value
  | .tmp t => pure (tmps.getD t undef)
  | .cell q t => do loadVar t (← asAddr (tmps.getD q undef))

section
variable {P : Program} {cx : Cx} {ok : Nat → Prop} {w0 : World} {ρ : Rho} {st st' : St} {a : Act} {w : World}

theorem resOf_ok (hcx : CxOk P cx) (hi : Inv cx ok w0 ρ st a w) {r : ResultVar} {T : TypeId} {g : Arg} (h : resOf cx st r T = some g) :
    ∃ x, (resM a.tmps r).run P w = .ok x w ∧ RA cx ρ (okc ok w0.heap.size st.heap ρ) w g x := by
  have at_ : ∀ t v, st.env.getD t .any = v → v ≠ .any → RV cx ρ (okc ok w0.heap.size st.heap ρ) w v (a.tmps.getD t undef) := fun t v hv hne => by
    have hl : t < st.env.length := by
      rcases Nat.lt_or_ge t st.env.length with h1 | h1
      · exact h1
      · rw [List.getD_eq_getElem?_getD, List.getElem?_eq_none h1] at hv; exact absurd hv.symm hne
    rw [← hv]; exact hi.env t hl
  cases r with
  | tmp t =>
    simp only [resOf] at h
    split at h
    · rename_i g' cs hv
      injection h with h; subst h
      exact ⟨_, by simp [resM], at_ t _ hv (by intro h; cases h)⟩
    · cases h
  | cell t T' =>
    simp only [resOf] at h
    split at h
    · rename_i n o i hv hT
      split at h
      · rename_i B cs hk
        split at h
        · rename_i hle
          injection h with h; subst h
          have ht := hcx.ty _ _ hT
          obtain ⟨b, hb, he⟩ := RV_c (at_ t _ hv (by intro h; cases h))
          obtain ⟨b', vs, q1, q2, q3⟩ := hi.heap n _ hk
          rw [hb] at q1; injection q1 with q1; subst q1
          have hvl : vs.length = cs.length := q3.1
          have hr := RCs_seg q3 hle
          refine ⟨mkv i.agg (seg vs o i.size), ?_, RA_mkv hr (fun hg => by rw [seg_length hle]; exact ht.one hg)⟩
          have hload := run_loadVar' (w := w) (P := P) ht (b := b) (off := o) (vs := seg vs o i.size) (seg_length (by omega)) (fun j hj => by
            rw [seg_getD (by omega) hj]
            exact cell_of_block q2 (by omega))
          simp [resM, he, asAddr, hload]
        · cases h
      · cases h
    · cases h

theorem resL_ok (hcx : CxOk P cx) (hi : Inv cx ok w0 ρ st a w) : ∀ (rs : List ResultVar) (ts : List TypeId) (gs : List Arg), resL cx st rs ts = some gs →
    ∃ xs : List Value, (rs.mapM (resM a.tmps)).run P w = .ok xs w ∧ RAs cx ρ (okc ok w0.heap.size st.heap ρ) w gs xs
  | [], ts, gs, h => by
    simp only [resL] at h; injection h with h; subst h
    exact ⟨[], by simp, rfl, fun j hj => by simp at hj⟩
  | r :: rs, ts, gs, h => by
    simp only [resL] at h
    split at h
    · rename_i g gs' h1 h2
      injection h with h; subst h
      obtain ⟨x, e1, r1⟩ := resOf_ok hcx hi h1
      obtain ⟨xs, e2, r2⟩ := resL_ok hcx hi rs _ _ h2
      refine ⟨x :: xs, ?_, by simp [r2.1], fun j hj => ?_⟩
      · rw [List.mapM_cons, Sem.run_bind, e1]
        simp only [Result.andThen_ok]
        rw [Sem.run_bind, e2]
        simp
      · cases j with
        | zero => exact r1
        | succ j => simpa using r2.2 j (by simpa using hj)
    · cases h

theorem valOf_ok {gs : List Arg} {xs : List Value} (h : RAs cx ρ ok w gs xs) : RV cx ρ ok w (valOf gs) (if h : xs.toArray.size = 1 then xs.toArray[0] else .tuple xs.toArray) := by
  match gs, xs, h with
  | [], xs, h => trivial
  | [(g, cs)], [x], h => exact h.2 0 (by simp)
  | [(g, cs)], [], h => have := h.1; simp at this
  | [(g, cs)], x :: y :: r, h => have := h.1; simp at this
  | g1 :: g2 :: r, [], h => have := h.1; simp at this
  | g1 :: g2 :: r, [x], h => have := h.1; simp at this
  | g1 :: g2 :: r, x :: y :: xs, h =>
    rw [dif_neg (by simp)]
    exact ⟨_, rfl, h⟩

theorem run_results (hcx : CxOk P cx) (hi : Inv cx ok w0 ρ st a w) {fn : Func} {gs : List Arg} (h : resL cx st fn.results.toList fn.resultTypes.toList = some gs) :
    ∃ x, (results fn a.tmps).run P w = .ok x w ∧ RV cx ρ (okc ok w0.heap.size st.heap ρ) w (valOf gs) x := by
  obtain ⟨xs, e, r⟩ := resL_ok hcx hi _ _ _ h
  refine ⟨_, ?_, valOf_ok r⟩
  have hres : results fn a.tmps = (do
      let vs ← fn.results.mapM (resM a.tmps)
      pure (if h : vs.size = 1 then vs[0] else .tuple vs)) := by
    unfold results
    congr 1
    first | rfl | skip
    all_goals (first | (congr 1; funext r; cases r <;> rfl) | skip)
  have hm : (fn.results.mapM (resM a.tmps)).run P w = .ok xs.toArray w := by
    rw [Array.mapM_eq_mapM_toList]
    simp only [map_eq_pure_bind]
    rw [Sem.run_bind, e]
    simp
  rw [hres, Sem.run_bind, hm]
  simp

theorem fun_adq {X : Type} {hd : Hd (Option X)} {B : Code → Prop} (hcx : CxOk P cx) (hga : GaOk P cx) (hH : HdOk P cx hd B) {fn : Func} {f : FuncId} {as : List Arg} {h : Heap} {K : List Arg → Heap → Option X} {x : X} (hB : ∀ c, fn.body = some c → ∀ p ∈ loopsOf c, B p) (he : evFun cx hd none fn f as h K = some x) :
    ∃ rs h', ClSem P cx fn f as h rs h' ∧ K rs h' = some x := by
  unfold evFun at he
  split at he
  · cases he
  · rename_i c hbody
    obtain ⟨e, st', h1, h2⟩ := code_adq hcx hga hH f c _ _ x (hB c hbody) he
    have fin : (e = .normal ∨ e = .ret) → (match resL cx st' fn.results.toList fn.resultTypes.toList with
        | some rs => K rs st'.heap
        | none => none) = some x → ∃ rs h', ClSem P cx fn f as h rs h' ∧ K rs h' = some x := fun hen hk => by
      split at hk
      · rename_i rs hrs
        refine ⟨rs, st'.heap, fun hf ok w0 ρ w xs hi hr => ?_, hk⟩
        refine calls_of_wp hf.at_ hbody ?_
        have hsz : xs.length = as.length := hr.1
        refine h1.2 ok w0 ρ _ w _ (Inv.mk ?_ (fun t ht => ?_) hi.heap hi.inj hi.own hi.fresh hi.below rfl) (Nat.le_refl _) (fun ρ' a' w' i1 g1 => ?_)
        · simp [hsz]
        · show RV cx ρ _ w ((as.map (fun (g, cs) => V.v g cs) ++ List.replicate (fn.ntmps - as.length) V.any).getD t .any) ((xs.toArray ++ Array.replicate (fn.ntmps - xs.toArray.size) undef).getD t undef)
          by_cases hlt : t < as.length
          · have e1 : (as.map (fun (g, cs) => V.v g cs) ++ List.replicate (fn.ntmps - as.length) V.any).getD t .any = V.v (as.getD t (false, [])).1 (as.getD t (false, [])).2 := by
              rw [List.getD_eq_getElem?_getD, List.getElem?_append_left (by simpa using hlt)]
              simp [List.getD_eq_getElem?_getD, hlt]
            have e2 : (xs.toArray ++ Array.replicate (fn.ntmps - xs.toArray.size) undef).getD t undef = xs.getD t undef := by
              have : t < xs.length := by omega
              rw [Array.getD_eq_getD_getElem?, Array.getElem?_append_left (by simpa using this)]
              simp [List.getD_eq_getElem?_getD]
            rw [e1, e2]
            exact hr.2 t hlt
          · have e1 : (as.map (fun (g, cs) => V.v g cs) ++ List.replicate (fn.ntmps - as.length) V.any).getD t .any = V.any := by
              rw [List.getD_eq_getElem?_getD, List.getElem?_append_right (by simpa using hlt), List.getElem?_replicate]
              split <;> rfl
            rw [e1]; trivial
        · obtain ⟨v, r1, r2⟩ := run_results hcx i1 hrs
          have post : a'.defers = [] ∧ ∃ v, (results fn a'.tmps).run P w' = .ok v w' ∧ ∃ x ρ'', Ending.returned v = .returned x ∧ Goes ok w0.heap.size h.length ρ h w ρ'' st'.heap w' ∧ HInv cx ok w0 ρ'' st'.heap w' ∧ RV cx ρ'' (okc ok w0.heap.size st'.heap ρ'') w' (valOf rs) x :=
            ⟨i1.defers, v, r1, v, ρ', rfl, g1, i1.hv, r2⟩
          rcases hen with rfl | rfl
          · exact post
          · exact post
      · cases hk
    cases e with
    | normal => exact fin (.inl rfl) h2
    | ret => exact fin (.inr rfl) h2
    | exit id => cases h2

theorem evN_ok {X : Type} (hcx : CxOk P cx) (hga : GaOk P cx) : ∀ n, HdOk (X := X) P cx (evN cx none n) (fun _ => True)
  | 0 => ⟨(by intro _ _ _ _ _ _ h; cases h), (by intro _ _ _ _ _ _ _ _ h; cases h)⟩
  | n + 1 => by
    have ih := evN_ok (X := X) hcx hga n
    refine ⟨fun fn f as h K x he => fun_adq hcx hga ih (fun _ _ _ _ => trivial) he, fun f body hs base st K x _ he => ?_⟩
    simp only [evN] at he
    obtain ⟨e, s1, h1, h2⟩ := code_adq hcx hga ih f body st _ x (fun _ _ => trivial) he
    cases e with
    | exit id => exact ⟨.exit id, s1, h1.last (by intro h; cases h), h2⟩
    | ret => exact ⟨.ret, s1, h1.last (by intro h; cases h), h2⟩
    | normal =>
      simp only at h2
      split at h2
      · cases h2
      · rename_i s2 hb
        split at h2
        · cases h2
        · rename_i s3 hc
          obtain ⟨e, s4, h3, h4⟩ := ih.lp _ _ _ _ _ _ _ trivial h2
          exact ⟨e, s4, h1.circle (((turns_keep (cx := cx) (st := s1) _).trans (turns_backs _ _ _ _ hb)).trans (turns_clean hc)) h3, h4⟩
end
end Go.Eng
