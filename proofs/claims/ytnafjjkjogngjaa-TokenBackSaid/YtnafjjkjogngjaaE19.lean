/- Each operation comes to what the evaluator says. -/
import Derived.Test.YtnafjjkjogngjaaE18
set_option linter.unusedVariables false
set_option linter.unusedSimpArgs false
namespace Go.Eng
open Go Go.RowKit

section
variable {P : Program} {cx : Cx} {ok : Nat → Prop} {w0 : World} {ρ : Rho} {st : St} {a : Act} {w : World} {h : Heap}

theorem argsOf_ok (hi : Inv cx ok w0 ρ st a w) : ∀ (xs : List Operand) (ts : List TypeId) (as : List Arg), argsOf cx st.env xs ts = some as → RAs cx ρ (okc ok w0.heap.size st.heap ρ) w as (xs.map a.eval)
  | [], _, as, h => by
    simp only [argsOf, Option.some.injEq] at h
    subst h
    exact ⟨rfl, fun j hj => by simp at hj⟩
  | x :: xs, ts, as, h => by
    simp only [argsOf] at h
    split at h
    · rename_i g cs r h1 h2
      injection h with h; subst h
      have ih := argsOf_ok hi xs ts.tail r h2
      have hx := RV_norm (T := ts.headD 0) (RV_op hi x)
      rw [h1] at hx
      refine ⟨by simp [ih.1], fun j hj => ?_⟩
      cases j with
      | zero => exact hx
      | succ j => simpa using ih.2 j (by simpa using hj)
    · cases h

theorem RAs_append {as bs : List Arg} {xs ys : List Value} (h1 : RAs cx ρ ok w as xs) (h2 : RAs cx ρ ok w bs ys) : RAs cx ρ ok w (as ++ bs) (xs ++ ys) := by
  refine ⟨by simp [h1.1, h2.1], fun j hj => ?_⟩
  simp only [List.getD_eq_getElem?_getD, List.getElem?_append]
  have hl := h1.1
  by_cases hlt : j < as.length
  · rw [if_pos hlt, if_pos (by omega)]
    have := h1.2 j hlt
    simpa [List.getD_eq_getElem?_getD] using this
  · rw [if_neg hlt, if_neg (by omega), hl]
    have := h2.2 (j - as.length) (by simp at hj; omega)
    simpa [List.getD_eq_getElem?_getD] using this

theorem RAs_refs {rs : List (List D)} {us : List Value} (hl : us.length = rs.length) (h : ∀ i, i < rs.length → RD cx ok w (.ref (rs.getD i [])) (us.getD i undef)) : RAs cx ρ ok w (rs.map fun r => (false, [C.d (.ref r)])) us := by
  refine ⟨by simpa using hl, fun j hj => ?_⟩
  have hj' : j < rs.length := by simpa using hj
  have := h j hj'
  have e : (rs.map fun r => ((false, [C.d (.ref r)]) : Arg)).getD j (false, []) = (false, [C.d (.ref (rs.getD j []))]) := by simp [List.getD_eq_getElem?_getD, hj']
  rw [e]
  exact ⟨_, rfl, this⟩
theorem RAs_ptrs {ns : List Nat} {us : List Value} (h : ptrsTo ρ ns us) : RAs cx ρ ok w (ns.map fun n => (false, [C.ptr n 0])) us := by
  refine ⟨by simpa using h.1, fun j hj => ?_⟩
  have hj' : j < ns.length := by simpa using hj
  obtain ⟨b, h1, h2⟩ := h.2 j hj'
  have e : (ns.map fun n => ((false, [C.ptr n 0]) : Arg)).getD j (false, []) = (false, [C.ptr (ns.getD j 0) 0]) := by simp [List.getD_eq_getElem?_getD, hj']
  rw [e]
  exact ⟨_, rfl, b, h1, h2⟩

/-- how a call that is no builtin is made -/
def goOf (c : Call) (o : Oper) (ρ : Operand → Value) : Sem Next := do
  let d ← resolve ρ c o.type
  invoke d.target d.args

theorem exec_call {o : Oper} {cl : Call} (ho : o.op = .call cl) (r : Operand → Value) : execOp r o = goOf cl o r := by
  simp [execOp, ho, goOf]

/-- whom a call calls, and with what -/
theorem wayOf_gam (hga : GaOk P cx) (hi : Inv cx ok w0 ρ st a w) {o : Oper} {cl : Call} (ho : o.op = .call cl) {G : List DArg → Option Ret} {as : List Arg} (hw : wayOf cx st.env cl = some (.gam G as)) :
    ∃ go xs, EntOk P cx go G ∧ RAs cx ρ (okc ok w0.heap.size st.heap ρ) w as xs ∧ ∀ f ys, (go xs).run P w = .ok (.enter f ys) w → (execOp a.eval o).run P w = .ok (.enter f ys) w := by
  unfold wayOf at hw
  split at hw
  · cases hw
  · rename_i as0 has
    have hargs := argsOf_ok hi _ _ _ has
    split at hw
    · rename_i f hf
      split at hw
      · rename_i g fs ks hop
        simp only at hw
        split at hw
        · rename_i G' hG
          injection hw with hw; injection hw with e1 e2; subst e1; subst e2
          have hv := op_c hi hop
          generalize hfe : a.eval f = fe at hv
          cases hv with
          | fn _ _ _ u v h1 h2 ha hb =>
            refine ⟨_, u ++ cl.args.toList.map a.eval ++ v, hga.ga _ _ hG, RAs_append (RAs_append (RAs_refs h1 ha) hargs) (RAs_refs h2 hb), fun f' ys hr => ?_⟩
            rw [exec_call ho]
            have e : (u.toArray ++ cl.args.map a.eval) ++ v.toArray = (u ++ cl.args.toList.map a.eval ++ v).toArray := by
              apply Array.toList_inj.1; simp
            simp only [goOf, resolve, hf, hfe, Deferred.ofValue, Sem.run_bind, Sem.run_pure, Result.andThen_ok, invoke]
            rw [e]
            exact hr
        · split at hw <;> cases hw
      · split at hw <;> cases hw
      · cases hw
    · rename_i x m hc
      split at hw
      · rename_i G' y hG hop
        injection hw with hw; injection hw with e1 e2; subst e1; subst e2
        have hv := op_c hi hop
        refine ⟨_, a.eval x :: cl.args.toList.map a.eval, hga.inv _ _ hG, ⟨by simp [hargs.1], fun j hj => ?_⟩, fun f' ys hr => ?_⟩
        · cases j with
          | zero => exact ⟨_, rfl, hv⟩
          | succ j => simpa using hargs.2 j (by simpa using hj)
        · rw [exec_call ho]
          have e : #[a.eval x] ++ cl.args.map a.eval = (a.eval x :: cl.args.toList.map a.eval).toArray := by
            apply Array.toList_inj.1; simp
          simp only [goOf, resolve, hc, Sem.run_bind, Sem.run_pure, Result.andThen_ok]
          rw [e]
          exact hr
      · cases hw
    · cases hw

theorem wayOf_inl (hga : GaOk P cx) (hi : Inv cx ok w0 ρ st a w) {o : Oper} {cl : Call} (ho : o.op = .call cl) {fn : Func} {f : FuncId} {as : List Arg} (hw : wayOf cx st.env cl = some (.inl fn f as)) :
    ∃ xs, FnOk P f fn ∧ RAs cx ρ (okc ok w0.heap.size st.heap ρ) w as xs ∧ (execOp a.eval o).run P w = .ok (.enter f xs.toArray) w := by
  unfold wayOf at hw
  split at hw
  · cases hw
  · rename_i as0 has
    have hargs := argsOf_ok hi _ _ _ has
    split at hw
    · rename_i fv hf
      split at hw
      · rename_i g fs ks hop
        simp only at hw
        split at hw
        · cases hw
        · split at hw
          · rename_i fn' hfn
            injection hw with hw; injection hw with e1 e2 e3; subst e1; subst e2; subst e3
            have hv := op_c hi hop
            generalize hfe : a.eval fv = fe at hv
            have hok := hga.inl _ _ hfn
            cases hv with
            | fn _ _ _ u v h1 h2 ha hb =>
              refine ⟨u ++ cl.args.toList.map a.eval ++ v, hok, RAs_append (RAs_append (RAs_refs h1 ha) hargs) (RAs_refs h2 hb), ?_⟩
              rw [exec_call ho]
              have e : (u.toArray ++ cl.args.map a.eval) ++ v.toArray = (u ++ cl.args.toList.map a.eval ++ v).toArray := by
                apply Array.toList_inj.1; simp
              simp only [goOf, resolve, hf, hfe, Deferred.ofValue, Sem.run_bind, Sem.run_pure, Result.andThen_ok, invoke]
              rw [e]
              exact run_callFunc hok _
          · cases hw
      · rename_i g fs ks hop
        split at hw
        · rename_i fn' hfn
          injection hw with hw; injection hw with e1 e2 e3; subst e1; subst e2; subst e3
          obtain ⟨u, v, hfe, h1, h2⟩ := op_c hi hop
          have hok := hga.inl _ _ hfn
          refine ⟨u ++ cl.args.toList.map a.eval ++ v, hok, RAs_append (RAs_append (RAs_ptrs h1) hargs) (RAs_ptrs h2), ?_⟩
          rw [exec_call ho]
          have e : (u.toArray ++ cl.args.map a.eval) ++ v.toArray = (u ++ cl.args.toList.map a.eval ++ v).toArray := by
            apply Array.toList_inj.1; simp
          simp only [goOf, resolve, hf, hfe, Deferred.ofValue, Sem.run_bind, Sem.run_pure, Result.andThen_ok, invoke]
          rw [e]
          exact run_callFunc hok _
        · cases hw
      · cases hw
    · split at hw <;> cases hw
    · cases hw

theorem pure1_eq {v : V} {e : Eff} (he : pure1 h v = some e) : e.val = v ∧ e.heap = h ∧ e.ok = true ∧ e.rd = [] ∧ e.wr = [] := by
  unfold pure1 at he
  injection he with he; subst he
  exact ⟨rfl, rfl, rfl, rfl, rfl⟩

theorem list_two {α β : Type} {f : α → β} {l : List α} {x y : β} (h : l.map f = [x, y]) : ∃ p q, l = [p, q] ∧ f p = x ∧ f q = y := by
  match l, h with
  | [p, q], h => simp only [List.map_cons, List.map_nil, List.cons.injEq, and_true] at h; exact ⟨p, q, rfl, h.1, h.2⟩
theorem list_one {α β : Type} {f : α → β} {l : List α} {x : β} (h : l.map f = [x]) : ∃ p, l = [p] ∧ f p = x := by
  match l, h with
  | [p], h => simp only [List.map_cons, List.map_nil, List.cons.injEq, and_true] at h; exact ⟨p, rfl, h⟩

/-- a builtin -/
theorem blt_does (hcx : CxOk P cx) (hi : Inv cx ok w0 ρ st a w) {nm : Nat} (hρ : ρ nm = none) (hl : nm < st.heap.length) (hk : lk st.heap nm = none) {o : Oper} {cl : Call} {b : Builtin} (ho : o.op = .call cl) (hb : cl.callee = .builtin b) {e : Eff}
    (he : bltE cx b nm st.heap (cl.args.toList.map (opv st.env)) cl.argTypes.toList = some e) (hok : e.ok = true) : Does P cx ok w0 ρ st a w nm o e.val e.heap := by
  have fin : ∀ v, pure1 st.heap v = some e → Gives P cx ok w0 ρ st a w o v → Does P cx ok w0 ρ st a w nm o e.val e.heap := fun v h1 h2 => by
    obtain ⟨r1, r2, _⟩ := pure1_eq h1
    rw [r1, r2]
    exact h2.does hi
  unfold bltE at he
  split at he
  · rename_i c T ts hvs hts
    obtain ⟨x, hx, hxv⟩ := list_one hvs
    split at he
    · rename_i s1 h1 h2 n s hT hn
      exact fin _ he (gives_len hcx hi ho hb hx hts hxv hn (.inl ⟨_, _, _, hT, _, rfl⟩))
    · cases he
    · rename_i h0 hT hns hn
      exact fin _ he (gives_len hcx hi ho hb hx hts hxv (by first | exact hn | exact hns) (.inr ⟨_, _, _, _, _, hT, fun s hs => by first | exact hns s hs | exact hn s hs⟩))
    · cases he
  · rename_i s x T T2 hvs hts
    obtain ⟨X, Y, hx, h1, h2⟩ := list_two hvs
    split at he
    · rename_i hT2
      exact does_append hcx hi hρ hl hk ho hb hx hts h1 h2 hT2 he hok
    · cases he
  · rename_i s x T T2 hvs hts
    obtain ⟨X, Y, hx, h1, h2⟩ := list_two hvs
    split at he
    · rename_i hT
      exact does_copy hcx hi ho hb hx hts h1 h2 hT he hok
    · cases he
  · rename_i s T hvs hts
    obtain ⟨X, hx, h1⟩ := list_one hvs
    split at he
    · rename_i hT
      exact does_clear hcx hi ho hb hx hts h1 hT he hok
    · cases he
  · rename_i k p k' q hvs
    obtain ⟨X, Y, hx, h1, h2⟩ := list_two hvs
    split at he
    · rename_i hkk; subst hkk
      exact fin _ he (gives_max hi ho hb hx h1 h2)
    · cases he
  · rename_i k p k' q hvs
    obtain ⟨X, Y, hx, h1, h2⟩ := list_two hvs
    split at he
    · rename_i hkk; subst hkk
      exact fin _ he (gives_min hi ho hb hx h1 h2)
    · cases he
  · cases he
end
end Go.Eng
