/- Operations that read and reckon alone, second part. -/
import Derived.Test.YtnafjjkjogngjaaE6
import Derived.Laws.StructEq
set_option linter.unusedVariables false
set_option linter.unusedSimpArgs false
namespace Go.Eng
open Go Go.RowKit

/-- structs of a type are held against each other cell by cell -/
def EqOk (P : Program) (T : TypeId) (z : List D) : Prop :=
  P.eqGuardType P.depth T = false ∧ ∀ (xs ys : List Sc) (p : Bool), kindsOk z xs = true → kindsOk z ys = true → eqRowS xs ys = some p → ∀ w, (Op.equalIn 10000 T (.agg (xs.map Sc.val).toArray) (.agg (ys.map Sc.val).toArray)).run P w = .ok p w

structure CxOk (P : Program) (cx : Cx) : Prop where
  ty : ∀ T i, cx.tt T = some i → TyOk P cx T i
  eq : ∀ T fs n z e, cx.tt T = some ⟨.struct fs, n, z, e⟩ → z.all D.isSc = true → EqOk P T z
  mixed : P.follows .mixedOrders = true

theorem strEq (a b : ByteArray) : (a.toList == b.toList) = decide (a = b) := by
  rw [ByteArray.toList_eq, ByteArray.toList_eq]
  by_cases h : a = b
  · subst h; simp
  · rw [decide_eq_false h]
    rw [beq_eq_false_iff_ne]
    intro e
    exact h (ByteArray.ext (Array.toList_inj.1 e))

section
variable {P : Program} {cx : Cx} {ok : Nat → Prop} {w0 : World} {ρ : Rho} {st : St} {a : Act} {w : World}

theorem RCs_scs : ∀ (cs : List C) (ss : List Sc) (vs : List Value), scsOf cs = some ss → RCs cx ρ ok w cs vs → vs = ss.map Sc.val
  | [], ss, vs, h, hr => by
    simp only [scsOf] at h; injection h with h; subst h
    have := hr.1; simpa using this
  | c :: cs, ss, vs, h, hr => by
    obtain ⟨v, vs', rfl, h1, h2⟩ := RCs_inv hr
    unfold scsOf at h
    split at h
    · cases ‹_ = []›
    · rename_i s r heq
      injection heq with e1 e2; subst e1; subst e2
      split at h
      · rename_i l hl
        injection h with h; subst h
        cases h1
        rw [RCs_scs _ l vs' hl h2]; rfl
      · cases h
    · cases h

theorem gives_nilCheck (hi : Inv cx ok w0 ρ st a w) {o : Oper} {x : Operand} {c : Bool} {v : V} (ho : o.op = .nilCheck x) (he : nilE (opv st.env x) = some (c, v)) (hc : c = true) : Gives P cx ok w0 ρ st a w o v := by
  have hx := RV_op hi x
  unfold nilE at he
  split at he <;> first | (injection he with he; injection he with h1 h2; subst h1; subst h2) | cases he
  all_goals (rename_i hy; rw [hy] at hx; have hv := RV_c hx; refine ⟨a.eval x, ?_, hx⟩; generalize hxe : a.eval x = xe at hv)
  · cases hv with
    | nilI => simp [Thing.isNil] at hc
    | one T s h => simp [execOp, ho, hxe]
    | val T u h => simp [execOp, ho, hxe]
  · obtain ⟨b, _, rfl⟩ := hv; simp [execOp, ho, hxe]
  · obtain ⟨b, _, rfl⟩ := hv; simp [execOp, ho, hxe]
  · obtain ⟨b, c, rfl, _⟩ := hv; simp [execOp, ho, hxe]
  · cases hv; simp [execOp, ho, hxe]
  · cases hv; simp [execOp, ho, hxe]

theorem run_intBin {op : BinOp} {k : IntKind} {x y : Int} {T : TypeId} {c : Bool} {v : V} (he : intBin op k x y = some (c, v)) (hc : c = true) :
    ∃ s, v = .v false [.d (.sc s)] ∧ (binOp op T (.int k x) (.int k y)).run P w = .ok s.val w := by
  cases op <;> simp only [intBin, Option.some.injEq, Prod.mk.injEq, reduceCtorEq] at he <;> (obtain ⟨rfl, rfl⟩ := he) <;> refine ⟨_, rfl, ?_⟩
  all_goals first
    | (simp [binOp, Op.intArith, Op.intCmp, Sc.val]; done)
    | (have hy : y ≠ 0 := by simpa using hc
       simp [binOp, Op.intDiv, hy, Sc.val])

theorem run_strBin {op : BinOp} {x y : ByteArray} {T : TypeId} {c : Bool} {v : V} (he : strBin op x y = some (c, v)) :
    ∃ s, v = .v false [.d (.sc s)] ∧ (binOp op T (.string x) (.string y)).run P w = .ok s.val w := by
  cases op <;> simp only [strBin, Option.some.injEq, Prod.mk.injEq, reduceCtorEq] at he <;> (obtain ⟨_, rfl⟩ := he) <;> refine ⟨_, rfl, ?_⟩
  all_goals simp [binOp, Op.stringOp, strLt, strEq, Sc.val]

theorem eqGuard_plain {op : BinOp} {T : TypeId} {x y : Operand} {u v : Value} (h1 : ∀ cs, u ≠ .agg cs) (h2 : u ≠ .nilIface ∨ Region.isConst y = true) : (eqGuard op T x y u v).run P w = .ok () w := by
  unfold eqGuard
  cases op <;> try (simp; done)
  all_goals
    simp only [reduceCtorEq, or_false, or_true, Bool.not_true, Bool.false_eq_true, if_false]
    cases u <;> cases v <;> first | (simp; done) | exact absurd rfl (h1 _) | skip
  all_goals
    rcases h2 with h2 | h2
    · exact absurd rfl h2
    · cases y <;> simp [Region.isConst] at h2 ⊢
end
end Go.Eng
