/- Each operation comes to what the evaluator says: all of them. -/
import Derived.Test.YtnafjjkjogngjaaE19
set_option linter.unusedVariables false
set_option linter.unusedSimpArgs false
namespace Go.Eng
open Go Go.RowKit

section
variable {P : Program} {cx : Cx} {ok : Nat → Prop} {w0 : World} {ρ : Rho} {st : St} {a : Act} {w : World} {h : Heap}

theorem cut_eta {n : Nat} {lo hi mx : Option Int} (hc : (cut n lo hi mx).1 = true) : cut n lo hi mx = (true, (cut n lo hi mx).2.1, (cut n lo hi mx).2.2.1, (cut n lo hi mx).2.2.2) := by
  rw [← hc]

theorem op_sim (hcx : CxOk P cx) (hga : GaOk P cx) (hi : Inv cx ok w0 ρ st a w) {nm : Nat} (hρ : ρ nm = none) (hl : nm < st.heap.length) (hk : lk st.heap nm = none) {o : Oper} {e : Eff} (he : opE cx nm st.env st.heap o = some e) (hok : e.ok = true) :
    Sim P cx ok w0 ρ st a w nm o e.val e.heap := by
  have fin : ∀ v, pure1 st.heap v = some e → Gives P cx ok w0 ρ st a w o v → Sim P cx ok w0 ρ st a w nm o e.val e.heap := fun v h1 h2 => by
    obtain ⟨r1, r2, _⟩ := pure1_eq h1
    rw [r1, r2]
    exact (h2.does hi).sim
  have plain : ∀ v, e.val = v → e.heap = st.heap → Gives P cx ok w0 ρ st a w o v → Sim P cx ok w0 ρ st a w nm o e.val e.heap := fun v r1 r2 h2 => by
    rw [r1, r2]
    exact (h2.does hi).sim
  cases hop : o.op <;> simp only [opE, hop] at he
  case move x => exact fin _ he (gives_move hi (.inl hop))
  case assign x => exact fin _ he (gives_move hi (.inr hop))
  case pick c x y =>
    split at he
    · rename_i t hc
      exact fin _ he (gives_pick hi hop hc)
    · cases he
  case alloc T =>
    split at he
    · rename_i i hT
      injection he with he; subst he
      exact (does_alloc hcx hi hρ hl hk hop hT).sim
    · cases he
  case box T x =>
    split at he
    · rename_i i g cs hT hx
      split at he
      · injection he with he; subst he
        exact (does_box hcx hi hρ hl hk hop hx).sim
      · cases he
    · cases he
  case build T parts =>
    split at he
    · rename_i fs n z es hT
      split at he
      · rename_i cs hf
        exact fin _ he (gives_build hcx hi hop hT hf)
      · cases he
    · rename_i m F n z es hT
      split at he
      · rename_i fi hF
        split at he
        · rename_i cs hf
          exact fin _ he (gives_buildA hcx hi hop hT hF hf)
        · cases he
      · cases he
    · cases he
  case buildSlice T n parts =>
    split at he
    · rename_i e' t n' z es hT
      split at he
      · rename_i l ks p hr
        split at he
        · rename_i hn
          injection he with he; subst he
          exact (does_buildSlice hcx hi hρ hl hk hop hT hr hok hn).sim
        · cases he
      · cases he
    · cases he
  case load T x =>
    obtain ⟨h1, h2⟩ := gives_load hcx.ty hi hop he hok
    exact plain _ rfl h2 h1
  case store T x y => exact (does_store hcx hi hop he hok).sim
  case nilCheck x =>
    split at he
    · rename_i c v hv
      injection he with he; subst he
      exact plain _ rfl rfl (gives_nilCheck hi hop hv hok)
    · cases he
  case binOp op T x y Y =>
    split at he
    · rename_i c v hv
      injection he with he; subst he
      exact plain _ rfl rfl (gives_bin hcx hi hop hv hok)
    · cases he
  case unOp op T x =>
    split at he
    · rename_i b hx
      exact fin _ he (gives_not hi hop hx)
    · rename_i k n hx
      exact fin _ he (gives_neg hi hop hx)
    · cases he
  case convert S T x =>
    split at he
    · rename_i hS hT hx
      exact fin _ he (gives_convert hcx hi hop hS hT hx)
    · cases he
  case makeInterface T x =>
    split at he
    · rename_i v hv
      exact fin _ he (gives_iface hcx hi hop hv)
    · cases he
  case makeFunc fn first caps =>
    split at he
    · rename_i f
      have e1 : e = { ok := true, val := e.val, heap := st.heap } := by
        revert he
        simp only [pure1]
        split
        · intro he; injection he with he; subst he; rfl
        · split
          · intro he; injection he with he; subst he; rfl
          · split
            · intro he; injection he with he; subst he; rfl
            · intro he; cases he
      have h2 := gives_makeFunc (P := P) (v := e.val) hi hop (he.trans (congrArg some e1))
      rw [show e.heap = st.heap from by rw [e1]]
      exact (h2.does hi).sim
    · cases he
  case makeSlice T x y =>
    split at he
    · rename_i e' t n' z es n m hT hx hy
      injection he with he; subst he
      simp only [Bool.and_eq_true, decide_eq_true_eq, beq_iff_eq] at hok
      exact (does_makeSlice hcx hi hρ hl hk hop hT hx hy hok.1.1 hok.1.2 hok.2).sim
    · cases he
  case slice T x lo hi' mx =>
    split at he
    · rename_i lo1 hi1 s n z es hlo hhi hmx hx hT
      generalize hc : cut s.size lo1 hi1 none = q at he
      obtain ⟨c, p, q, f⟩ := q
      injection he with he; subst he
      obtain rfl : c = true := hok
      have hmx' : mx = none := by
        cases mx with
        | none => rfl
        | some x =>
          simp only [bnd] at hmx
          split at hmx <;> cases hmx
      subst hmx'
      exact plain _ rfl rfl (gives_sliceS hcx hi hop hlo hhi hx hT hc)
    · rename_i lo1 hi1 mx1 nl full t l e' t' n z es hlo hhi hmx hx hT
      split at he
      · rename_i htt; subst htt
        generalize hc : cut l.length lo1 hi1 mx1 = q at he
        obtain ⟨c, p, q, f⟩ := q
        injection he with he; subst he
        obtain rfl : c = true := hok
        exact plain _ rfl rfl (gives_sliceD hcx hi hop hlo hhi hmx hx hT hc)
      · cases he
    · rename_i lo1 hi1 mx1 k t full off len e' t' n z es hlo hhi hmx hx hT
      split at he
      · rename_i htt; subst htt
        generalize hc : cut len lo1 hi1 mx1 = q at he
        obtain ⟨c, p, q, f⟩ := q
        injection he with he; subst he
        obtain rfl : c = true := hok
        exact plain _ rfl rfl (gives_sliceO hcx hi hop hlo hhi hmx hx hT hc)
      · cases he
    · cases he
  case fieldAddr S x f =>
    split at he
    · rename_i off F hf
      split at he
      · cases he
      · rename_i hF
        obtain ⟨h1, h2, h3⟩ := gives_fieldAddr hcx hi hop hf hF he
        exact plain _ rfl h2 h1
    · cases he
  case field S x f =>
    split at he
    · rename_i off F cs hf hx
      split at he
      · rename_i i hF
        split at he
        · rename_i hle
          exact fin _ he (gives_field hcx hi hop hf hx hF hle)
        · cases he
      · cases he
    · cases he
  case indexAddr T x i =>
    split at he
    · rename_i e' t' n1 z es nl full t l k n hT hx hy
      split at he
      · rename_i htt; subst htt
        injection he with he; subst he
        simp only [Bool.and_eq_true, decide_eq_true_eq] at hok
        exact plain _ rfl rfl (gives_indexD hcx hi hop hT hx hy hok.1 hok.2)
      · cases he
    · rename_i e' t' n1 z es m t full off len k n hT hx hy
      split at he
      · rename_i htt; subst htt
        injection he with he; subst he
        simp only [Bool.and_eq_true, decide_eq_true_eq] at hok
        exact plain _ rfl rfl (gives_indexO hcx hi hop hT hx hy hok.1 hok.2)
      · cases he
    · rename_i m e' n1 z es q k n hT hx hy
      split at he
      · rename_i i' hE
        injection he with he; subst he
        simp only [Bool.and_eq_true, decide_eq_true_eq] at hok
        exact plain _ rfl rfl (gives_indexA hcx hi hop hT hx hy hE hok.1 hok.2)
      · cases he
    · cases he
  case index T x i =>
    split at he
    · rename_i n1 z es s k n hT hx hy
      injection he with he; subst he
      simp only [Bool.and_eq_true, decide_eq_true_eq] at hok
      exact plain _ rfl rfl (gives_indexS hcx hi hop hT hx hy hok.1 hok.2)
    · cases he
  case typeAssert x X T commaOk =>
    split at he
    · rename_i y hx
      split at he
      · rename_i c v hv
        injection he with he; subst he
        exact plain _ rfl rfl (gives_assert hcx hi hop hx hv hok)
      · cases he
    · cases he
  case extract x i =>
    split at he
    · rename_i vs hx
      split at he
      · rename_i g cs hg
        exact fin _ he (gives_extract hi hop hx hg)
      · cases he
    · cases he
  case call c =>
    split at he
    · rename_i b hb
      exact (blt_does hcx hi hρ hl hk hop hb he hok).sim
    · split at he
      · rename_i G as hw
        obtain ⟨go, xs, h1, h2, h3⟩ := wayOf_gam hga hi hop hw
        exact sim_gam hi hρ hl hk h1 h2 h3 he hok
      · cases he
  all_goals cases he
end
end Go.Eng
