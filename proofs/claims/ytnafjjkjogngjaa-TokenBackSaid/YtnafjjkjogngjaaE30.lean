/- Code, loops, functions. -/
import Derived.Test.YtnafjjkjogngjaaE29
set_option linter.unusedVariables false
set_option linter.unusedSimpArgs false
namespace Go.Eng
open Go Go.RowKit

def exOf : Ex → Exit
  | .normal => .normal
  | .exit id => .exit id
  | .ret => .ret

def Lands (P : Program) (cx : Cx) (c : Code) (st : St) (e : Ex) (st' : St) : Prop :=
  st'.fb = st.fb ∧ ∀ (ok : Nat → Prop) (w0 : World) (ρ : Rho) (a : Act) (w : World) (Q : Exit → Act → World → Prop), Inv cx ok w0 ρ st a w → st.fb ≤ st.heap.length →
    (∀ ρ' a' w', Inv cx ok w0 ρ' st' a' w' → Goes ok w0.heap.size st.fb ρ st.heap w ρ' st'.heap w' → Q (exOf e) a' w') → c.wp P Q a w

/-- so many rounds of a loop -/
def Circles (P : Program) (cx : Cx) (body : Code) (st : St) (e : Ex) (st' : St) : Prop :=
  st'.fb = st.fb ∧ ∃ m, ∀ (ok : Nat → Prop) (w0 : World) (ρ : Rho) (a : Act) (w : World) (Q : Exit → Act → World → Prop), Inv cx ok w0 ρ st a w → st.fb ≤ st.heap.length →
    (∀ ρ' a' w', Inv cx ok w0 ρ' st' a' w' → Goes ok w0.heap.size st.fb ρ st.heap w ρ' st'.heap w' → Q (exOf e) a' w') → Code.rounds P body Q m a w

/-- the loops of a piece of code, those within loops left out -/
def loopsOf : Code → List Code
  | .loop p => [p]
  | .seq a b | .cond _ a b => loopsOf a ++ loopsOf b
  | .block _ a | .scope a => loopsOf a
  | _ => []

structure HdOk {X : Type} (P : Program) (cx : Cx) (hd : Hd (Option X)) (B : Code → Prop) : Prop where
  cl : ∀ fn f as h K (x : X), hd.cl fn f as h K = some x → ∃ rs h', ClSem P cx fn f as h rs h' ∧ K rs h' = some x
  lp : ∀ f body hs base st K (x : X), B body → hd.lp f body hs base st K = some x → ∃ e st', Circles P cx body st e st' ∧ K e st' = some x

section
variable {P : Program} {cx : Cx} {st st' : St}

theorem Turns.lands {s1 s2 : St} {c : Code} {e : Ex} (x : Turns cx st s1) (y : Lands P cx c s1 e s2) : Lands P cx c st e s2 := by
  refine ⟨y.1.trans x.1, fun ok w0 ρ a w Q hi hl hQ => ?_⟩
  obtain ⟨ρ1, i1, g1⟩ := x.2.2 ok w0 ρ a w hi hl
  refine y.2 ok w0 ρ1 a w Q i1 (by rw [x.1]; exact x.2.1 hl) (fun ρ' a' w' i2 g2 => hQ ρ' a' w' i2 ?_)
  rw [x.1] at g2
  exact g1.trans g2
theorem Turns.circles {s1 s2 : St} {c : Code} {e : Ex} (x : Turns cx st s1) (y : Circles P cx c s1 e s2) : Circles P cx c st e s2 := by
  obtain ⟨y1, m, y2⟩ := y
  refine ⟨y1.trans x.1, m, fun ok w0 ρ a w Q hi hl hQ => ?_⟩
  obtain ⟨ρ1, i1, g1⟩ := x.2.2 ok w0 ρ a w hi hl
  refine y2 ok w0 ρ1 a w Q i1 (by rw [x.1]; exact x.2.1 hl) (fun ρ' a' w' i2 g2 => hQ ρ' a' w' i2 ?_)
  rw [x.1] at g2
  exact g1.trans g2
theorem Circles.lands {c : Code} {e : Ex} (y : Circles P cx c st e st') : Lands P cx (.loop c) st e st' := by
  obtain ⟨y1, m, y2⟩ := y
  exact ⟨y1, fun ok w0 ρ a w Q hi hl hQ => wp_loop_rounds m (y2 ok w0 ρ a w Q hi hl hQ)⟩

theorem Lands.seq {x y : Code} {s1 s2 : St} {e : Ex} (h1 : Lands P cx x st .normal s1) (h2 : Lands P cx y s1 e s2) : Lands P cx (.seq x y) st e s2 := by
  refine ⟨h2.1.trans h1.1, fun ok w0 ρ a w Q hi hl hQ => wp_seq (h1.2 ok w0 ρ a w _ hi hl (fun ρ1 a1 w1 i1 g1 => ?_))⟩
  have hl1 : s1.fb ≤ s1.heap.length := by rw [h1.1]; exact g1.grow.len hl
  refine h2.2 ok w0 ρ1 a1 w1 Q i1 hl1 (fun ρ' a' w' i2 g2 => hQ ρ' a' w' i2 ?_)
  rw [h1.1] at g2
  exact g1.trans g2
theorem Lands.seq_out {x y : Code} {s1 : St} {e : Ex} (he : e ≠ .normal) (h1 : Lands P cx x st e s1) : Lands P cx (.seq x y) st e s1 := by
  refine ⟨h1.1, fun ok w0 ρ a w Q hi hl hQ => wp_seq (h1.2 ok w0 ρ a w _ hi hl (fun ρ1 a1 w1 i1 g1 => ?_))⟩
  have := hQ ρ1 a1 w1 i1 g1
  cases e with
  | normal => exact absurd rfl he
  | exit id => exact this
  | ret => exact this

theorem code_adq {X : Type} {hd : Hd (Option X)} {B : Code → Prop} (hcx : CxOk P cx) (hga : GaOk P cx) (hH : HdOk P cx hd B) (f : FuncId) : ∀ (c : Code) (st : St) (K : Ex → St → Option X) (x : X), (∀ p ∈ loopsOf c, B p) → evCode cx hd none f c st K = some x → ∃ e st', Lands P cx c st e st' ∧ K e st' = some x
  | .skip, st, K, x, hB, h => ⟨.normal, st, ⟨rfl, fun ok w0 ρ a w Q hi _ hQ => wp_skip (hQ ρ a w hi (Goes.refl _ _ _ _ _ _))⟩, h⟩
  | .label l, st, K, x, hB, h => ⟨.normal, st, ⟨rfl, fun ok w0 ρ a w Q hi _ hQ => wp_label (hQ ρ a w hi (Goes.refl _ _ _ _ _ _))⟩, h⟩
  | .exit id, st, K, x, hB, h => ⟨.exit id, st, ⟨rfl, fun ok w0 ρ a w Q hi _ hQ => wp_exit (hQ ρ a w hi (Goes.refl _ _ _ _ _ _))⟩, h⟩
  | .ret, st, K, x, hB, h => ⟨.ret, st, ⟨rfl, fun ok w0 ρ a w Q hi _ hQ => wp_ret (hQ ρ a w hi (Goes.refl _ _ _ _ _ _))⟩, h⟩
  | .region id ops draw, st, K, x, hB, h => by
    simp only [evCode] at h
    have key : ∀ st : St, (evOps cx hd none ops st.heap.length (List.range ops.size) ⟨st.env, st.heap ++ List.replicate ops.size none, st.fb⟩ [] fun st' lg =>
        if draw then cond (notesOk (Region.before ops) lg && orderOk ops (Region.before ops)) (K .normal st') none else K .normal st') = some x → ∃ e st', Lands P cx (.region id ops draw) st e st' ∧ K e st' = some x := fun st h => by
      obtain ⟨st', ns, h1, h2⟩ := evOps_adq (cl := ClSem P cx) hH.cl _ _ _ _ _ h
      have fin : RegSem cx P ops draw st st' → K .normal st' = some x → ∃ e st', Lands P cx (.region id ops draw) st e st' ∧ K e st' = some x := fun hr hk =>
        ⟨.normal, st', ⟨(exec_fb _ _ _ _ h1).1, fun ok w0 ρ a w Q hi hl hQ => region_wp hcx hga hr hl hi hQ⟩, hk⟩
      cases draw with
      | false => exact fin ⟨ns, h1, fun h => by cases h⟩ h2
      | true =>
        simp only [if_true] at h2
        generalize hb : (notesOk (Region.before ops) (ns.reverse ++ []) && orderOk ops (Region.before ops)) = b at h2
        cases b with
        | false => cases h2
        | true =>
          simp only [List.append_nil, Bool.and_eq_true] at hb
          exact fin ⟨ns, h1, fun _ => hb⟩ h2
    split at h
    · cases hf : freezeOk st with
      | false => rw [hf] at h; cases h
      | true =>
        rw [hf] at h
        obtain ⟨e, st', h1, h2⟩ := key (freeze st) h
        exact ⟨e, st', (turns_freeze hf).lands h1, h2⟩
    · exact key st h
  | .seq p q, st, K, x, hB, h => by
    simp only [evCode] at h
    obtain ⟨e, s1, h1, h2⟩ := code_adq hcx hga hH f p st _ x (fun r hr => hB r (List.mem_append.2 (.inl hr))) h
    cases e with
    | normal =>
      obtain ⟨e2, s2, h3, h4⟩ := code_adq hcx hga hH f q s1 _ x (fun r hr => hB r (List.mem_append.2 (.inr hr))) h2
      exact ⟨e2, s2, h1.seq h3, h4⟩
    | exit id => exact ⟨.exit id, s1, h1.seq_out (by intro h; cases h), h2⟩
    | ret => exact ⟨.ret, s1, h1.seq_out (by intro h; cases h), h2⟩
  | .cond c p q, st, K, x, hB, h => by
    simp only [evCode] at h
    split at h
    · rename_i t ht
      cases t with
      | true =>
        obtain ⟨e, s1, h1, h2⟩ := code_adq hcx hga hH f p st _ x (fun r hr => hB r (List.mem_append.2 (.inl hr))) h
        exact ⟨e, s1, ⟨h1.1, fun ok w0 ρ a w Q hi hl hQ => wp_cond_true (op_sc hi ht) (h1.2 ok w0 ρ a w Q hi hl hQ)⟩, h2⟩
      | false =>
        obtain ⟨e, s1, h1, h2⟩ := code_adq hcx hga hH f q st _ x (fun r hr => hB r (List.mem_append.2 (.inr hr))) h
        exact ⟨e, s1, ⟨h1.1, fun ok w0 ρ a w Q hi hl hQ => wp_cond_false (op_sc hi ht) (h1.2 ok w0 ρ a w Q hi hl hQ)⟩, h2⟩
    · cases h
  | .block id p, st, K, x, hB, h => by
    simp only [evCode] at h
    obtain ⟨e, s1, h1, h2⟩ := code_adq hcx hga hH f p st _ x (fun r hr => hB r hr) h
    cases e with
    | normal => exact ⟨.normal, s1, ⟨h1.1, fun ok w0 ρ a w Q hi hl hQ => wp_block (h1.2 ok w0 ρ a w _ hi hl hQ)⟩, h2⟩
    | ret => exact ⟨.ret, s1, ⟨h1.1, fun ok w0 ρ a w Q hi hl hQ => wp_block (h1.2 ok w0 ρ a w _ hi hl hQ)⟩, h2⟩
    | exit i =>
      simp only at h2
      by_cases e : i = id
      · subst e
        rw [if_pos (beq_self_eq_true i)] at h2
        refine ⟨.normal, s1, ⟨h1.1, fun ok w0 ρ a w Q hi hl hQ => wp_block (h1.2 ok w0 ρ a w _ hi hl (fun ρ' a' w' i1 g1 => ?_))⟩, h2⟩
        show Exit.inBlock i Q (.exit i) a' w'
        simp only [Exit.inBlock, if_true]
        exact hQ ρ' a' w' i1 g1
      · rw [if_neg (by simpa using e)] at h2
        refine ⟨.exit i, s1, ⟨h1.1, fun ok w0 ρ a w Q hi hl hQ => wp_block (h1.2 ok w0 ρ a w _ hi hl (fun ρ' a' w' i1 g1 => ?_))⟩, h2⟩
        show Exit.inBlock id Q (.exit i) a' w'
        simp only [Exit.inBlock, if_neg e]
        exact hQ ρ' a' w' i1 g1
  | .scope p, st, K, x, hB, h => by
    simp only [evCode] at h
    obtain ⟨e, s1, h1, h2⟩ := code_adq hcx hga hH f p st _ x (fun r hr => hB r hr) h
    refine ⟨e, s1, ⟨h1.1, fun ok w0 ρ a w Q hi hl hQ => wp_scope_straight (h1.2 ok w0 ρ a w _ hi hl (fun ρ' a' w' i1 g1 => ?_))⟩, h2⟩
    have := hQ ρ' a' w' i1 g1
    cases e <;> exact this
  | .loop p, st, K, x, hB, h => by
    simp only [evCode] at h
    split at h
    · cases h
    · rename_i s1 hb
      split at h
      · rename_i s2 hs hc hh
        obtain ⟨e, s3, h1, h2⟩ := hH.lp _ _ _ _ _ _ _ (hB p (List.mem_singleton.2 rfl)) h
        exact ⟨e, s3, ((turns_begin _ _ _ hb).trans (turns_clean hc)).lands h1.lands, h2⟩
      · cases h
  | .rangeFunc g ps asg body, st, K, x, hB, h => by simp [evCode] at h
  | .goto l, st, K, x, hB, h => by simp [evCode] at h
  | .refuse why, st, K, x, hB, h => by simp [evCode] at h

/-- a round, and then more of them -/
theorem Lands.circle {c : Code} {s1 s2 s3 : St} {e : Ex} (h1 : Lands P cx c st .normal s1) (ht : Turns cx s1 s2) (h2 : Circles P cx c s2 e s3) : Circles P cx c st e s3 := by
  obtain ⟨y1, m, y2⟩ := ht.circles h2
  refine ⟨y1.trans h1.1, m + 1, fun ok w0 ρ a w Q hi hl hQ => ?_⟩
  rw [rounds_succ]
  refine h1.2 ok w0 ρ a w _ hi hl (fun ρ1 a1 w1 i1 g1 => ?_)
  have hl1 : s1.fb ≤ s1.heap.length := by rw [h1.1]; exact g1.grow.len hl
  refine y2 ok w0 ρ1 a1 w1 Q i1 hl1 (fun ρ' a' w' i2 g2 => hQ ρ' a' w' i2 ?_)
  rw [h1.1] at g2
  exact g1.trans g2
theorem Lands.last {c : Code} {s1 : St} {e : Ex} (he : e ≠ .normal) (h1 : Lands P cx c st e s1) : Circles P cx c st e s1 := by
  refine ⟨h1.1, 1, fun ok w0 ρ a w Q hi hl hQ => ?_⟩
  rw [rounds_succ]
  refine h1.2 ok w0 ρ a w _ hi hl (fun ρ1 a1 w1 i1 g1 => ?_)
  have := hQ ρ1 a1 w1 i1 g1
  cases e with
  | normal => exact absurd rfl he
  | exit id => exact this
  | ret => exact this
end
end Go.Eng
