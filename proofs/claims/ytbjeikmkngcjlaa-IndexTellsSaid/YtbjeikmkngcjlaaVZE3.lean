/- The evaluator, part 3: the texts E30, E31, E32, E33, E34, E35, E36, E37, E38, E39, E40, E41, E42, E43, E44, E45, E46 in one file. -/
import Derived.Test.YtbjeikmkngcjlaaVZE2
import Derived.LoopNIn
import Derived.Carry
import Derived.ChangeOld
import Derived.Handed
import Derived.JoinedOf
import Derived.ChangeSame
import Derived.RowKit
/- Code, loops, functions. -/
set_option linter.unusedVariables false
set_option linter.unusedSimpArgs false
namespace Go.Eng
open Go Go.RowKit

def exOf : Ex → Exit
 | .normal => .normal
 | .exit id => .exit id
 | .ret => .ret

section
variable {P : Program} {F : Fence} {n : Nat} {b : Frame} {a : Act} {k : List Item} {cs : List Frame} {w : World} {Q : Exit → Act → World → Prop}
theorem stepR_scope {c : Code} : step P (lone (b.atR a (.code (.scope c) :: k)) cs w) = .next (lone (b.atR a (.code c :: .inScope c :: k)) cs w) :=
 step_lone_go (by simp [stepG, stepG.exec, Frame.atR])
theorem stepR_inScope {c : Code} : step P (lone (b.atR a (.inScope c :: k)) cs w) = .next (lone (b.atR a k) cs w) :=
 step_lone_go (by simp [stepG, stepG.exec, Frame.atR])
theorem wpIn_scope_straight {c : Code} (h : c.wpIn F n P (Exit.noGoto Q) a w) : (Code.scope c).wpIn F n P Q a w := by
 intro b k cs hro hb hr
 have h0 : (lone (b.atR a (.code (.scope c) :: k)) cs w).fenced P F := fenced_calm hb hr rfl
 obtain ⟨e, a₁, w₁, hq, harr⟩ := h b (.inScope c :: k) cs hro hb hr
 cases e with
 | normal => exact ⟨.normal, a₁, w₁, hq, .head h0 stepR_scope (StepsIn.trans harr (.one (fenced_calm hb hr rfl) stepR_inScope))⟩
 | exit id =>
  have hx : exitTo id (.inScope c :: k) = exitTo id k := by simp [exitTo]
  exact ⟨_, a₁, w₁, hq, fun k' hk => .head h0 stepR_scope (harr.1 k' (by rw [hx]; exact hk)), fun hr' hk => let ⟨k₁, h1, h2⟩ := harr.2 hr' (by rw [hx]; exact hk); ⟨k₁, h1, .head h0 stepR_scope h2⟩⟩
 | goto l => exact hq.elim
 | ret => exact ⟨_, a₁, w₁, hq, .of_steps (.one h0 stepR_scope) harr⟩
 | panic ch => exact ⟨_, a₁, w₁, hq, .of_steps (.one h0 stepR_scope) harr⟩
 | outgrown => exact ⟨_, a₁, w₁, hq, .of_steps (.one h0 stepR_scope) harr⟩
end

def mark (D : Nat) : Deferred := { target := .collected D, args := #[] }
def Left (m : Bool) (ok : Nat → Prop) (B0 : Nat) (ρ' : Rho) (h' : Heap) (w w' : World) (a a' : Act) : Prop :=
 ∃ Ds : List Nat, a'.defers = Ds.map mark ++ a.defers ∧ (m = false → Ds = []) ∧ Ds.Nodup ∧ ∀ D ∈ Ds, w.heap.size ≤ D ∧ D < w'.heap.size ∧ okc ok B0 h' ρ' D ∧ w'.heap[D]? = some (.deferred (some []))
theorem Left.same {m : Bool} {ok : Nat → Prop} {B0 : Nat} {ρ' : Rho} {h' : Heap} {w w' : World} {a a' : Act} (h : a'.defers = a.defers) : Left m ok B0 ρ' h' w w' a a' :=
 ⟨[], h, fun _ => rfl, List.nodup_nil, fun D hD => by cases hD⟩
theorem Left.eq {ok : Nat → Prop} {B0 : Nat} {ρ' : Rho} {h' : Heap} {w w' : World} {a a' : Act} (h : Left false ok B0 ρ' h' w w' a a') : a'.defers = a.defers := by
 obtain ⟨Ds, h1, h2, _⟩ := h
 rw [h2 rfl] at h1; exact h1
theorem Left.trans {m : Bool} {ok : Nat → Prop} {B0 fb : Nat} {r1 r2 : Rho} {h1 h2 : Heap} {w w1 w2 : World} {a a1 a2 : Act} (x : Left m ok B0 r1 h1 w w1 a a1) (y : Left m ok B0 r2 h2 w1 w2 a1 a2) (g : Goes ok B0 fb r1 h1 w1 r2 h2 w2) (hw : w.heap.size ≤ w1.heap.size) : Left m ok B0 r2 h2 w w2 a a2 := by
 obtain ⟨D1, x1, x2, x3, x4⟩ := x
 obtain ⟨D2, y1, y2, y3, y4⟩ := y
 refine ⟨D2 ++ D1, by rw [y1, x1]; simp, fun h => by rw [x2 h, y2 h]; rfl, List.nodup_append.2 ⟨y3, x3, fun d h1 e h2 he => ?_⟩, fun D hD => ?_⟩
 ·have := (y4 d h1).1; have := (x4 e h2).2.1; omega
 ·rcases List.mem_append.1 hD with h | h
  ·obtain ⟨q1, q2, q3, q4⟩ := y4 D h; exact ⟨Nat.le_trans hw q1, q2, q3, q4⟩
  ·obtain ⟨q1, q2, q3, q4⟩ := x4 D h
   exact ⟨q1, Nat.lt_of_lt_of_le q2 g.ext.size, g.ext.okk D q2 q3, (g.ext.cell D q2 q3).trans q4⟩

def Lands (P : Program) (cx : Cx) (m : Bool) (c : Code) (st : St) (e : Ex) (st' : St) : Prop :=
 st'.fb = st.fb ∧ ∀ (ok : Nat → Prop) (w0 : World) (ρ : Rho) (a : Act) (w : World) (Q : Exit → Act → World → Prop), Inv cx ok w0 ρ st a w → st.fb ≤ st.heap.length →
  (∀ ρ' a' w', Inv cx ok w0 ρ' st' a' w' → Goes ok w0.heap.size st.fb ρ st.heap w ρ' st'.heap w' → Left m ok w0.heap.size ρ' st'.heap w w' a a' → Q (exOf e) a' w') → ∀ r, (m = true → r = none) → c.wpIn (FW r) 0 P Q a w

def Circles (P : Program) (cx : Cx) (body : Code) (st : St) (e : Ex) (st' : St) : Prop :=
 st'.fb = st.fb ∧ ∃ m, ∀ (ok : Nat → Prop) (w0 : World) (ρ : Rho) (a : Act) (w : World) (Q : Exit → Act → World → Prop), Inv cx ok w0 ρ st a w → st.fb ≤ st.heap.length →
  (∀ ρ' a' w', Inv cx ok w0 ρ' st' a' w' → Goes ok w0.heap.size st.fb ρ st.heap w ρ' st'.heap w' → a'.defers = a.defers → Q (exOf e) a' w') → ∀ r, Code.roundsIn (FW r) 0 P body Q m a w

def loopsOf : Code → List Code
 | .loop p => [p]
 | .seq a b | .cond _ a b => loopsOf a ++ loopsOf b
 | .block _ a | .scope a => loopsOf a
 | _ => []
structure RF where
 g : Operand
 ps : Array Tmp
 asg : Code
 body : Code
def rfsOf : Code → List RF
 | .rangeFunc g ps asg body => [⟨g, ps, asg, body⟩]
 | .seq a b | .cond _ a b => rfsOf a ++ rfsOf b
 | .block _ a | .scope a => rfsOf a
 | _ => []

structure HdOk {X : Type} (P : Program) (cx : Cx) (m : Bool) (hd : Hd (Option X)) (B : Code → Prop) (G : RF → Prop) : Prop where
 cl : ∀ fn f as h K (x : X), hd.cl fn f as h K = some x → ∃ rs h', ClSem P cx fn f as h rs h' ∧ K rs h' = some x
 lp : ∀ f body hs base st K (x : X), B body → hd.lp f body hs base st K = some x → ∃ e st', Circles P cx body st e st' ∧ K e st' = some x
 rf : ∀ f q st K (x : X), G q → hd.rf f q.g q.body st K = some x → ∃ e st', Lands P cx m (.rangeFunc q.g q.ps q.asg q.body) st e st' ∧ K e st' = some x

section
variable {P : Program} {cx : Cx} {m : Bool} {st st' : St}

theorem Goes.size {ok : Nat → Prop} {B0 fb : Nat} {r1 r2 : Rho} {h1 h2 : Heap} {w1 w2 : World} (g : Goes ok B0 fb r1 h1 w1 r2 h2 w2) : w1.heap.size ≤ w2.heap.size := g.ext.size

theorem Turns.lands {s1 s2 : St} {c : Code} {e : Ex} (x : Turns cx st s1) (y : Lands P cx m c s1 e s2) : Lands P cx m c st e s2 := by
 refine ⟨y.1.trans x.1, fun ok w0 ρ a w Q hi hl hQ => ?_⟩
 obtain ⟨ρ1, i1, g1⟩ := x.2.2 ok w0 ρ a w hi hl
 refine y.2 ok w0 ρ1 a w Q i1 (by rw [x.1]; exact x.2.1 hl) (fun ρ' a' w' i2 g2 d2 => hQ ρ' a' w' i2 ?_ d2)
 rw [x.1] at g2
 exact g1.trans g2
theorem Turns.circles {s1 s2 : St} {c : Code} {e : Ex} (x : Turns cx st s1) (y : Circles P cx c s1 e s2) : Circles P cx c st e s2 := by
 obtain ⟨y1, m, y2⟩ := y
 refine ⟨y1.trans x.1, m, fun ok w0 ρ a w Q hi hl hQ => ?_⟩
 obtain ⟨ρ1, i1, g1⟩ := x.2.2 ok w0 ρ a w hi hl
 refine y2 ok w0 ρ1 a w Q i1 (by rw [x.1]; exact x.2.1 hl) (fun ρ' a' w' i2 g2 d2 => hQ ρ' a' w' i2 ?_ d2)
 rw [x.1] at g2
 exact g1.trans g2
theorem Circles.lands {c : Code} {e : Ex} (y : Circles P cx c st e st') : Lands P cx m (.loop c) st e st' := by
 obtain ⟨y1, k, y2⟩ := y
 exact ⟨y1, fun ok w0 ρ a w Q hi hl hQ r _ => wpIn_loop_rounds k (y2 ok w0 ρ a w Q hi hl (fun ρ' a' w' i g d => hQ ρ' a' w' i g (Left.same d)) r)⟩

theorem Lands.seq {x y : Code} {s1 s2 : St} {e : Ex} (h1 : Lands P cx m x st .normal s1) (h2 : Lands P cx m y s1 e s2) : Lands P cx m (.seq x y) st e s2 := by
 refine ⟨h2.1.trans h1.1, fun ok w0 ρ a w Q hi hl hQ r hr => wpIn_seq (h1.2 ok w0 ρ a w _ hi hl (fun ρ1 a1 w1 i1 g1 d1 => ?_) r hr)⟩
 have hl1 : s1.fb ≤ s1.heap.length := by rw [h1.1]; exact g1.grow.len hl
 refine h2.2 ok w0 ρ1 a1 w1 Q i1 hl1 (fun ρ' a' w' i2 g2 d2 => hQ ρ' a' w' i2 ?_ (d1.trans d2 g2 g1.size)) r hr
 rw [h1.1] at g2
 exact g1.trans g2
theorem Lands.seq_out {x y : Code} {s1 : St} {e : Ex} (he : e ≠ .normal) (h1 : Lands P cx m x st e s1) : Lands P cx m (.seq x y) st e s1 := by
 refine ⟨h1.1, fun ok w0 ρ a w Q hi hl hQ r hr => wpIn_seq (h1.2 ok w0 ρ a w _ hi hl (fun ρ1 a1 w1 i1 g1 d1 => ?_) r hr)⟩
 have := hQ ρ1 a1 w1 i1 g1 d1
 cases e with
 | normal => exact absurd rfl he
 | exit id => exact this
 | ret => exact this

theorem code_adq {X : Type} {hd : Hd (Option X)} {B : Code → Prop} {G : RF → Prop} (hcx : CxOk P cx) (hga : GaOk P cx) (hH : HdOk P cx m hd B G) (f : FuncId) : ∀ (c : Code) (st : St) (K : Ex → St → Option X) (x : X), (∀ p ∈ loopsOf c, B p) → (∀ q ∈ rfsOf c, G q) → evCode cx hd none f c st K = some x → ∃ e st', Lands P cx m c st e st' ∧ K e st' = some x
 | .skip, st, K, x, hB, hG, h => ⟨.normal, st, ⟨rfl, fun ok w0 ρ a w Q hi _ hQ r _ => wpIn_skip (hQ ρ a w hi (Goes.refl _ _ _ _ _ _) (Left.same rfl))⟩, h⟩
 | .label l, st, K, x, hB, hG, h => ⟨.normal, st, ⟨rfl, fun ok w0 ρ a w Q hi _ hQ r _ => wpIn_label (hQ ρ a w hi (Goes.refl _ _ _ _ _ _) (Left.same rfl))⟩, h⟩
 | .exit id, st, K, x, hB, hG, h => ⟨.exit id, st, ⟨rfl, fun ok w0 ρ a w Q hi _ hQ r _ => wpIn_exit (hQ ρ a w hi (Goes.refl _ _ _ _ _ _) (Left.same rfl))⟩, h⟩
 | .ret, st, K, x, hB, hG, h => ⟨.ret, st, ⟨rfl, fun ok w0 ρ a w Q hi _ hQ r _ => wpIn_ret (hQ ρ a w hi (Goes.refl _ _ _ _ _ _) (Left.same rfl))⟩, h⟩
 | .region id ops draw, st, K, x, hB, hG, h => by
  simp only [evCode] at h
  have key : ∀ st : St, (evOps cx hd none ops st.heap.length (List.range ops.size) ⟨st.env, st.heap ++ List.replicate ops.size none, st.fb⟩ [] fun st' lg =>
      if draw then cond (notesOk (Region.before ops) lg && orderOk ops (Region.before ops)) (K .normal st') none else K .normal st') = some x → ∃ e st', Lands P cx m (.region id ops draw) st e st' ∧ K e st' = some x := fun st h => by
   obtain ⟨st', ns, h1, h2⟩ := evOps_adq (cl := ClSem P cx) hH.cl _ _ _ _ _ h
   have fin : RegSem cx P ops draw st st' → K .normal st' = some x → ∃ e st', Lands P cx m (.region id ops draw) st e st' ∧ K e st' = some x := fun hr hk =>
    ⟨.normal, st', ⟨(exec_fb _ _ _ _ h1).1, fun ok w0 ρ a w Q hi hl hQ r _ => region_wp hcx hga hr hl hi (fun ρ' a' w' i g d => hQ ρ' a' w' i g (Left.same d))⟩, hk⟩
   cases draw with
   | false => exact fin ⟨ns, h1, fun h => by cases h⟩ h2
   | true =>
    simp only [if_true] at h2
    generalize hb : (notesOk (Region.before ops) (ns.reverse ++ []) && orderOk ops (Region.before ops)) = b at h2
    cases b with
    | false => cases h2
    | true =>
     simp only [List.append_nil, Bool.and_eq_true] at hb
     exact fin ⟨ns, h1, fun _ => hb⟩ h2
  split at h
  ·cases hf : freezeOk st with
   | false => rw [hf] at h; cases h
   | true =>
    rw [hf] at h
    obtain ⟨e, st', h1, h2⟩ := key (freeze st) h
    exact ⟨e, st', (turns_freeze hf).lands h1, h2⟩
  ·exact key st h
 | .seq p q, st, K, x, hB, hG, h => by
  simp only [evCode] at h
  obtain ⟨e, s1, h1, h2⟩ := code_adq hcx hga hH f p st _ x (fun r hr => hB r (List.mem_append.2 (.inl hr))) (fun r hr => hG r (List.mem_append.2 (.inl hr))) h
  cases e with
  | normal =>
   obtain ⟨e2, s2, h3, h4⟩ := code_adq hcx hga hH f q s1 _ x (fun r hr => hB r (List.mem_append.2 (.inr hr))) (fun r hr => hG r (List.mem_append.2 (.inr hr))) h2
   exact ⟨e2, s2, h1.seq h3, h4⟩
  | exit id => exact ⟨.exit id, s1, h1.seq_out (by intro h; cases h), h2⟩
  | ret => exact ⟨.ret, s1, h1.seq_out (by intro h; cases h), h2⟩
 | .cond c p q, st, K, x, hB, hG, h => by
  simp only [evCode] at h
  split at h
  ·rename_i t ht
   cases t with
   | true =>
    obtain ⟨e, s1, h1, h2⟩ := code_adq hcx hga hH f p st _ x (fun r hr => hB r (List.mem_append.2 (.inl hr))) (fun r hr => hG r (List.mem_append.2 (.inl hr))) h
    exact ⟨e, s1, ⟨h1.1, fun ok w0 ρ a w Q hi hl hQ r hr => wpIn_cond_true (op_sc hi ht) (h1.2 ok w0 ρ a w Q hi hl hQ r hr)⟩, h2⟩
   | false =>
    obtain ⟨e, s1, h1, h2⟩ := code_adq hcx hga hH f q st _ x (fun r hr => hB r (List.mem_append.2 (.inr hr))) (fun r hr => hG r (List.mem_append.2 (.inr hr))) h
    exact ⟨e, s1, ⟨h1.1, fun ok w0 ρ a w Q hi hl hQ r hr => wpIn_cond_false (op_sc hi ht) (h1.2 ok w0 ρ a w Q hi hl hQ r hr)⟩, h2⟩
  ·cases h
 | .block id p, st, K, x, hB, hG, h => by
  simp only [evCode] at h
  obtain ⟨e, s1, h1, h2⟩ := code_adq hcx hga hH f p st _ x (fun r hr => hB r hr) (fun r hr => hG r hr) h
  cases e with
  | normal => exact ⟨.normal, s1, ⟨h1.1, fun ok w0 ρ a w Q hi hl hQ r hr => wpIn_block (h1.2 ok w0 ρ a w (Exit.inBlock id Q) hi hl (fun ρ' a' w' i1 g1 d1 => hQ ρ' a' w' i1 g1 d1) r hr)⟩, h2⟩
  | ret => exact ⟨.ret, s1, ⟨h1.1, fun ok w0 ρ a w Q hi hl hQ r hr => wpIn_block (h1.2 ok w0 ρ a w (Exit.inBlock id Q) hi hl (fun ρ' a' w' i1 g1 d1 => hQ ρ' a' w' i1 g1 d1) r hr)⟩, h2⟩
  | exit i =>
   simp only at h2
   by_cases e : i = id
   ·subst e
    rw [if_pos (beq_self_eq_true i)] at h2
    refine ⟨.normal, s1, ⟨h1.1, fun ok w0 ρ a w Q hi hl hQ r hr => wpIn_block (h1.2 ok w0 ρ a w _ hi hl (fun ρ' a' w' i1 g1 d1 => ?_) r hr)⟩, h2⟩
    show Exit.inBlock i Q (.exit i) a' w'
    simp only [Exit.inBlock, if_true]
    exact hQ ρ' a' w' i1 g1 d1
   ·rw [if_neg (by simpa using e)] at h2
    refine ⟨.exit i, s1, ⟨h1.1, fun ok w0 ρ a w Q hi hl hQ r hr => wpIn_block (h1.2 ok w0 ρ a w _ hi hl (fun ρ' a' w' i1 g1 d1 => ?_) r hr)⟩, h2⟩
    show Exit.inBlock id Q (.exit i) a' w'
    simp only [Exit.inBlock, if_neg e]
    exact hQ ρ' a' w' i1 g1 d1
 | .scope p, st, K, x, hB, hG, h => by
  simp only [evCode] at h
  obtain ⟨e, s1, h1, h2⟩ := code_adq hcx hga hH f p st _ x (fun r hr => hB r hr) (fun r hr => hG r hr) h
  refine ⟨e, s1, ⟨h1.1, fun ok w0 ρ a w Q hi hl hQ r hr => wpIn_scope_straight (h1.2 ok w0 ρ a w _ hi hl (fun ρ' a' w' i1 g1 d1 => ?_) r hr)⟩, h2⟩
  have := hQ ρ' a' w' i1 g1 d1
  cases e <;> exact this
 | .loop p, st, K, x, hB, hG, h => by
  simp only [evCode] at h
  split at h
  ·cases h
  ·rename_i s1 hb
   split at h
   ·rename_i s2 hs hc hh
    obtain ⟨e, s3, h1, h2⟩ := hH.lp _ _ _ _ _ _ _ (hB p (List.mem_singleton.2 rfl)) h
    exact ⟨e, s3, ((turns_begin _ _ _ hb).trans (turns_clean hc)).lands h1.lands, h2⟩
   ·cases h
 | .rangeFunc g ps asg body, st, K, x, hB, hG, h => by
  simp only [evCode] at h
  exact hH.rf f ⟨g, ps, asg, body⟩ st K x (hG _ (List.mem_singleton.2 rfl)) h
 | .goto l, st, K, x, hB, hG, h => by simp [evCode] at h
 | .refuse why, st, K, x, hB, hG, h => by simp [evCode] at h

theorem Lands.circle {c : Code} {s1 s2 s3 : St} {e : Ex} (h1 : Lands P cx false c st .normal s1) (ht : Turns cx s1 s2) (h2 : Circles P cx c s2 e s3) : Circles P cx c st e s3 := by
 obtain ⟨y1, m, y2⟩ := ht.circles h2
 refine ⟨y1.trans h1.1, m + 1, fun ok w0 ρ a w Q hi hl hQ r => ?_⟩
 rw [roundsIn_succ]
 refine h1.2 ok w0 ρ a w _ hi hl (fun ρ1 a1 w1 i1 g1 d1 => ?_) r (by intro h; cases h)
 have hl1 : s1.fb ≤ s1.heap.length := by rw [h1.1]; exact g1.grow.len hl
 refine y2 ok w0 ρ1 a1 w1 Q i1 hl1 (fun ρ' a' w' i2 g2 d2 => hQ ρ' a' w' i2 ?_ (d2.trans d1.eq)) r
 rw [h1.1] at g2
 exact g1.trans g2
theorem Lands.last {c : Code} {s1 : St} {e : Ex} (he : e ≠ .normal) (h1 : Lands P cx false c st e s1) : Circles P cx c st e s1 := by
 refine ⟨h1.1, 1, fun ok w0 ρ a w Q hi hl hQ r => ?_⟩
 rw [roundsIn_succ]
 refine h1.2 ok w0 ρ a w _ hi hl (fun ρ1 a1 w1 i1 g1 d1 => ?_) r (by intro h; cases h)
 have := hQ ρ1 a1 w1 i1 g1 d1.eq
 cases e with
 | normal => exact absurd rfl he
 | exit id => exact this
 | ret => exact this
end
end Go.Eng
/- Functions. -/
set_option linter.unusedVariables false
set_option linter.unusedSimpArgs false
namespace Go.Eng
open Go Go.RowKit

def resM (tmps : Array Value) : ResultVar → Sem Value
 | .tmp t => pure (tmps.getD t undef)
 | .cell q t => do loadVar t (← asAddr (tmps.getD q undef))

section
variable {P : Program} {cx : Cx} {ok : Nat → Prop} {w0 : World} {ρ : Rho} {st st' : St} {a : Act} {w : World}

theorem resOf_ok (hcx : CxOk P cx) (hi : Inv cx ok w0 ρ st a w) {r : ResultVar} {T : TypeId} {g : Arg} (h : resOf cx st r T = some g) :
    ∃ x, (resM a.tmps r).run P w = .ok x w ∧ RA cx ρ (okc ok w0.heap.size st.heap ρ) w g x := by
 have at_ : ∀ t v, st.env.getD t .any = v → v ≠ .any → RV cx ρ (okc ok w0.heap.size st.heap ρ) w v (a.tmps.getD t undef) := fun t v hv hne => by
  have hl : t < st.env.length := by
   rcases Nat.lt_or_ge t st.env.length with h1 | h1
   ·exact h1
   ·rw [List.getD_eq_getElem?_getD, List.getElem?_eq_none h1] at hv; exact absurd hv.symm hne
  rw [← hv]; exact hi.env t hl
 cases r with
 | tmp t =>
  simp only [resOf] at h
  split at h
  ·rename_i g' cs hv
   injection h with h; subst h
   exact ⟨_, by simp [resM], at_ t _ hv (by intro h; cases h)⟩
  ·cases h
 | cell t T' =>
  simp only [resOf] at h
  split at h
  ·rename_i n o i hv hT
   split at h
   ·rename_i B cs hk
    split at h
    ·rename_i hle
     injection h with h; subst h
     have ht := hcx.ty _ _ hT
     obtain ⟨b, hb, he⟩ := RV_c (at_ t _ hv (by intro h; cases h))
     obtain ⟨b', vs, q1, q2, q3⟩ := hi.heap n _ hk
     rw [hb] at q1; injection q1 with q1; subst q1
     have hvl : vs.length = cs.length := q3.1
     have hr := RCs_seg q3 hle
     refine ⟨mkv i.agg (seg vs o i.size), ?_, RA_mkv hr (fun hg => by rw [seg_length hle]; exact ht.one hg)⟩
     have hload := run_loadVar' (w := w) (P := P) ht (b := b) (off := o) (vs := seg vs o i.size) (seg_length (by omega)) (fun j hj => by
      rw [seg_getD (by omega) hj]
      exact cell_of_block q2 (by omega))
     simp [resM, he, asAddr, hload]
    ·cases h
   ·cases h
  ·cases h

theorem resL_ok (hcx : CxOk P cx) (hi : Inv cx ok w0 ρ st a w) : ∀ (rs : List ResultVar) (ts : List TypeId) (gs : List Arg), resL cx st rs ts = some gs →
    ∃ xs : List Value, (rs.mapM (resM a.tmps)).run P w = .ok xs w ∧ RAs cx ρ (okc ok w0.heap.size st.heap ρ) w gs xs
 | [], ts, gs, h => by
  simp only [resL] at h; injection h with h; subst h
  exact ⟨[], by simp, rfl, fun j hj => by simp at hj⟩
 | r :: rs, ts, gs, h => by
  simp only [resL] at h
  split at h
  ·rename_i g gs' h1 h2
   injection h with h; subst h
   obtain ⟨x, e1, r1⟩ := resOf_ok hcx hi h1
   obtain ⟨xs, e2, r2⟩ := resL_ok hcx hi rs _ _ h2
   refine ⟨x :: xs, ?_, by simp [r2.1], fun j hj => ?_⟩
   ·rw [List.mapM_cons, Sem.run_bind, e1]
    simp only [Result.andThen_ok]
    rw [Sem.run_bind, e2]
    simp
   ·cases j with
    | zero => exact r1
    | succ j => simpa using r2.2 j (by simpa using hj)
  ·cases h

theorem valOf_ok {gs : List Arg} {xs : List Value} (h : RAs cx ρ ok w gs xs) : RV cx ρ ok w (valOf gs) (if h : xs.toArray.size = 1 then xs.toArray[0] else .tuple xs.toArray) := by
 match gs, xs, h with
 | [], xs, h => trivial
 | [(g, cs)], [x], h => exact h.2 0 (by simp)
 | [(g, cs)], [], h => have := h.1; simp at this
 | [(g, cs)], x :: y :: r, h => have := h.1; simp at this
 | g1 :: g2 :: r, [], h => have := h.1; simp at this
 | g1 :: g2 :: r, [x], h => have := h.1; simp at this
 | g1 :: g2 :: r, x :: y :: xs, h =>
  rw [dif_neg (by simp)]
  exact ⟨_, rfl, h⟩

theorem run_results (hcx : CxOk P cx) (hi : Inv cx ok w0 ρ st a w) {fn : Func} {gs : List Arg} (h : resL cx st fn.results.toList fn.resultTypes.toList = some gs) :
    ∃ x, (results fn a.tmps).run P w = .ok x w ∧ RV cx ρ (okc ok w0.heap.size st.heap ρ) w (valOf gs) x := by
 obtain ⟨xs, e, r⟩ := resL_ok hcx hi _ _ _ h
 refine ⟨_, ?_, valOf_ok r⟩
 have hres : results fn a.tmps = (do
     let vs ← fn.results.mapM (resM a.tmps)
     pure (if h : vs.size = 1 then vs[0] else .tuple vs)) := by
  unfold results
  congr 1
  first | rfl | skip
  all_goals (first | (congr 1; funext r; cases r <;> rfl) | skip)
 have hm : (fn.results.mapM (resM a.tmps)).run P w = .ok xs.toArray w := by
  rw [Array.mapM_eq_mapM_toList]
  simp only [map_eq_pure_bind]
  rw [Sem.run_bind, e]
  simp
 rw [hres, Sem.run_bind, hm]
 simp

structure Shut (lo : Nat) (w w2 : World) : Prop where
 os : w2.os = w.os
 tape : w2.tape = w.tape
 output : w2.output = w.output
 size : w2.heap.size = w.heap.size
 at_ : ∀ k, w2.heap[k]? = w.heap[k]? ∨ (lo ≤ k ∧ (∃ d, w.heap[k]? = some (.deferred d)) ∧ ∃ d, w2.heap[k]? = some (.deferred d))
theorem Shut.refl (lo : Nat) (w : World) : Shut lo w w := ⟨rfl, rfl, rfl, rfl, fun _ => .inl rfl⟩
theorem Shut.put {lo : Nat} {w w2 : World} (h : Shut lo w w2) {D : Nat} (hD : lo ≤ D) {d : Option (List Deferred)} (hk : w2.heap[D]? = some (.deferred d)) (d' : Option (List Deferred)) : Shut lo w (w2.putObj D (.deferred d')) := by
 have hlt : D < w2.heap.size := (Array.getElem?_eq_some_iff.1 hk).1
 refine ⟨h.os, h.tape, h.output, by rw [World.putObj_size]; exact h.size, fun k => ?_⟩
 by_cases e : k = D
 ·subst e
  refine .inr ⟨hD, ?_, d', World.putObj_heap_same hlt⟩
  rcases h.at_ k with h1 | ⟨_, h1, _⟩
  ·exact ⟨d, h1 ▸ hk⟩
  ·exact h1
 ·rw [World.putObj_heap_other e]; exact h.at_ k
section
variable {lo : Nat} {w2 : World}
theorem Shut.cell (h : Shut lo w w2) (A : Addr) : w2.cell? A = w.cell? A := by
 unfold World.cell?
 rcases h.at_ A.block with h1 | ⟨_, ⟨d, h1⟩, ⟨d', h2⟩⟩
 ·rw [h1]
 ·rw [h1, h2]
theorem Shut.room (h : Shut lo w w2) (b : Nat) : World.roomOf w2 b = World.roomOf w b := by
 unfold World.roomOf
 rcases h.at_ b with h1 | ⟨_, ⟨d, h1⟩, ⟨d', h2⟩⟩
 ·rw [h1]
 ·rw [h1, h2]
theorem Shut.cells (h : Shut lo w w2) {b : Nat} {cs : Array Value} {T : TypeId} {fz : Nat × Nat} (hb : w.heap[b]? = some (.cells cs T fz)) : w2.heap[b]? = some (.cells cs T fz) := by
 rcases h.at_ b with h1 | ⟨_, ⟨d, h1⟩, _⟩
 ·rw [h1]; exact hb
 ·rw [hb] at h1; cases h1
theorem Shut.loop (h : Shut lo w w2) {b : Nat} {r : Loop} (hb : w.heap[b]? = some (.loop r)) : w2.heap[b]? = some (.loop r) := by
 rcases h.at_ b with h1 | ⟨_, ⟨d, h1⟩, _⟩
 ·rw [h1]; exact hb
 ·rw [hb] at h1; cases h1
theorem Shut.map (h : Shut lo w w2) {b : Nat} {es : Array MapEntry} {ck : Nat} (hb : w.heap[b]? = some (.map es ck)) : w2.heap[b]? = some (.map es ck) := by
 rcases h.at_ b with h1 | ⟨_, ⟨d, h1⟩, _⟩
 ·rw [h1]; exact hb
 ·rw [hb] at h1; cases h1
theorem RD.shut (h : Shut lo w w2) {d : D} {x : Value} (hd : RD cx ok w d x) : RD cx ok w2 d x := by
 induction hd with
 | sc s => exact .sc s
 | nils => exact .nils
 | sl0 nl full t A cap h1 h2 h3 h4 => exact .sl0 nl full t A cap h1 h2 h3 h4
 | sl nl full t l b off cap vs h0 h1 h2 h3 h4 hc hr ih => exact .sl nl full t l b off cap vs h0 h1 h2 h3 h4 (fun i j hi hj => by rw [h.cell]; exact hc i j hi hj) ih
 | fn f first caps a b h1 h2 ha hb iha ihb => exact .fn f first caps a b h1 h2 iha ihb
 | nilI => exact .nilI
 | nilf => exact .nilf
 | nilm => exact .nilm
 | one T s h1 => exact .one T s h1
 | val T v h1 => exact .val T v h1
 | ref cs b off vs h1 hb hc hr ih => exact .ref cs b off vs h1 (by rw [h.size]; exact hb) (fun j hj => by rw [h.cell]; exact hc j hj) ih
theorem RC.shut (h : Shut lo w w2) {c : C} {x : Value} (hc : RC cx ρ ok w c x) : RC cx ρ ok w2 c x := by
 cases c with
 | d y => exact RD.shut h hc
 | ptr n off => exact hc
 | ep n t i j => exact hc
 | own n t full off len =>
  obtain ⟨A, cap, h1, h2, h3, h4⟩ := hc
  exact ⟨A, cap, h1, h2, h3, fun hc => by obtain ⟨b, h5, h6, h7⟩ := h4 hc; exact ⟨b, h5, h6, by rw [h.room]; exact h7⟩⟩
 | clo f first caps => exact hc
 | yld n => exact hc
 | mref n => exact hc
 | mrow n m len =>
  obtain ⟨A, cap, h1, h2, h4⟩ := hc
  exact ⟨A, cap, h1, h2, fun hc => by obtain ⟨b, h5, h6, h7⟩ := h4 hc; exact ⟨b, h5, h6, by rw [h.room]; exact h7⟩⟩
theorem RCs.shut (h : Shut lo w w2) {cs : List C} {vs : List Value} (hc : RCs cx ρ ok w cs vs) : RCs cx ρ ok w2 cs vs := ⟨hc.1, fun j hj => RC.shut h (hc.2 j hj)⟩
theorem RA.shut (h : Shut lo w w2) {g : Arg} {x : Value} (hc : RA cx ρ ok w g x) : RA cx ρ ok w2 g x := by
 obtain ⟨g, cs⟩ := g
 cases g with
 | true => obtain ⟨vs, h1, h2⟩ := hc; exact ⟨vs, h1, RCs.shut h h2⟩
 | false => obtain ⟨c, h1, h2⟩ := hc; exact ⟨c, h1, RC.shut h h2⟩
theorem RV.shut (h : Shut lo w w2) {v : V} {x : Value} (hc : RV cx ρ ok w v x) : RV cx ρ ok w2 v x := by
 cases v with
 | any => trivial
 | v g cs => exact RA.shut h hc
 | tup vs => obtain ⟨xs, h1, h2⟩ := hc; exact ⟨xs, h1, h2.1, fun j hj => RA.shut h (h2.2 j hj)⟩
theorem RB.shut (h : Shut lo w w2) {n : Nat} {b : Blk} (hb : RB cx ρ ok w n b) : RB cx ρ ok w2 n b := by
 cases b with
 | box T cs => obtain ⟨k, vs, h1, h2, h3⟩ := hb; exact ⟨k, vs, h1, h.cells h2, RCs.shut h h3⟩
 | arr T t l =>
  rcases hb with h1 | ⟨k, vs, h1, h2, h3, h4⟩
  ·exact .inl h1
  ·exact .inr ⟨k, vs, h1, h.cells h2, h3, fun i j hi hj => RD.shut h (h4 i j hi hj)⟩
 | mp E l lo p =>
  obtain ⟨k, es, ck, h1, h2, h3⟩ := hb
  exact ⟨k, es, ck, h1, h.map h2, h3.keys, h3.nodup, fun i q e g1 g2 g3 => by
   obtain ⟨A, cap, r1, r2, r3⟩ := h3.rows i q e g1 g2 g3
   refine ⟨A, cap, r1, r2, fun hc => ?_⟩
   obtain ⟨b, vs, r4, r5, r6, r7⟩ := r3 hc
   exact ⟨b, vs, r4, r5, h.cells r6, r7⟩, h3.apart, h3.look, h3.look0⟩
 | lp key env s j => obtain ⟨k, r, h1, h2, h3, h4, h5⟩ := hb; exact ⟨k, r, h1, h.loop h2, h3, fun t ht => RV.shut h (h4 t ht), h5⟩
theorem HInv.shut (h : Shut lo w w2) (hlo : w0.heap.size ≤ lo) {hp : Heap} (hi : HInv cx ok w0 ρ hp w) : HInv cx ok w0 ρ hp w2 :=
 ⟨fun n b hn => RB.shut h (hi.heap n b hn), hi.inj, fun n b hn => by rw [h.size]; exact hi.own n b hn, hi.fresh,
  hi.below.trans ⟨h.os, h.tape, h.output, Nat.le_of_eq h.size.symm, fun k hk => by
   rcases h.at_ k with h1 | ⟨h1, _⟩
   ·exact h1
   ·omega⟩⟩
theorem Goes.shut {ws : World} (h : Shut lo w w2) (hlo : ws.heap.size ≤ lo) {B0 fb : Nat} {ρ' : Rho} {h1 h2 : Heap} (g : Goes ok B0 fb ρ h1 ws ρ' h2 w) : Goes ok B0 fb ρ h1 ws ρ' h2 w2 :=
 ⟨⟨g.ext.rho, fun k hk ho => by
  rcases h.at_ k with e | ⟨e, _⟩
  ·rw [e]; exact g.ext.cell k hk ho
  ·omega, g.ext.okk, fun k hk => by rw [h.room]; exact g.ext.room k hk, by rw [h.size]; exact g.ext.size⟩, g.grow⟩
end
theorem leaves_marks {F : Fence} {n : Nat} {fn : Func} {tmps : Array Value} {R : Ending → World → Prop} {lo : Nat} {w : World} : ∀ (Ds : List Nat) (w1 : World), Shut lo w w1 → Ds.Nodup → (∀ D ∈ Ds, lo ≤ D ∧ w1.heap[D]? = some (.deferred (some []))) →
    (∀ w2, Shut lo w w2 → ∃ v, (results fn tmps).run P w2 = .ok v w2 ∧ R (.returned v) w2) → LeavesInM F n P fn tmps R (Ds.map mark) .returning w1
 | [], w1, hs, _, _, h => h w1 hs
 | D :: Ds, w1, hs, hn, hD, h => by
  obtain ⟨n1, n2⟩ := List.nodup_cons.1 hn
  obtain ⟨q1, q2⟩ := hD D List.mem_cons_self
  refine ⟨by simp, .inl ⟨D, _, rfl, run_takeDeferred q2, leaves_marks Ds _ (hs.put q1 q2 none) n2 (fun E hE => ?_) h⟩⟩
  obtain ⟨q3, q4⟩ := hD E (List.mem_cons_of_mem _ hE)
  exact ⟨q3, (World.putObj_heap_other (by intro e; subst e; exact n1 hE)).trans q4⟩

theorem fun_lands {X : Type} {m : Bool} (hcx : CxOk P cx) {fn : Func} {f : FuncId} {as : List Arg} {h : Heap} {K : List Arg → Heap → Option X} {x : X} {c : Code} {e : Ex} {st' : St} (hbody : fn.body = some c)
    (h1 : Lands P cx m c ⟨as.map (fun (g, cs) => V.v g cs) ++ List.replicate (fn.ntmps - as.length) .any, h, h.length⟩ e st')
    (h2 : (match (generalizing := false) e with
     | .exit _ => none
     | _ => match resL cx st' fn.results.toList fn.resultTypes.toList with
      | some rs => K rs st'.heap
      | none => none) = some x) :
    ∃ rs h', ClSem P cx fn f as h rs h' ∧ K rs h' = some x := by
 have fin : (e = .normal ∨ e = .ret) → (match resL cx st' fn.results.toList fn.resultTypes.toList with
     | some rs => K rs st'.heap
     | none => none) = some x → ∃ rs h', ClSem P cx fn f as h rs h' ∧ K rs h' = some x := fun hen hk => by
  split at hk
  ·rename_i rs hrs
   refine ⟨rs, st'.heap, ClSem.of hbody fun hf ok w0 ρ w xs hi hr => ?_, hk⟩
   refine FW_calls (r := none) (n := 0) (callsIn_of_wp_marks hf.at_ hbody trivial ?_)
   have hsz : xs.length = as.length := hr.1
   refine h1.2 ok w0 ρ _ w _ (Inv.mk ?_ (fun t ht => ?_) hi.heap hi.inj hi.own hi.fresh hi.below) (Nat.le_refl _) (fun ρ' a' w' i1 g1 d1 => ?_) none (fun _ => rfl)
   ·simp [hsz]
   ·show RV cx ρ _ w ((as.map (fun (g, cs) => V.v g cs) ++ List.replicate (fn.ntmps - as.length) V.any).getD t .any) ((xs.toArray ++ Array.replicate (fn.ntmps - xs.toArray.size) undef).getD t undef)
    by_cases hlt : t < as.length
    ·have e1 : (as.map (fun (g, cs) => V.v g cs) ++ List.replicate (fn.ntmps - as.length) V.any).getD t .any = V.v (as.getD t (false, [])).1 (as.getD t (false, [])).2 := by
       rw [List.getD_eq_getElem?_getD, List.getElem?_append_left (by simpa using hlt)]
       simp [List.getD_eq_getElem?_getD, hlt]
     have e2 : (xs.toArray ++ Array.replicate (fn.ntmps - xs.toArray.size) undef).getD t undef = xs.getD t undef := by
      have : t < xs.length := by omega
      rw [Array.getD_eq_getD_getElem?, Array.getElem?_append_left (by simpa using this)]
      simp [List.getD_eq_getElem?_getD]
     rw [e1, e2]
     exact hr.2 t hlt
    ·have e1 : (as.map (fun (g, cs) => V.v g cs) ++ List.replicate (fn.ntmps - as.length) V.any).getD t .any = V.any := by
       rw [List.getD_eq_getElem?_getD, List.getElem?_append_right (by simpa using hlt), List.getElem?_replicate]
       split <;> rfl
     rw [e1]; trivial
   ·obtain ⟨Ds, l1, _, l3, l4⟩ := d1
    have post : LeavesInM (FW none) 0 P fn a'.tmps (fun e w' => ∃ x ρ', e = .returned x ∧ Goes ok w0.heap.size h.length ρ h w ρ' st'.heap w' ∧ HInv cx ok w0 ρ' st'.heap w' ∧ RV cx ρ' (okc ok w0.heap.size st'.heap ρ') w' (valOf rs) x) a'.defers .returning w' := by
     have e : a'.defers = Ds.map mark := by rw [l1]; simp
     rw [e]
     refine leaves_marks (lo := w.heap.size) Ds w' (Shut.refl _ _) l3 (fun D hD => ⟨(l4 D hD).1, (l4 D hD).2.2.2⟩) (fun w2 hs => ?_)
     have hlo : w0.heap.size ≤ w.heap.size := hi.below.size
     have i2 : Inv cx ok w0 ρ' st' a' w2 := by
      have hh := HInv.shut hs hlo i1.hv
      exact ⟨i1.size, fun t ht => RV.shut hs (i1.env t ht), hh.heap, hh.inj, hh.own, hh.fresh, hh.below⟩
     obtain ⟨v, r1, r2⟩ := run_results hcx i2 hrs
     exact ⟨v, r1, v, ρ', rfl, g1.shut hs (Nat.le_refl _), i2.hv, r2⟩
    rcases hen with rfl | rfl
    ·exact post
    ·exact post
  ·cases hk
 cases e with
 | normal => exact fin (.inl rfl) h2
 | ret => exact fin (.inr rfl) h2
 | exit id => cases h2
theorem fun_adq {X : Type} {m : Bool} {hd : Hd (Option X)} {B : Code → Prop} {G : RF → Prop} (hcx : CxOk P cx) (hga : GaOk P cx) (hH : HdOk P cx m hd B G) {fn : Func} {f : FuncId} {as : List Arg} {h : Heap} {K : List Arg → Heap → Option X} {x : X} (hB : ∀ c, fn.body = some c → (∀ p ∈ loopsOf c, B p) ∧ ∀ q ∈ rfsOf c, G q) (he : evFun cx hd none fn f as h K = some x) :
    ∃ rs h', ClSem P cx fn f as h rs h' ∧ K rs h' = some x := by
 unfold evFun at he
 split at he
 ·cases he
 ·rename_i c hbody
  obtain ⟨e, st', h1, h2⟩ := code_adq hcx hga hH f c _ _ x (hB c hbody).1 (hB c hbody).2 he
  exact fun_lands hcx hbody h1 h2

end
end Go.Eng
/- What is shown of a function is its contract. -/
set_option linter.unusedVariables false
set_option linter.unusedSimpArgs false
namespace Go.Eng
open Go Go.RowKit

def cellsOwn : List C → Option Nat
 | [] => none
 | .own n _ _ _ _ :: _ => some n
 | _ :: r => cellsOwn r
def firstOwn : List Arg → Option Nat
 | [] => none
 | (_, cs) :: r => match cellsOwn cs with
  | some n => some n
  | none => firstOwn r

def weak : D → D
 | .sl _ _ t l => .sl none false t l
 | d => d
def retD (n : Nat) (h : Heap) (c : C) : Option (C × Bool) := match dem h c with
 | some (d, ks, p) => some (.d (weak d), p && !ks.contains n)
 | none => none
def retC (n : Nat) (h : Heap) : C → Option (C × Bool)
 | .own m t full off len => if m = n then some (.own n t full off len, true) else retD n h (.own m t full off len)
 | c => retD n h c
def retL (n : Nat) (h : Heap) : List C → Option (List C × Bool)
 | [] => some ([], true)
 | c :: cs => match retC n h c, retL n h cs with
  | some (x, p), some (xs, q) => some (x :: xs, p && q)
  | _, _ => none
def retArgs (n : Nat) (h : Heap) : List Arg → Option (List Arg × Bool)
 | [] => some ([], true)
 | (g, cs) :: r => match retL n h cs, retArgs n h r with
  | some (xs, p), some (ys, q) => some ((g, xs) :: ys, p && q)
  | _, _ => none
def retOf (own : Bool) (rs : List Arg) (h : Heap) : Option Ret :=
 match (if own then firstOwn rs else none) with
 | none => match retArgs h.length h rs with
  | some (vs, p) => some ⟨p, none, vs⟩
  | none => none
 | some n => match lk h n, retArgs n h rs with
  | some (.arr T t l), some (vs, p) => some ⟨p, some (T, ⟨t, l⟩), vs⟩
  | _, _ => none

section
variable {P : Program} {cx : Cx} {ok : Nat → Prop} {w0 : World} {ρ : Rho} {w : World} {h : Heap}

def only (n : Nat) (h : Heap) : Heap := (List.range h.length).map fun m => if m = n then lk h n else none
theorem lk_only (n m : Nat) (h : Heap) : lk (only n h) m = if m = n then lk h n else none := by
 unfold only
 by_cases hm : m < h.length
 ·simp only [lk, List.getD_eq_getElem?_getD, List.getElem?_map, List.getElem?_range hm, Option.map_some, Option.getD_some]
 ·have e : lk ((List.range h.length).map fun m => if m = n then lk h n else none) m = none := by
    unfold lk
    rw [List.getD_eq_getElem?_getD, List.getElem?_eq_none (by simpa using hm)]; rfl
  rw [e]
  split
  ·rename_i e; subst e
   unfold lk
   rw [List.getD_eq_getElem?_getD, List.getElem?_eq_none (by omega)]; rfl
  ·rfl

theorem okR_of {n k : Nat} (hn : ∀ b, ρ n = some b → (lk h n).isSome = true) (hk : okc ok w0.heap.size (only n h) ρ k) : okR ok w0 (ρ n) k :=
 ⟨hk.1, fun e => hk.2 n (by rw [lk_only, if_pos rfl]; exact hn k e) (.inl e)⟩

theorem RD.weak {d : D} {x : Value} (hd : RD cx ok w d x) : RD cx ok w (weak d) x := by
 cases hd with
 | sl0 nl full t A cap h1 h2 h3 h4 => exact .sl0 none false t A cap (fun e => by cases e) (fun e => by cases e) (fun e => by cases e) h4
 | sl nl full t l b off cap vs h0 h1 h2 h3 h4 hc hr => exact .sl none false t l b off cap vs h0 h1 h2 (fun e => by cases e) (fun e => by cases e) hc hr
 | sc s => exact .sc s
 | nils => exact .nils
 | fn f first caps a b h1 h2 ha hb => exact .fn f first caps a b h1 h2 ha hb
 | nilI => exact .nilI
 | nilf => exact .nilf
 | nilm => exact .nilm
 | one T s h1 => exact .one T s h1
 | val T v h1 => exact .val T v h1
 | ref cs b off vs h1 hb hc hr => exact .ref cs b off vs h1 hb hc hr

theorem retD_ok (hi : HInv cx ok w0 ρ h w) {n : Nat} (hn : ∀ b, ρ n = some b → (lk h n).isSome = true) {c c' : C} {p : Bool} {x : Value} (he : retD n h c = some (c', p)) (hp : p = true) (hc : RC cx ρ (okc ok w0.heap.size h ρ) w c x) (nm : Nat) :
    RC cx (one nm (ρ n)) (okR ok w0 (ρ n)) w (ownTo nm c') x := by
 unfold retD at he
 split at he
 ·rename_i d ks q hd
  injection he with he; injection he with e1 e2; subst e1
  rw [hp] at e2
  simp only [Bool.and_eq_true, Bool.not_eq_true', List.contains_eq_mem, decide_eq_false_iff_not] at e2
  have hless : Less h (only n h) ks := ⟨(by intro m hm; rw [lk_only, if_neg (by intro e; exact e2.2 (e ▸ hm))]), fun m hm => by
   rw [lk_only] at hm
   split at hm
   ·rename_i e; rw [e]; exact hm
   ·cases hm⟩
  have := dem_ok hi hd e2.1 hless hc
  exact (this.ext (fun _ _ _ => rfl) (fun k _ hk => okR_of hn hk) (Nat.le_refl _)).weak
 ·cases he

theorem retC_ok (hi : HInv cx ok w0 ρ h w) {n : Nat} (hn : ∀ b, ρ n = some b → (lk h n).isSome = true) {c c' : C} {p : Bool} {x : Value} (he : retC n h c = some (c', p)) (hp : p = true) (hc : RC cx ρ (okc ok w0.heap.size h ρ) w c x) (nm : Nat) :
    RC cx (one nm (ρ n)) (okR ok w0 (ρ n)) w (ownTo nm c') x := by
 unfold retC at he
 split at he
 ·rename_i m t full off len
  split at he
  ·rename_i e; subst e
   injection he with he; injection he with e1 e2; subst e1
   obtain ⟨A, cap, h1, h2, h3, h4⟩ := hc
   exact ⟨A, cap, h1, h2, h3, fun hc => by obtain ⟨b, h5, h6⟩ := h4 hc; exact ⟨b, by simp [one, h5], h6⟩⟩
  ·exact retD_ok hi hn he hp hc nm
 ·exact retD_ok hi hn he hp hc nm

theorem retL_ok (hi : HInv cx ok w0 ρ h w) {n : Nat} (hn : ∀ b, ρ n = some b → (lk h n).isSome = true) (nm : Nat) : ∀ (cs cs' : List C) (p : Bool) (vs : List Value), retL n h cs = some (cs', p) → p = true → RCs cx ρ (okc ok w0.heap.size h ρ) w cs vs →
    RCs cx (one nm (ρ n)) (okR ok w0 (ρ n)) w (cs'.map (ownTo nm)) vs
 | [], cs', p, vs, he, hp, hr => by
  simp only [retL] at he; injection he with he; injection he with e1 e2; subst e1
  exact ⟨hr.1, fun j hj => by simp at hj⟩
 | c :: cs, cs', p, vs, he, hp, hr => by
  obtain ⟨v, vs', rfl, h1, h2⟩ := RCs_inv hr
  simp only [retL] at he
  split at he
  ·rename_i x p1 xs p2 g1 g2
   injection he with he; injection he with e1 e2; subst e1
   rw [hp] at e2; simp only [Bool.and_eq_true] at e2
   exact RCs_cons (retC_ok hi hn g1 e2.1 h1 nm) (retL_ok hi hn nm cs xs p2 vs' g2 e2.2 h2)
  ·cases he

theorem retArgs_ok (hi : HInv cx ok w0 ρ h w) {n : Nat} (hn : ∀ b, ρ n = some b → (lk h n).isSome = true) (nm : Nat) : ∀ (as as' : List Arg) (p : Bool) (xs : List Value), retArgs n h as = some (as', p) → p = true → RAs cx ρ (okc ok w0.heap.size h ρ) w as xs →
    RAs cx (one nm (ρ n)) (okR ok w0 (ρ n)) w (nameVals nm as') xs
 | [], as', p, xs, he, hp, hr => by
  simp only [retArgs] at he; injection he with he; injection he with e1 e2; subst e1
  exact ⟨hr.1, fun j hj => by simp [nameVals] at hj⟩
 | (g, cs) :: as, as', p, xs, he, hp, hr => by
  cases xs with
  | nil => have := hr.1; simp at this
  | cons x xs' =>
   have hr' : RAs cx ρ (okc ok w0.heap.size h ρ) w as xs' := ⟨by have := hr.1; simpa using this, fun i hi => by simpa using hr.2 (i + 1) (by simpa using hi)⟩
   have hx : RA cx ρ (okc ok w0.heap.size h ρ) w (g, cs) x := hr.2 0 (by simp)
   simp only [retArgs] at he
   split at he
   ·rename_i ys p1 zs p2 g1 g2
    injection he with he; injection he with e1 e2; subst e1
    rw [hp] at e2; simp only [Bool.and_eq_true] at e2
    have ih := retArgs_ok hi hn nm as zs p2 xs' g2 e2.2 hr'
    refine ⟨by have := ih.1; simp [nameVals] at this ⊢; exact this, fun j hj => ?_⟩
    cases j with
    | zero =>
     show RA cx _ _ w (g, ys.map (ownTo nm)) x
     obtain ⟨vs, e1, e2', e3⟩ := RA_cells hx
     rw [e3]
     have hL := retL_ok hi hn nm cs ys p1 vs g1 e2.1 e2'
     refine RA_mkv hL (fun hg => ?_)
     subst hg
     obtain ⟨c, hc, _⟩ := hx
     have h1 := hL.1
     have h2 := e2'.1
     rw [hc] at h2
     rw [← h1, h2]; rfl
    | succ j => simpa [nameVals] using ih.2 j (by simpa [nameVals] using hj)
   ·cases he

theorem ret_vals (hi : HInv cx ok w0 ρ h w) {n : Nat} (hn : ∀ b, ρ n = some b → (lk h n).isSome = true) {rs vs : List Arg} {p : Bool} {x : Value} (he : retArgs n h rs = some (vs, p)) (hp : p = true) (hr : RV cx ρ (okc ok w0.heap.size h ρ) w (valOf rs) x) (nm : Nat) :
    RV cx (one nm (ρ n)) (okR ok w0 (ρ n)) w (valOf (nameVals nm vs)) x := by
 match rs, he, hr with
 | [], he, hr =>
  simp only [retArgs] at he; injection he with he; injection he with e1 e2; subst e1
  trivial
 | [(g, cs)], he, hr =>
  have := retArgs_ok hi hn nm [(g, cs)] vs p [x] he hp ⟨rfl, fun j hj => by
   have : j = 0 := by simp at hj; omega
   subst this; exact hr⟩
  have hl : vs.length = 1 := by have := this.1; simp [nameVals] at this; omega
  match vs, hl, this with
  | [(g', cs')], _, this => exact this.2 0 (by simp [nameVals])
 | g1 :: g2 :: r, he, hr =>
  obtain ⟨xs, e1, h1⟩ := hr
  have := retArgs_ok hi hn nm (g1 :: g2 :: r) vs p xs he hp h1
  have hl : vs.length = r.length + 2 := by have h2 := this.1; have h3 := h1.1; simp [nameVals] at h2 h3; omega
  match vs, hl, this with
  | v1 :: v2 :: vs, _, this => exact ⟨xs, e1, this⟩

inductive Tree where
 | leaf (e : Ex) (st : St)
 | br (b : Bool) (x y : Tree)
 | bad
def Tree.run {R : Type} (K : Ex → St → R) (fail : R) : Tree → R
 | .leaf e st => K e st
 | .br b x y => cond b (x.run K fail) (y.run K fail)
 | .bad => fail
def Tree.eval (t : Tree) : Option (Ex × St) := t.run (fun e st => some (e, st)) none
theorem Tree.run_eval {X : Type} {K : Ex → St → Option X} {x : X} : ∀ {t : Tree}, t.run K none = some x → ∃ e st, t.eval = some (e, st) ∧ K e st = some x
 | .leaf e st, h => ⟨e, st, rfl, h⟩
 | .br b p q, h => by
  cases b with
  | true => exact Tree.run_eval (t := p) h
  | false => exact Tree.run_eval (t := q) h
 | .bad, h => by cases h
def LoopOk (P : Program) (cx : Cx) (body : Code) (T : St → Tree) : Prop := ∀ st e st', (T st).eval = some (e, st') → Circles P cx body st e st'
def round (cx : Cx) (hd : Hd (Option (Ex × St))) (f : FuncId) (body : Code) (hs : List Nat) (base : Nat) (st : St) : Option (Ex × St) :=
 evCode cx hd none f body st fun e st' => match e with
  | .normal => match backs (cx.hint f (firstReg body)).acc hs ⟨keepOnly (cx.hint f (firstReg body)).keep st'.env, st'.heap, st'.fb⟩ with
   | none => none
   | some st1 => match clean (cx.hint f (firstReg body)) base st1 with
    | none => none
    | some st2 => some (.normal, st2)
  | e => some (e, st')
end
end Go.Eng
/- The tables are checked by reckoning. -/
set_option linter.unusedVariables false
set_option linter.unusedSimpArgs false
namespace Go.Eng
open Go Go.RowKit

def cellC : Value → Value → Bool
 | .int k n, .int k' n' => decide (k = k') && decide (n = n')
 | .bool a, .bool b => a == b
 | .string a, .string b => decide (a = b)
 | .slice none 0 0, .slice none 0 0 => true
 | .nilIface, .nilIface => true
 | .nilFunc, .nilFunc => true
 | .map none, .map none => true
 | _, _ => false
theorem cellC_ok {x y : Value} (h : cellC x y = true) : x = y := by
 unfold cellC at h
 split at h
 ·simp only [Bool.and_eq_true, decide_eq_true_eq] at h; rw [h.1, h.2]
 ·simp only [beq_iff_eq] at h; rw [h]
 ·simp only [decide_eq_true_eq] at h; rw [h]
 ·rfl
 ·rfl
 ·rfl
 ·rfl
 ·cases h
def cellsC : List Value → List Value → Bool
 | [], [] => true
 | x :: xs, y :: ys => cellC x y && cellsC xs ys
 | _, _ => false
theorem cellsC_ok : ∀ {xs ys : List Value}, cellsC xs ys = true → xs = ys
 | [], [], _ => rfl
 | x :: xs, y :: ys, h => by
  simp only [cellsC, Bool.and_eq_true] at h
  rw [cellC_ok h.1, cellsC_ok h.2]
 | [], _ :: _, h => by cases h
 | _ :: _, [], h => by cases h
def valC : Value → Value → Bool
 | .agg a, .agg b => cellsC a.toList b.toList
 | x, y => cellC x y
theorem valC_ok {x y : Value} (h : valC x y = true) : x = y := by
 unfold valC at h
 split at h
 ·rw [Array.toList_inj.1 (cellsC_ok h)]
 ·exact cellC_ok h

def zeroC : D → Bool
 | .sc _ => true
 | .sl nl _ _ l => l.isEmpty && (match nl with
  | some false => false
  | _ => true)
 | .th .nil => true
 | .nilf => true
 | .nilm => true
 | _ => false
theorem zeroC_ok {d : D} (h : zeroC d = true) : zeroD d := by
 unfold zeroC at h
 split at h
 ·trivial
 ·rename_i nl full t l
  simp only [Bool.and_eq_true] at h
  refine ⟨?_, by simpa using h.1⟩
  cases nl with
  | none => exact .inr rfl
  | some b => cases b
              ·cases h.2
              ·exact .inl rfl
 ·rfl
 ·trivial
 ·trivial
 ·cases h

def kdC (P : Program) (tt : TypeId → Option TI) (T : TypeId) : Kd → Bool
 | .int k => match P.underlying T with
  | some (.int k') => decide (k' = k)
  | _ => false
 | .bool => match P.underlying T with
  | some .bool => true
  | _ => false
 | .str => match P.underlying T with
  | some .string => true
  | _ => false
 | .slice e t => (match P.underlying T with
  | some (.slice e') => e' == e
  | _ => false) && (match tt e with
  | some ie => ie.size == width t && cellsC (ie.zero.map zval) ((enc t (dflt t)).map zval)
  | none => false)
 | .struct fs => match P.underlying T with
  | some (.struct fields) => decide (fields.toList.map (fun f => (f.offset, f.type)) = fs) && (fields.toList.mapM (fun f => (P.info? f.type).map fun i => (f.offset, i.size))).isSome
  | _ => false
 | .array n e => match P.underlying T with
  | some (.array n' e') => n' == n && e' == e
  | _ => false
 | .iface => match P.underlying T with
  | some (.interface _) => true
  | _ => false
 | .func => match P.underlying T with
  | some (.func _ _ _) => true
  | _ => false
 | .map k e => (match P.underlying T with
  | some (.map k' e') => k' == k && e' == e
  | _ => false) && (match P.underlying k with
  | some .string => true
  | _ => false)
 | .other => false

def tyC (P : Program) (tt : TypeId → Option TI) (T : TypeId) (i : TI) : Bool :=
 (match P.info? T with
 | some inf => inf.size == i.size && (match inf.zero with
  | some z => valC z (mkv i.agg (i.zero.map zval))
  | none => false) && decide (inf.bytes ≤ 4096)
 | none => false) && kdC P tt T i.kd && i.zero.length == i.size && (i.agg || i.size == 1) && i.zero.all zeroC && (match i.kd with
 | .slice e t => (match P.info? e with
  | some inf => decide (inf.bytes ≤ szB t)
  | none => false) && cellsC (i.zero.map zval) [.slice none 0 0]
 | _ => true)

def eqFs (P : Program) (rec : TypeId → List D → Bool) : List Field → Nat → List D → Bool
 | [], _, z => z.isEmpty
 | f :: fs, off, z => f.name != "_" && f.offset == off && (match P.info? f.type with
  | some i => decide (0 < i.size) && decide (i.size ≤ z.length) && rec f.type (z.take i.size) && eqFs P rec fs (off + i.size) (z.drop i.size)
  | none => false)
def eqT (P : Program) : Nat → TypeId → List D → Bool
 | 0, _, _ => false
 | d + 1, T, z => match P.underlying T, z with
  | some (.int _), [.sc (.int _ _)] => true
  | some .bool, [.sc (.bool _)] => true
  | some .string, [.sc (.str _)] => true
  | some (.struct fs), z => !P.stoodInHeld T && !z.isEmpty && eqFs P (eqT P d) fs.toList 0 z
  | _, _ => false

def tabC (P : Program) (tab : List (Option TI)) : Bool :=
 (List.range tab.length).all fun T => match tab.getD T none with
  | none => true
  | some i => tyC P (fun T => tab.getD T none) T i && (match i.kd with
   | .struct _ => !i.zero.all D.isSc || (P.eqGuardType P.depth T == false && eqT P 8 T i.zero)
   | _ => true)

section
variable {P : Program} {cx : Cx}

theorem kdC_ok {T : TypeId} {k : Kd} (h : kdC P cx.tt T k = true) : KdOk P cx T k := by
 unfold kdC at h
 cases k with
 | int k => simp only at h; split at h <;> first | cases h | (rename_i hu; simp only [decide_eq_true_eq] at h; subst h; exact hu)
 | bool => simp only at h; split at h <;> first | (rename_i hu; exact hu) | cases h
 | str => simp only at h; split at h <;> first | (rename_i hu; exact hu) | cases h
 | slice e t =>
  simp only [Bool.and_eq_true] at h
  obtain ⟨h1, h2⟩ := h
  refine ⟨?_, ?_⟩
  ·split at h1 <;> first | cases h1 | (rename_i hu; simp only [beq_iff_eq] at h1; subst h1; exact hu)
  ·split at h2
   ·rename_i ie hie
    simp only [Bool.and_eq_true, beq_iff_eq] at h2
    exact ⟨ie, hie, h2.1, cellsC_ok h2.2⟩
   ·cases h2
 | struct fs =>
  simp only at h
  split at h
  ·rename_i fields hu
   simp only [Bool.and_eq_true, decide_eq_true_eq] at h
   exact ⟨fields, hu, h.1, h.2⟩
  ·cases h
 | array n e =>
  simp only at h
  split at h
  ·rename_i n' e' hu
   simp only [Bool.and_eq_true, beq_iff_eq] at h
   rw [h.1, h.2] at hu
   exact hu
  ·cases h
 | iface =>
  simp only at h
  split at h
  ·rename_i ms hu; exact ⟨ms, hu⟩
  ·cases h
 | func =>
  simp only at h
  split at h
  ·rename_i a b c hu; exact ⟨a, b, c, hu⟩
  ·cases h
 | map k0 e =>
  simp only [Bool.and_eq_true] at h
  obtain ⟨h1, h2⟩ := h
  refine ⟨?_, ?_⟩
  ·split at h1
   ·rename_i k' e' hu
    simp only [Bool.and_eq_true, beq_iff_eq] at h1
    rw [h1.1, h1.2] at hu
    exact hu
   ·cases h1
  ·split at h2
   ·rename_i hu; exact hu
   ·cases h2
 | other => cases h

theorem tyC_ok {T : TypeId} {i : TI} (h : tyC P cx.tt T i = true) : TyOk P cx T i := by
 unfold tyC at h
 simp only [Bool.and_eq_true, Bool.or_eq_true, beq_iff_eq, List.all_eq_true] at h
 obtain ⟨⟨⟨⟨⟨h1, h2⟩, h3⟩, h4⟩, h5⟩, h6⟩ := h
 refine ⟨?_, kdC_ok h2, h3, fun hg => ?_, fun z hz => zeroC_ok (h5 z hz), fun e t hk inf hi => ?_, fun e t hk => ?_⟩
 ·split at h1
  ·rename_i inf hinf
   simp only [Bool.and_eq_true, beq_iff_eq, decide_eq_true_eq] at h1
   obtain ⟨⟨q1, q2⟩, q3⟩ := h1
   refine ⟨inf, hinf, q1, ?_, q3⟩
   split at q2
   ·rename_i z hz; rw [hz, valC_ok q2]
   ·cases q2
  ·cases h1
 ·rcases h4 with h4 | h4
  ·rw [hg] at h4; cases h4
  ·exact h4
 ·rw [hk] at h6
  simp only [hi, Bool.and_eq_true, decide_eq_true_eq] at h6
  exact h6.1
 ·rw [hk] at h6
  simp only [Bool.and_eq_true] at h6
  exact cellsC_ok h6.2

def scEq : Sc → Sc → Bool
 | .int _ a, .int _ b => a == b
 | .bool a, .bool b => a == b
 | .str a, .str b => decide (a = b)
 | _, _ => false
def eqB : List Sc → List Sc → Bool
 | a :: x, b :: y => scEq a b && eqB x y
 | _, _ => true

theorem kinds_len : ∀ (z : List D) (x : List Sc), kindsOk z x = true → x.length = z.length
 | [], [], _ => rfl
 | .sc (.int _ _) :: z, .int _ _ :: x, h => by simp only [kindsOk, Bool.and_eq_true] at h; simp [kinds_len z x h.2]
 | .sc (.bool _) :: z, .bool _ :: x, h => by simp only [kindsOk] at h; simp [kinds_len z x h]
 | .sc (.str _) :: z, .str _ :: x, h => by simp only [kindsOk] at h; simp [kinds_len z x h]
 | [], _ :: _, h => by cases h
 | d :: z, [], h => by unfold kindsOk at h; split at h <;> simp_all

theorem eqRowS_B : ∀ (z : List D) (x y : List Sc) (p : Bool), kindsOk z x = true → kindsOk z y = true → eqRowS x y = some p → p = eqB x y := by
 have one : ∀ a b p, eqSc a b = some p → p = scEq a b := fun a b p h => by
  unfold eqSc at h
  split at h
  ·split at h
   ·injection h with h; exact h.symm
   ·cases h
  ·injection h with h; exact h.symm
  ·injection h with h; exact h.symm
  ·cases h
 intro z x
 induction x generalizing z with
 | nil =>
  intro y p h1 h2 h
  have := kinds_len z _ h1; have h3 := kinds_len z _ h2
  have hy : y = [] := List.length_eq_zero_iff.1 (by rw [h3, ← this]; rfl)
  subst hy
  simp only [eqRowS] at h; injection h with h; exact h.symm
 | cons a x ih =>
  intro y p h1 h2 h
  have l1 := kinds_len z _ h1; have l2 := kinds_len z _ h2
  cases y with
  | nil => simp at l1 l2; omega
  | cons b y =>
   cases z with
   | nil => simp at l1
   | cons d z =>
    have k1 : kindsOk z x = true := by
     unfold kindsOk at h1; split at h1 <;> simp_all
    have k2 : kindsOk z y = true := by
     unfold kindsOk at h2; split at h2 <;> simp_all
    cases x with
    | nil =>
     have hy : y = [] := List.length_eq_zero_iff.1 (by simp only [List.length_cons, List.length_nil] at l1 l2; omega)
     subst hy
     have h' : eqSc a b = some p := h
     simp [eqB, one a b p h']
    | cons a2 x2 =>
     unfold eqRowS at h
     split at h
     ·rename_i pa pb ha hb
      injection h with h
      rw [← h, one _ _ _ ha, ih z y pb k1 k2 hb]
      rfl
     ·cases h

theorem eqB_append : ∀ (x x' y y' : List Sc), x.length = y.length → eqB (x ++ x') (y ++ y') = (eqB x y && eqB x' y')
 | [], x', [], y', _ => by simp [eqB]
 | a :: x, x', b :: y, y', h => by
  simp only [List.cons_append, eqB]
  rw [eqB_append x x' y y' (by simpa using h), Bool.and_assoc]
 | [], _, _ :: _, _, h => by simp at h
 | _ :: _, _, [], _, h => by simp at h

theorem kinds_append : ∀ (z : List D) (n : Nat) (x : List Sc), kindsOk z x = true → kindsOk (z.take n) (x.take n) = true ∧ kindsOk (z.drop n) (x.drop n) = true
 | [], n, [], _ => by simp [kindsOk]
 | z, 0, x, h => ⟨by simp [kindsOk], by simpa using h⟩
 | .sc (.int _ _) :: z, n + 1, .int _ _ :: x, h => by
  simp only [kindsOk, Bool.and_eq_true] at h
  obtain ⟨h1, h2⟩ := kinds_append z n x h.2
  simp only [List.take_succ_cons, List.drop_succ_cons, kindsOk, Bool.and_eq_true]
  exact ⟨⟨h.1, h1⟩, h2⟩
 | .sc (.bool _) :: z, n + 1, .bool _ :: x, h => by
  simp only [kindsOk] at h
  obtain ⟨h1, h2⟩ := kinds_append z n x h
  simp only [List.take_succ_cons, List.drop_succ_cons, kindsOk]
  exact ⟨h1, h2⟩
 | .sc (.str _) :: z, n + 1, .str _ :: x, h => by
  simp only [kindsOk] at h
  obtain ⟨h1, h2⟩ := kinds_append z n x h
  simp only [List.take_succ_cons, List.drop_succ_cons, kindsOk]
  exact ⟨h1, h2⟩
 | [], n + 1, _ :: _, h => by cases h
 | d :: z, n + 1, [], h => by unfold kindsOk at h; split at h <;> simp_all

def aggT (P : Program) (T : TypeId) : Bool := match P.underlying T with
 | some (.struct _) => true
 | _ => false
def vOf (P : Program) (T : TypeId) (x : List Sc) : Value := mkv (aggT P T) (x.map Sc.val)
end
end Go.Eng
/- Structs of scalars are held against each other; the table is as the program has it. -/
set_option linter.unusedVariables false
set_option linter.unusedSimpArgs false
namespace Go.Eng
open Go Go.RowKit

section
variable {P : Program} {cx : Cx}

theorem isAgg_of {d : Nat} {T : TypeId} {z : List D} (h : eqT P d T z = true) (w : World) : (isAgg T).run P w = .ok (aggT P T) w ∧ (aggT P T = false → z.length = 1) := by
 cases d with
 | zero => cases h
 | succ d =>
  unfold eqT at h
  split at h
  ·rename_i k k' n hu; exact ⟨by simp [isAgg, run_underlying hu, aggT, hu], fun _ => rfl⟩
  ·rename_i b hu; exact ⟨by simp [isAgg, run_underlying hu, aggT, hu], fun _ => rfl⟩
  ·rename_i s hu; exact ⟨by simp [isAgg, run_underlying hu, aggT, hu], fun _ => rfl⟩
  ·rename_i fs hu; exact ⟨by simp [isAgg, run_underlying hu, aggT, hu], fun e => by simp [aggT, hu] at e⟩
  ·cases h

theorem run_part {d : Nat} {T : TypeId} {z : List D} (h : eqT P d T z = true) {i : TypeInfo} (hi : P.info? T = some i) (hz : z.length = i.size) (X : List Sc) (off : Nat) (hl : off + i.size ≤ X.length) (w : World) :
    (part T (X.map Sc.val).toArray off).run P w = .ok (vOf P T ((X.drop off).take i.size)) w := by
 obtain ⟨h1, h2⟩ := isAgg_of h w
 unfold part
 rw [Sem.run_bind, h1]
 simp only [Result.andThen_ok]
 cases hg : aggT P T with
 | true =>
  simp only [if_true, vOf, hg, mkv]
  simp [sizeOf, typeInfo, hi, List.map_take, List.map_drop]
 | false =>
  have hs := h2 hg
  have e1 : i.size = 1 := by omega
  have hlt : off < X.length := by omega
  simp only [Bool.false_eq_true, if_false, vOf, hg, mkv, e1]
  have e2 : (X.drop off).take 1 = [X[off]] := by
   rw [List.drop_eq_getElem_cons hlt]; rfl
  rw [e2]
  simp [hlt]

theorem eqFs_ok {rec : TypeId → List D → Bool} {d D : Nat} (hrec : rec = eqT P d) (hE : ∀ T z, eqT P d T z = true → ∀ x y, kindsOk z x = true → kindsOk z y = true → ∀ w, (Op.equalIn D T (vOf P T x) (vOf P T y)).run P w = .ok (eqB x y) w) :
    ∀ (fs : List Field) (off : Nat) (z : List Eng.D) (X Y : List Sc), eqFs P rec fs off z = true → kindsOk z (X.drop off) = true → kindsOk z (Y.drop off) = true → ∀ w, (Op.eqFields D (X.map Sc.val).toArray (Y.map Sc.val).toArray fs).run P w = .ok (eqB (X.drop off) (Y.drop off)) w
 | [], off, z, X, Y, h, hx, hy, w => by
  simp only [eqFs, List.isEmpty_iff] at h
  subst h
  have h1 := kinds_len _ _ hx
  have : X.drop off = [] := List.length_eq_zero_iff.1 (by simpa using h1)
  rw [this]
  simp [Op.eqFields, eqB]
 | f :: fs, off, z, X, Y, h, hx, hy, w => by
  simp only [eqFs, Bool.and_eq_true, bne_iff_ne, beq_iff_eq] at h
  obtain ⟨⟨hn, ho⟩, h⟩ := h
  split at h
  ·rename_i i hi
   simp only [Bool.and_eq_true, decide_eq_true_eq] at h
   obtain ⟨⟨⟨h1, h2⟩, h3⟩, h4⟩ := h
   rw [hrec] at h3
   have lx := kinds_len _ _ hx
   have ly := kinds_len _ _ hy
   rw [List.length_drop] at lx ly
   have px := run_part h3 hi (by rw [List.length_take]; omega) X off (by omega) w
   have py := run_part h3 hi (by rw [List.length_take]; omega) Y off (by omega) w
   obtain ⟨kx1, kx2⟩ := kinds_append z i.size _ hx
   obtain ⟨ky1, ky2⟩ := kinds_append z i.size _ hy
   have he := hE f.type _ h3 _ _ kx1 ky1 w
   rw [List.drop_drop] at kx2 ky2
   have ih := eqFs_ok hrec hE fs (off + i.size) (z.drop i.size) X Y h4 kx2 ky2 w
   have hsplit : eqB (X.drop off) (Y.drop off) = (eqB ((X.drop off).take i.size) ((Y.drop off).take i.size) && eqB (X.drop (off + i.size)) (Y.drop (off + i.size))) := by
    rw [← List.drop_drop, ← List.drop_drop, ← eqB_append _ _ _ _ (by simp only [List.length_take, List.length_drop]; omega), List.take_append_drop, List.take_append_drop]
   rw [hsplit]
   simp only [Op.eqFields, if_pos hn, Sem.run_bind, ho, px, py, he, Result.andThen_ok]
   cases eqB ((X.drop off).take i.size) ((Y.drop off).take i.size)
   ·simp
   ·simpa using ih
  ·cases h

theorem kinds_nil {x : List Sc} (h : kindsOk [] x = true) : x = [] := by
 cases x with
 | nil => rfl
 | cons a x => cases h
theorem kinds_int {k : IntKind} {n : Int} {x : List Sc} (h : kindsOk [.sc (.int k n)] x = true) : ∃ a, x = [.int k a] := by
 cases x with
 | nil => cases h
 | cons a x =>
  cases a with
  | int k' v =>
   simp only [kindsOk, Bool.and_eq_true, decide_eq_true_eq] at h
   rw [← h.1, kinds_nil h.2]; exact ⟨v, rfl⟩
  | bool b => cases h
  | str s => cases h
theorem kinds_bool {n : Bool} {x : List Sc} (h : kindsOk [.sc (.bool n)] x = true) : ∃ a, x = [.bool a] := by
 cases x with
 | nil => cases h
 | cons a x =>
  cases a with
  | bool v =>
   simp only [kindsOk] at h
   rw [kinds_nil h]; exact ⟨v, rfl⟩
  | int k b => cases h
  | str s => cases h
theorem kinds_str {n : ByteArray} {x : List Sc} (h : kindsOk [.sc (.str n)] x = true) : ∃ a, x = [.str a] := by
 cases x with
 | nil => cases h
 | cons a x =>
  cases a with
  | str v =>
   simp only [kindsOk] at h
   rw [kinds_nil h]; exact ⟨v, rfl⟩
  | int k b => cases h
  | bool s => cases h

theorem eqT_ok : ∀ (d : Nat) (T : TypeId) (z : List D), eqT P d T z = true → ∀ E, d ≤ E → ∀ x y, kindsOk z x = true → kindsOk z y = true → ∀ w, (Op.equalIn E T (vOf P T x) (vOf P T y)).run P w = .ok (eqB x y) w
 | 0, _, _, h, _, _, _, _, _, _, _ => by cases h
 | d + 1, T, z, h, E, hE, x, y, hx, hy, w => by
  obtain ⟨E, rfl⟩ : ∃ E', E = E' + 1 := ⟨E - 1, by omega⟩
  unfold eqT at h
  split at h
  ·rename_i k k' n hu
   have hag : aggT P T = false := by simp [aggT, hu]
   obtain ⟨a, rfl⟩ := kinds_int hx
   obtain ⟨b, rfl⟩ := kinds_int hy
   simp only [vOf, hag, mkv, List.map_cons, List.map_nil, Sc.val, eqB, scEq, Bool.and_true]
   exact run_equalIn_int w E T _ k a b hu
  ·rename_i b0 hu
   have hag : aggT P T = false := by simp [aggT, hu]
   obtain ⟨a, rfl⟩ := kinds_bool hx
   obtain ⟨b, rfl⟩ := kinds_bool hy
   simp only [vOf, hag, mkv, List.map_cons, List.map_nil, Sc.val, eqB, scEq, Bool.and_true]
   exact run_equalIn_bool' w E T a b hu
  ·rename_i s0 hu
   have hag : aggT P T = false := by simp [aggT, hu]
   obtain ⟨a, rfl⟩ := kinds_str hx
   obtain ⟨b, rfl⟩ := kinds_str hy
   simp only [vOf, hag, mkv, List.map_cons, List.map_nil, Sc.val, eqB, scEq, Bool.and_true, ← strEq]
   exact run_equalIn_string w E T a b hu
  ·rename_i fs hu
   simp only [Bool.and_eq_true, Bool.not_eq_true'] at h
   have hag : aggT P T = true := by simp [aggT, hu]
   simp only [vOf, hag, mkv, if_true]
   have hf : P.fieldsOf T = fs := by simp [Program.fieldsOf, hu]
   rw [run_equalIn_struct (P := P) w E T _ _ (by rw [hf]; exact hu) h.1.1, hf]
   have := eqFs_ok (P := P) (d := d) (D := E) rfl (fun T z ht x y kx ky w => eqT_ok d T z ht E (by omega) x y kx ky w) fs.toList 0 _ x y h.2 (by simpa using hx) (by simpa using hy) w
   simpa using this
  ·cases h

theorem tabC_ok {tab : List (Option TI)} (ht : cx.tt = fun T => tab.getD T none) (h : tabC P tab = true) (hm : P.follows .mixedOrders = true) : CxOk P cx := by
 have key : ∀ T i, cx.tt T = some i → tyC P cx.tt T i = true ∧ (match i.kd with
     | .struct _ => !i.zero.all D.isSc || (P.eqGuardType P.depth T == false && eqT P 8 T i.zero)
     | _ => true) = true := fun T i hi => by
  rw [ht] at hi ⊢
  have hlt : T < tab.length := by
   rcases Nat.lt_or_ge T tab.length with h1 | h1
   ·exact h1
   ·simp only [List.getD_eq_getElem?_getD, List.getElem?_eq_none h1] at hi; cases hi
  have := List.all_eq_true.1 h T (List.mem_range.2 hlt)
  simp only at hi
  rw [hi] at this
  simp only [Bool.and_eq_true] at this
  exact this
 refine ⟨fun T i hi => tyC_ok (key T i hi).1, fun T fs n z e hT hz => ?_, hm⟩
 have h2 := (key T _ hT).2
 simp only [hz, Bool.not_true, Bool.false_or, Bool.and_eq_true, beq_iff_eq] at h2
 refine ⟨h2.1, fun xs ys p kx ky hp w => ?_⟩
 have hty := (tyC_ok (key T _ hT).1).und
 obtain ⟨fields, hu, _⟩ := hty
 have hag : aggT P T = true := by simp [aggT, hu]
 have := eqT_ok 8 T z h2.2 10000 (by omega) xs ys kx ky w
 simp only [vOf, hag, mkv, if_true] at this
 rw [eqRowS_B z xs ys p kx ky hp]
 exact this
end
end Go.Eng
/- Contracts are gathered. -/
set_option linter.unusedVariables false
set_option linter.unusedSimpArgs false
namespace Go.Eng
open Go Go.RowKit

section
variable {P : Program} {cx cx' : Cx} {ok : Nat → Prop} {ρ : Rho} {w : World}

theorem RD.tt (h : cx.tt = cx'.tt) {d : D} {x : Value} (hd : RD cx ok w d x) : RD cx' ok w d x := by
 induction hd with
 | sc s => exact .sc s
 | nils => exact .nils
 | sl0 nl full t A cap h1 h2 h3 h4 => exact .sl0 nl full t A cap h1 h2 h3 h4
 | sl nl full t l b off cap vs h0 h1 h2 h3 h4 hc hr ih => exact .sl nl full t l b off cap vs h0 h1 h2 h3 h4 hc ih
 | fn f first caps a b h1 h2 ha hb iha ihb => exact .fn f first caps a b h1 h2 iha ihb
 | nilI => exact .nilI
 | nilf => exact .nilf
 | nilm => exact .nilm
 | one T s h1 => exact .one T s (by unfold oneOk at h1 ⊢; rw [← h]; exact h1)
 | val T v h1 => exact .val T v (by unfold threeOk at h1 ⊢; rw [← h]; exact h1)
 | ref cs b off vs h1 hb hc hr ih => exact .ref cs b off vs h1 hb hc ih
theorem RC.tt (h : cx.tt = cx'.tt) {c : C} {x : Value} (hd : RC cx ρ ok w c x) : RC cx' ρ ok w c x := by
 cases c with
 | d y => exact RD.tt h hd
 | _ => exact hd
theorem RCs.tt (h : cx.tt = cx'.tt) {cs : List C} {vs : List Value} (hd : RCs cx ρ ok w cs vs) : RCs cx' ρ ok w cs vs := ⟨hd.1, fun j hj => (hd.2 j hj).tt h⟩
theorem RA.tt (h : cx.tt = cx'.tt) {g : Arg} {x : Value} (hd : RA cx ρ ok w g x) : RA cx' ρ ok w g x := by
 obtain ⟨g, cs⟩ := g
 cases g with
 | true => obtain ⟨vs, h1, h2⟩ := hd; exact ⟨vs, h1, h2.tt h⟩
 | false => obtain ⟨c, h1, h2⟩ := hd; exact ⟨c, h1, h2.tt h⟩
theorem RAs.tt (h : cx.tt = cx'.tt) {as : List Arg} {xs : List Value} (hd : RAs cx ρ ok w as xs) : RAs cx' ρ ok w as xs := ⟨hd.1, fun j hj => (hd.2 j hj).tt h⟩
theorem RV.tt (h : cx.tt = cx'.tt) {v : V} {x : Value} (hd : RV cx ρ ok w v x) : RV cx' ρ ok w v x := by
 cases v with
 | any => trivial
 | v g cs => exact RA.tt h hd
 | tup vs => obtain ⟨xs, h1, h2⟩ := hd; exact ⟨xs, h1, h2.tt h⟩
theorem RB.tt (h : cx.tt = cx'.tt) {n : Nat} {T : TypeId} {t : ET} {l : List (Ty t)} (hd : RB cx ρ ok w n (.arr T t l)) : RB cx' ρ ok w n (.arr T t l) := by
 rcases hd with h1 | ⟨k, vs, h1, h2, h3, h4⟩
 ·exact .inl h1
 ·exact .inr ⟨k, vs, h1, h2, h3, fun i j hi hj => (h4 i j hi hj).tt h⟩
theorem After.tt (h : cx.tt = cx'.tt) {r : Ret} {e : Ending} {w' : World} (ha : After cx ok w r e w') : After cx' ok w r e w' := by
 obtain ⟨x, ob, h1, h2, h3, h4, h5⟩ := ha
 refine ⟨x, ob, h1, h2, h3, ?_, fun nm => (h5 nm).tt h⟩
 rcases r with ⟨o, row, vals⟩
 rcases row with _ | ⟨T, t, l⟩
 ·trivial
 ·exact RB.tt h h4
theorem EntOk.tt (h : cx.tt = cx'.tt) {go : List Value → Sem Next} {G : List DArg → Option Ret} (he : EntOk P cx go G) : EntOk P cx' go G := fun das r hG hr ok w xs hx => by
 obtain ⟨f, ys, h1, h2⟩ := he das r hG hr ok w xs (hx.tt h.symm)
 exact ⟨f, ys, h1, h2.mono fun e w' ha => ha.tt h⟩
end

def find {α : Type} : List (Nat × α) → Nat → Option α
 | [], _ => none
 | (k, a) :: r, n => if n = k then some a else find r n
def findS {α : Type} : List (String × α) → String → Option α
 | [], _ => none
 | (k, a) :: r, n => if n = k then some a else findS r n
theorem find_mem {α : Type} : ∀ (l : List (Nat × α)) (n : Nat) (a : α), find l n = some a → (n, a) ∈ l
 | [], _, _, h => by cases h
 | (k, b) :: r, n, a, h => by
  unfold find at h
  split at h
  ·rename_i e; injection h with h; subst e; subst h; exact List.mem_cons_self
  ·exact List.mem_cons_of_mem _ (find_mem r n a h)
theorem findS_mem {α : Type} : ∀ (l : List (String × α)) (n : String) (a : α), findS l n = some a → (n, a) ∈ l
 | [], _, _, h => by cases h
 | (k, b) :: r, n, a, h => by
  unfold findS at h
  split at h
  ·rename_i e; injection h with h; subst e; subst h; exact List.mem_cons_self
  ·exact List.mem_cons_of_mem _ (findS_mem r n a h)

abbrev Con := List DArg → Option Ret
def mkCx (tab : List (Option TI)) (gas : List (Nat × Con)) (invs : List (String × Con)) (hints : List (Nat × Nat × Hint)) : Cx :=
 { tt := fun T => tab.getD T none, ga := find gas, inl := fun _ => none, inv := findS invs,
   hint := fun f r => match hints.find? (fun h => h.1 == f && h.2.1 == r) with
    | some h => h.2.2
    | none => { keep := [], acc := [] } }
def Stands (P : Program) (tab : List (Option TI)) (f : FuncId) (G : Con) : Prop := EntOk P (mkCx tab [] [] []) (fun xs => callFunc f xs.toArray) G
def StandsI (P : Program) (tab : List (Option TI)) (m : String) (G : Con) : Prop := EntOk P (mkCx tab [] [] []) (fun xs => invoke (.fn (.method m) #[]) xs.toArray) G

theorem gaOk {P : Program} {tab : List (Option TI)} {gas : List (Nat × Con)} {invs : List (String × Con)} {hints : List (Nat × Nat × Hint)} (h : ∀ p ∈ gas, Stands P tab p.1 p.2) (hi : ∀ p ∈ invs, StandsI P tab p.1 p.2) : GaOk P (mkCx tab gas invs hints) :=
 ⟨fun f G hG => EntOk.tt (cx := mkCx tab [] [] []) (cx' := mkCx tab gas invs hints) rfl (h (f, G) (find_mem _ _ _ hG)), fun m G hG => EntOk.tt (cx := mkCx tab [] [] []) (cx' := mkCx tab gas invs hints) rfl (hi (m, G) (findS_mem _ _ _ hG)), fun f fn hf => by cases hf⟩

end Go.Eng
/- Names for what is reckoned with values that are not known. -/
set_option linter.unusedVariables false
set_option linter.unusedSimpArgs false
namespace Go.Eng
abbrev xdec (p : Prop) [Decidable p] : Bool := decide p
abbrev xnot (a : Bool) : Bool := !a
abbrev xeqI (a b : Int) : Bool := a == b
abbrev xneI (a b : Int) : Bool := a != b
abbrev xwrap (k : IntKind) (n : Int) : Int := k.wrap n
end Go.Eng
/- Loops and functions as they are reckoned by program: what a round comes to, what the rounds come to, what a function comes to. -/
set_option linter.unusedVariables false
set_option linter.unusedSimpArgs false
namespace Go.Eng
open Go Go.RowKit

section
variable {P : Program} {cx : Cx} {st st' : St}

theorem Circles.turns {c : Code} {s1 s2 s3 : St} {e : Ex} (y : Circles P cx c s1 e s2) (x : Turns cx s2 s3) : Circles P cx c s1 e s3 := by
 obtain ⟨y1, m, y2⟩ := y
 refine ⟨x.1.trans y1, m, fun ok w0 ρ a w Q hi hl hQ => ?_⟩
 refine y2 ok w0 ρ a w Q hi hl (fun ρ1 a1 w1 i1 g1 => ?_)
 have hl1 : s2.fb ≤ s2.heap.length := by rw [y1]; exact g1.grow.len hl
 obtain ⟨ρ2, i2, g2⟩ := x.2.2 ok w0 ρ1 a1 w1 i1 hl1
 rw [y1] at g2
 exact hQ ρ2 a1 w1 i2 (g1.trans g2)

def round2 (cx : Cx) (hd : Hd (Option (Ex × St))) (f : FuncId) (body : Code) (hs : List Nat) (base : Nat) (keepX : List Nat) (st : St) : Option (Ex × St) :=
 evCode cx hd none f body st fun e st' => match e with
  | .normal => match backs (cx.hint f (firstReg body)).acc hs ⟨keepOnly (cx.hint f (firstReg body)).keep st'.env, st'.heap, st'.fb⟩ with
   | none => none
   | some st1 => match clean (cx.hint f (firstReg body)) base st1 with
    | none => none
    | some st2 => some (.normal, st2)
  | e => some (e, ⟨keepOnly keepX st'.env, st'.heap, st'.fb⟩)
theorem round2_ok {B : Code → Prop} {hd : Hd (Option (Ex × St))} (hcx : CxOk P cx) (hga : GaOk P cx) {G : RF → Prop} (hH : HdOk P cx false hd B G) {f : FuncId} {body : Code} (hB : (∀ p ∈ loopsOf body, B p) ∧ ∀ q ∈ rfsOf body, G q) {hs : List Nat} {base : Nat} {keepX : List Nat} {st : St} {e : Ex} {st' : St} (he : round2 cx hd f body hs base keepX st = some (e, st')) :
    (e ≠ .normal → Circles P cx body st e st') ∧ (e = .normal → ∀ e2 st2, Circles P cx body st' e2 st2 → Circles P cx body st e2 st2) := by
 unfold round2 at he
 obtain ⟨e1, s1, h1, h2⟩ := code_adq hcx hga hH f body st _ _ hB.1 hB.2 he
 cases e1 with
 | exit id =>
  simp only [Option.some.injEq, Prod.mk.injEq] at h2
  obtain ⟨rfl, rfl⟩ := h2
  exact ⟨fun hn => (h1.last hn).turns (turns_keep keepX), fun hn => by cases hn⟩
 | ret =>
  simp only [Option.some.injEq, Prod.mk.injEq] at h2
  obtain ⟨rfl, rfl⟩ := h2
  exact ⟨fun hn => (h1.last hn).turns (turns_keep keepX), fun hn => by cases hn⟩
 | normal =>
  simp only at h2
  split at h2
  ·cases h2
  ·rename_i s2 hb
   split at h2
   ·cases h2
   ·rename_i s3 hc
    simp only [Option.some.injEq, Prod.mk.injEq] at h2
    obtain ⟨rfl, rfl⟩ := h2
    refine ⟨fun hn => absurd rfl hn, fun _ e2 st2 h3 => ?_⟩
    exact h1.circle (((turns_keep (cx := cx) (st := s1) _).trans (turns_backs _ _ _ _ hb)).trans (turns_clean hc)) h3
end

section
variable {V : Type}
def lpN (r : V → Option (Option Nat × V)) : Nat → V → Option (Nat × V)
 | 0, _ => none
 | n + 1, v => match r v with
  | none => none
  | some (none, v') => lpN r n v'
  | some (some j, v') => some (j, v')
theorem lpN_mono {r : V → Option (Option Nat × V)} : ∀ {n m : Nat} {v : V} {x : Nat × V}, n ≤ m → lpN r n v = some x → lpN r m v = some x
 | 0, _, _, _, _, h => by cases h
 | n + 1, 0, _, _, hle, _ => by omega
 | n + 1, m + 1, v, x, hle, h => by
  unfold lpN at h ⊢
  split at h
  ·cases h
  ·exact lpN_mono (by omega) h
  ·exact h
open Classical in
noncomputable def Lp (r : V → Option (Option Nat × V)) (v : V) : Option (Nat × V) :=
 if h : ∃ n x, lpN r n v = some x then some (Classical.choose (Classical.choose_spec h)) else none
theorem Lp_of {r : V → Option (Option Nat × V)} {v : V} {n : Nat} {x : Nat × V} (h : lpN r n v = some x) : Lp r v = some x := by
 have hex : ∃ n x, lpN r n v = some x := ⟨n, x, h⟩
 unfold Lp
 rw [dif_pos hex]
 have h2 := Classical.choose_spec (Classical.choose_spec hex)
 have a := lpN_mono (Nat.le_max_left n (Classical.choose hex)) h
 have b := lpN_mono (Nat.le_max_right n (Classical.choose hex)) h2
 rw [a] at b
 exact b.symm
theorem Lp_ex {r : V → Option (Option Nat × V)} {v : V} {x : Nat × V} (h : Lp r v = some x) : ∃ n, lpN r n v = some x := by
 unfold Lp at h
 split at h
 ·rename_i hex
  injection h with h
  exact ⟨_, h ▸ Classical.choose_spec (Classical.choose_spec hex)⟩
 ·cases h
theorem Lp_eq (r : V → Option (Option Nat × V)) (v : V) : Lp r v = match r v with
    | none => none
    | some (none, v') => Lp r v'
    | some (some j, v') => some (j, v') := by
 split
 ·rename_i h
  cases hl : Lp r v with
  | none => rfl
  | some x =>
   obtain ⟨n, hn⟩ := Lp_ex hl
   cases n with
   | zero => cases hn
   | succ n => unfold lpN at hn; rw [h] at hn; cases hn
 ·rename_i v' h
  cases hl : Lp r v' with
  | none =>
   cases hl2 : Lp r v with
   | none => rfl
   | some x =>
    obtain ⟨n, hn⟩ := Lp_ex hl2
    cases n with
    | zero => cases hn
    | succ n =>
     unfold lpN at hn; rw [h] at hn
     rw [Lp_of hn] at hl; cases hl
  | some x =>
   obtain ⟨n, hn⟩ := Lp_ex hl
   exact Lp_of (n := n + 1) (by unfold lpN; rw [h]; exact hn)
 ·rename_i j v' h
  exact Lp_of (n := 1) (by unfold lpN; rw [h])
theorem Lp_cont {r : V → Option (Option Nat × V)} {v v' : V} (h : r v = some (none, v')) : Lp r v = Lp r v' := by rw [Lp_eq, h]
theorem Lp_exit {r : V → Option (Option Nat × V)} {v v' : V} {j : Nat} (h : r v = some (some j, v')) : Lp r v = some (j, v') := by rw [Lp_eq, h]

noncomputable def Lp_j (r : V → Option (Option Nat × V)) (v : V) (j : Nat) : Bool := match Lp r v with
 | some (i, _) => i == j
 | none => false
noncomputable def Lp_v (r : V → Option (Option Nat × V)) (v : V) : V := match Lp r v with
 | some (_, x) => x
 | none => v
theorem Lp_j_of {r : V → Option (Option Nat × V)} {v v' : V} {i : Nat} (h : Lp r v = some (i, v')) (j : Nat) : Lp_j r v j = (i == j) := by simp only [Lp_j, h]
theorem Lp_v_of {r : V → Option (Option Nat × V)} {v v' : V} {i : Nat} (h : Lp r v = some (i, v')) : Lp_v r v = v' := by simp only [Lp_v, h]

def exT (ex : Nat → Ex × St) (jb : Nat → Bool) : List Nat → Tree
 | [] => .bad
 | j :: js => .br (jb j) (.leaf (ex j).1 (ex j).2) (exT ex jb js)
theorem exT_eval {ex : Nat → Ex × St} {jb : Nat → Bool} : ∀ {js : List Nat} {e : Ex} {st : St}, (exT ex jb js).eval = some (e, st) → ∃ j, jb j = true ∧ ex j = (e, st)
 | [], e, st, h => by cases h
 | j :: js, e, st, h => by
  cases hj : jb j with
  | true =>
   simp only [exT, Tree.eval, Tree.run, hj, cond_true, Option.some.injEq] at h
   exact ⟨j, hj, h⟩
  | false =>
   simp only [exT, Tree.eval, Tree.run, hj, cond_false] at h
   exact exT_eval h

inductive DT (T : Type) where
 | leaf (t : T)
 | fail
 | br (c : Bool) (x y : DT T)
noncomputable def DT.go {T A : Type} (k : T → A) (t : DT T) : Option A := DT.rec (motive := fun _ => Option A) (fun t => some (k t)) none (fun c _ _ x y => cond c x y) t
noncomputable def DT.run {T : Type} (t : DT T) : Option T := DT.rec (motive := fun _ => Option T) (fun t => some t) none (fun c _ _ x y => cond c x y) t
theorem DT.go_run {T A : Type} (k : T → A) (t : DT T) : t.go k = t.run.map k := by
 induction t with
 | leaf t => rfl
 | fail => rfl
 | br c x y hx hy => cases c <;> assumption
theorem DT.run_leaf {T : Type} (t : T) : (DT.leaf t).run = some t := rfl
theorem DT.run_fail {T : Type} : (DT.fail : DT T).run = none := rfl
theorem DT.run_br {T : Type} (c : Bool) (x y : DT T) : (DT.br c x y).run = cond c x.run y.run := rfl

def roundOut (mk : V → St) (ex : Nat → V → Ex × St) (p : Option Nat × V) : Ex × St := match p.1 with
 | none => (.normal, mk p.2)
 | some j => ex j p.2
def exOk : Ex → Bool
 | .normal => false
 | _ => true

theorem loop_win {P : Program} {cx : Cx} {B : Code → Prop} {hd : Hd (Option (Ex × St))} (hcx : CxOk P cx) (hga : GaOk P cx) {G : RF → Prop} (hH : HdOk P cx false hd B G) {f : FuncId} {body : Code} (hB : (∀ p ∈ loopsOf body, B p) ∧ ∀ q ∈ rfsOf body, G q) {hs : List Nat} {base : Nat} {keepX : List Nat}
    {mk : V → St} {ex : Nat → V → Ex × St} {r : V → Option (Option Nat × V)} (h : ∀ v, round2 cx hd f body hs base keepX (mk v) = (r v).map (roundOut mk ex)) (hx : ∀ j v, exOk (ex j v).1 = true) :
    ∀ v j v', Lp r v = some (j, v') → Circles P cx body (mk v) (ex j v').1 (ex j v').2 := by
 intro v j v' hl
 obtain ⟨n, hn⟩ := Lp_ex hl
 clear hl
 induction n generalizing v with
 | zero => cases hn
 | succ n ih =>
  have hr := h v
  unfold lpN at hn
  split at hn
  ·cases hn
  ·rename_i v1 h1
   rw [h1] at hr
   exact (round2_ok hcx hga hH hB hr).2 rfl _ _ (ih v1 hn)
  ·rename_i j1 v1 h1
   injection hn with hn; injection hn with e1 e2; subst e1; subst e2
   rw [h1] at hr
   refine (round2_ok hcx hga hH hB (e := (ex j1 v1).1) (st' := (ex j1 v1).2) hr).1 (fun hc => ?_)
   have := hx j1 v1
   rw [hc] at this; cases this

theorem loop_tree {P : Program} {cx : Cx} {body : Code} {mk : V → St} {ex : Nat → V → Ex × St} {r : V → Option (Option Nat × V)} (h : ∀ v j v', Lp r v = some (j, v') → Circles P cx body (mk v) (ex j v').1 (ex j v').2) (v : V) (js : List Nat) (e : Ex) (st' : St)
    (he : (exT (fun j => ex j (Lp_v r v)) (Lp_j r v) js).eval = some (e, st')) : Circles P cx body (mk v) e st' := by
 obtain ⟨j, hj, hx⟩ := exT_eval he
 unfold Lp_j at hj
 split at hj
 ·rename_i i x hl
  have : i = j := by simpa using hj
  subst this
  have := h v i x hl
  rw [Lp_v_of hl] at hx
  rw [hx] at this
  exact this
 ·cases hj
end

def envOf (n : Nat) (l : List (Nat × V)) : List V := (List.range n).map fun t => (find l t).getD .any
def heapOf (n : Nat) (l : List (Nat × Option Blk)) : Heap := (List.range n).map fun t => (find l t).getD none
def okSt (n m fb : Nat) (hs : List Nat) (st : St) : Bool := decide (st.env.length = n) && decide (st.heap.length = m) && decide (st.fb = fb) && (List.range m).all fun k => hs.contains k || (lk st.heap k).isNone
theorem find_map {α : Type} (f : Nat → α) : ∀ (ks : List Nat) (t : Nat), find (ks.map fun k => (k, f k)) t = if ks.contains t then some (f t) else none
 | [], t => rfl
 | k :: ks, t => by
  simp only [List.map_cons, find, List.contains_cons]
  by_cases h : t = k
  ·subst h; simp
  ·rw [if_neg h, find_map f ks t]
   have : (t == k) = false := by simpa using h
   simp only [this, Bool.false_or]
theorem keep_eq {n m fb : Nat} {hs ks : List Nat} {st : St} (h : okSt n m fb hs st = true) : (⟨keepOnly ks st.env, st.heap, st.fb⟩ : St) = ⟨envOf n (ks.map fun k => (k, st.env.getD k .any)), heapOf m (hs.map fun k => (k, lk st.heap k)), fb⟩ := by
 unfold okSt at h
 simp only [Bool.and_eq_true, decide_eq_true_eq, List.all_eq_true, List.mem_range, Bool.or_eq_true] at h
 obtain ⟨⟨⟨h1, h2⟩, h3⟩, h4⟩ := h
 have e1 : keepOnly ks st.env = envOf n (ks.map fun k => (k, st.env.getD k .any)) := by
  unfold keepOnly envOf
  rw [h1]
  refine List.map_congr_left fun t _ => ?_
  rw [find_map (fun k => st.env.getD k .any)]
  split <;> rfl
 have e2 : st.heap = heapOf m (hs.map fun k => (k, lk st.heap k)) := by
  unfold heapOf
  refine List.ext_getElem (by simp [h2]) (fun i hi _ => ?_)
  simp only [List.getElem_map, List.getElem_range]
  rw [find_map (fun k => lk st.heap k)]
  have hl : lk st.heap i = st.heap[i] := by unfold lk; rw [List.getD_eq_getElem?_getD, List.getElem?_eq_getElem hi]; rfl
  split
  ·rw [← hl]; rfl
  ·rename_i hc
   rcases h4 i (by omega) with h5 | h5
   ·exact absurd h5 (by simpa using hc)
   ·rw [← hl]
    cases hx : lk st.heap i with
    | none => rfl
    | some b => rw [hx] at h5; cases h5
 rw [e1, ← e2, h3]
theorem circles_keep {P : Program} {cx : Cx} {body : Code} {n m fb : Nat} {hs ks : List Nat} {st : St} {e : Ex} {st' : St} (h : okSt n m fb hs st = true) (hc : Circles P cx body ⟨envOf n (ks.map fun k => (k, st.env.getD k .any)), heapOf m (hs.map fun k => (k, lk st.heap k)), fb⟩ e st') : Circles P cx body st e st' := by
 rw [← keep_eq h] at hc
 exact (turns_keep ks).circles hc

def setPs : List Tmp → List Arg → List V → List V
 | p :: ps, (g, cs) :: as, env => setPs ps as (env.set p (.v g cs))
 | _, _, env => env
def sOf : Option (Option Nat) → Nat
 | none => 0
 | some _ => 2
def roundEnd {R : Type} (n k : Nat) (K : List Arg → Heap → R) (fail : R) (st : St) (j : Option (Option Nat)) : R :=
 match lk st.heap n with
 | some (.lp k' env 1 none) => if k' = k then K [(false, [.d (.sc (.bool j.isNone))])] (st.heap.set n (some (.lp k env (sOf j) j))) else fail
 | _ => fail
def evYld {R : Type} (cx : Cx) (hd : Hd R) (fail : R) (n : Nat) (as : List Arg) (h : Heap) (K : List Arg → Heap → R) : R :=
 match lk h n with
 | some (.lp k env 0 none) => match cx.rf k with
  | some (fid, ps, asg, body) => if ps.size = as.length then
      evCode cx hd fail fid asg ⟨setPs ps.toList as env, h, h.length⟩ fun e st => match e with
      | .normal => match lk st.heap n with
       | some (.lp k2 env2 0 none) => if k2 = k then
           evCode cx hd fail fid body ⟨st.env, st.heap.set n (some (.lp k env2 1 none)), st.fb⟩ fun e2 st2 => match e2 with
           | .normal => roundEnd n k K fail st2 none
           | .ret => roundEnd n k K fail st2 (some none)
           | .exit id => roundEnd n k K fail st2 (some (some id))
        else fail
       | _ => fail
      | _ => fail
   else fail
  | none => fail
 | _ => fail

abbrev Loops2 := Nat → Option (St → Tree)
def hdI {R : Type} (cx : Cx) (L : Loops2) (inls : List (Nat × Func)) (fail : R) : Nat → Hd R
 | 0 => {
  lp := fun _ body _ _ st K => match L (firstReg body) with
   | some T => (T st).run K fail
   | none => fail
  cl := fun _ _ _ _ _ => fail
  rf := fun _ _ _ _ _ => fail }
 | n + 1 => {
  lp := fun _ body _ _ st K => match L (firstReg body) with
   | some T => (T st).run K fail
   | none => fail
  cl := fun fn f as h K => match fn.body with
   | none => evYld cx (hdI cx L inls fail n) fail f as h K
   | some _ => match cx.pr f with
    | some M => match M as h with
     | some (b, rs, h') => cond b (K rs h') fail
     | none => fail
    | none => match find inls f with
     | some fn => evFun cx (hdI cx L inls fail n) fail fn f as h K
     | none => fail
  rf := fun _ _ _ _ _ => fail }
section
variable {P : Program} {cx : Cx} {ok : Nat → Prop} {w0 : World} {ρ : Rho} {st : St} {a : Act} {w : World}

theorem lp_put (hi : Inv cx ok w0 ρ st a w) {n b k s s' : Nat} {env : List V} {j j' : Option (Option Nat)} {r r' : Loop} (hk : lk st.heap n = some (.lp k env s j)) (hb : ρ n = some b) (hr : w.heap[b]? = some (.loop r)) (hl : RL' cx ρ (okc ok w0.heap.size st.heap ρ) w k env s j r)
    (h1 : r'.tmps = r.tmps) (h3 : r'.params = r.params) (h4 : r'.assign = r.assign) (h5 : r'.body = r.body) (h6 : r'.state = lsOf s') (h7 : r'.pending = jOf j') (fb : Nat) :
    Inv cx ok w0 ρ ⟨st.env, st.heap.set n (some (.lp k env s' j')), st.fb⟩ a (w.putObj b (.loop r')) ∧ Goes ok w0.heap.size fb ρ st.heap w ρ (st.heap.set n (some (.lp k env s' j'))) (w.putObj b (.loop r')) := by
 have hnl : n < st.heap.length := lk_lt (lkh hk)
 have hbl : b < w.heap.size := (Array.getElem?_eq_some_iff.1 hr).1
 have hlive : ∀ m, (lk (st.heap.set n (some (.lp k env s' j'))) m).isSome = (lk st.heap m).isSome := fun m => by
  by_cases e : m = n
  ·subst e; rw [lk_set_same hnl, hk]; rfl
  ·rw [lk_set_ne e]
 have he : ∀ q, okc ok w0.heap.size st.heap ρ q ↔ okc ok w0.heap.size (st.heap.set n (some (.lp k env s' j'))) ρ q := fun q => by
  unfold okc; simp only [hlive]
 have hne : ∀ q, okc ok w0.heap.size st.heap ρ q → q ≠ b := fun q hq e => hq.2 n (lkh hk) (.inl (by rw [hb, e]))
 have hx : ∀ N, Ext N (okc ok w0.heap.size st.heap ρ) (okc ok w0.heap.size (st.heap.set n (some (.lp k env s' j'))) ρ) ρ ρ w (w.putObj b (.loop r')) := fun N =>
  ⟨fun _ _ _ e => e, fun q _ hq => World.putObj_heap_other (hne q hq), fun q _ h => (he q).1 h, fun q _ => by
   by_cases e : q = b
   ·subst e; unfold World.roomOf; rw [World.putObj_heap_same hbl, hr]
   ·unfold World.roomOf; rw [World.putObj_heap_other e], Nat.le_of_eq World.putObj_size.symm⟩
 refine ⟨⟨hi.size, fun t ht => Ext.all_V hx hi.hv.lt (hi.env t ht), fun m c hm => ?_, fun m1 m2 q hm1 hm2 => ?_, fun m q hm => by rw [World.putObj_size]; exact hi.own m q hm, fun m hm => hi.fresh m (by simpa using hm), ?_⟩, hx _, ⟨fun _ _ => rfl, fun m _ hd => ?_, fun h => by simpa using h⟩⟩
 ·have hm : lk (st.heap.set n (some (.lp k env s' j'))) m = some c := hm
  by_cases e : m = n
  ·subst e
   rw [lk_set_same hnl] at hm
   injection hm with hm; subst hm
   obtain ⟨l1, l2, l3, l4, l5⟩ := hl
   exact ⟨b, r', hb, World.putObj_heap_same hbl, by rw [h1]; exact l1, fun t ht => by rw [h1]; exact Ext.all_V hx hi.hv.lt (l2 t ht), by rw [h3, h4, h5]; exact l3, h6, h7⟩
  ·rw [lk_set_ne e] at hm
   exact Ext.all_B hx hi.hv.lt (fun q hq => World.putObj_heap_other (fun e2 => e (hi.inj m n b (lkh hm) (lkh hk) (e2 ▸ hq) (.inl hb)))) has_keep (hi.heap m c hm)
 ·have hm1 : (lk (st.heap.set n (some (.lp k env s' j'))) m1).isSome = true := hm1
  have hm2 : (lk (st.heap.set n (some (.lp k env s' j'))) m2).isSome = true := hm2
  rw [hlive] at hm1 hm2
  exact hi.inj m1 m2 q hm1 hm2
 ·have hob := (hi.own n b (.inl hb)).1
  exact hi.below.trans ⟨rfl, rfl, rfl, Nat.le_of_eq World.putObj_size.symm, fun q hq => World.putObj_heap_other (by omega)⟩
 ·have := hlive m
  rw [hd] at this
  cases h : lk (st.heap.set n (some (.lp k env s' j'))) m with
  | none => rfl
  | some c => rw [h] at this; cases this

theorem setPs_ok : ∀ (ps : List Tmp) (as : List Arg) (xs : List Value) (env : List V) (tm : Array Value), ps.length = as.length → RAs cx ρ ok w as xs → tm.size = env.length → (∀ t, t < env.length → RV cx ρ ok w (env.getD t .any) (tm.getD t undef)) →
    ((ps.zip xs).foldl (fun (tm : Array Value) (p : Tmp × Value) => tm.setIfInBounds p.1 p.2) tm).size = (setPs ps as env).length ∧ ∀ t, t < (setPs ps as env).length → RV cx ρ ok w ((setPs ps as env).getD t .any) (((ps.zip xs).foldl (fun (tm : Array Value) (p : Tmp × Value) => tm.setIfInBounds p.1 p.2) tm).getD t undef)
 | [], as, xs, env, tm, hl, hr, hs, hv => by
  have : setPs [] as env = env := by cases as <;> rfl
  rw [this]
  exact ⟨hs, hv⟩
 | p :: ps, [], xs, env, tm, hl, hr, hs, hv => by cases hl
 | p :: ps, (g, cs) :: as, xs, env, tm, hl, hr, hs, hv => by
  cases xs with
  | nil => have := hr.1; cases this
  | cons x xs =>
   have hx : RA cx ρ ok w (g, cs) x := hr.2 0 (by simp)
   have hr' : RAs cx ρ ok w as xs := ⟨by have := hr.1; simpa using this, fun i hi => by simpa using hr.2 (i + 1) (by simpa using hi)⟩
   simp only [List.zip_cons_cons, List.foldl_cons, setPs]
   refine setPs_ok ps as xs _ _ (by simpa using hl) hr' (by simp [hs]) (fun t ht => ?_)
   have ht' : t < env.length := by simpa using ht
   by_cases e : p = t
   ·subst e
    have e1 : (env.set p (.v g cs)).getD p .any = .v g cs := by simp [List.getD_eq_getElem?_getD, ht']
    have e2 : (tm.setIfInBounds p x).getD p undef = x := by simp [hs, ht']
    rw [e1, e2]; exact hx
   ·have e1 : (env.set p (.v g cs)).getD t .any = env.getD t .any := by simp [List.getD_eq_getElem?_getD, List.getElem?_set, e]
    have e2 : (tm.setIfInBounds p x).getD t undef = tm.getD t undef := by simp [hs, ht', Array.getElem_setIfInBounds, e]
    rw [e1, e2]; exact hv t ht'

def RfB (cx : Cx) (B : Code → Prop) (G : RF → Prop) : Prop := ∀ k fid ps asg body, cx.rf k = some (fid, ps, asg, body) → ((∀ p ∈ loopsOf asg, B p) ∧ ∀ q ∈ rfsOf asg, G q) ∧ (∀ p ∈ loopsOf body, B p) ∧ ∀ q ∈ rfsOf body, G q

theorem evYld_ok {X : Type} {hd : Hd (Option X)} {B : Code → Prop} {G : RF → Prop} (hcx : CxOk P cx) (hga : GaOk P cx) (hH : HdOk P cx false hd B G) (hR : RfB cx B G) {n : Nat} {as : List Arg} {h : Heap} {K : List Arg → Heap → Option X} {x : X} (he : evYld cx hd none n as h K = some x) :
    ∃ rs h', YlSem P cx n as h rs h' ∧ K rs h' = some x := by
 unfold evYld at he
 split at he
 ·rename_i k env hlk
  split at he
  ·rename_i fid ps asg body hrf
   split at he
   ·rename_i hsz
    obtain ⟨⟨b1, b2⟩, b3, b4⟩ := hR _ _ _ _ _ hrf
    obtain ⟨e1, st1, l1, k1⟩ := code_adq hcx hga hH fid asg _ _ x b1 b2 he
    cases e1 with
    | exit id => cases k1
    | ret => cases k1
    | normal =>
     simp only at k1
     split at k1
     ·rename_i k2 env2 hlk2
      split at k1
      ·rename_i hkk
       subst hkk
       obtain ⟨e2, st2, l2, m2⟩ := code_adq hcx hga hH fid body _ _ x b3 b4 k1
       have fin : ∀ (jo : Option (Option Nat)) (jump : Option Code), jump = jOf jo → jump.isNone = jo.isNone → roundEnd n k2 K none st2 jo = some x →
           (∀ (P : Program) (l : Nat) (R : Ending → World → Prop) (a : Act) (w : World), (∃ v w', (Instr.endRound l jump).run P w = .ok v w' ∧ R (.returned v) w') → roundPost P l R (exOf e2) a w) → ∃ rs h', YlSem P cx n as h rs h' ∧ K rs h' = some x := fun jo jump hj hj2 hre hpost => by
        unfold roundEnd at hre
        split at hre
        ·rename_i k3 env3 hlk3
         split at hre
         ·rename_i hk3
          subst hk3
          have hc : ∀ w4 ok4, RD cx ok4 w4 (.sc (.bool jo.isNone)) (.bool jump.isNone) := fun _ _ => by rw [hj2]; exact RD.sc (.bool _)
          refine ⟨_, _, fun ok w0 ρ w xs b hi hxs hb => ?_, hre⟩
          have hnl : n < h.length := lk_lt (lkh hlk)
          obtain ⟨b', r, q1, q2, q3⟩ := hi.heap n _ hlk
          rw [hb] at q1; injection q1 with q1; subst q1
          obtain ⟨r1, r2, r3, r4, r5⟩ := q3
          obtain ⟨fid', r3⟩ := r3
          rw [hrf] at r3
          injection r3 with r3; injection r3 with r3a r3; injection r3 with r3b r3; injection r3 with r3c r3d
          have hys := run_yield (P := P) (args := xs.toArray) q2 (by rw [← r3b]; simp [hxs.1, hsz])
          refine ⟨r.fn, _, r.assign, r.body, hys, roundIn_of_wpIn (F := Fence.wide) trivial ?_⟩
          obtain ⟨z1, z2⟩ := setPs_ok ps.toList as xs env r.tmps (by simpa using hsz) hxs r1 r2
          have etm : (r.params.zip xs.toArray).foldl (fun tmps (x : Tmp × Value) => match x with | (t, a) => tmps.setIfInBounds t a) r.tmps = (ps.toList.zip xs).foldl (fun (tm : Array Value) (p : Tmp × Value) => tm.setIfInBounds p.1 p.2) r.tmps := by
           rw [← r3b, ← Array.foldl_toList]; simp
          have i0 : Inv cx ok w0 ρ ⟨setPs ps.toList as env, h, h.length⟩ { tmps := (ps.toList.zip xs).foldl (fun (tm : Array Value) (p : Tmp × Value) => tm.setIfInBounds p.1 p.2) r.tmps, defers := [] } w :=
           ⟨z1, z2, hi.heap, hi.inj, hi.own, hi.fresh, hi.below⟩
          have := l1.2 ok w0 ρ _ w (Exit.then (fun a₁ w₁ => ∃ w₂, (Instr.beginRound b).run P w₁ = .ok () w₂ ∧ body.wpIn (FW (some b)) 0 P (roundPost P b (fun e w' => ∃ x ρ', e = .returned x ∧ Goes ok w0.heap.size h.length ρ h w ρ' (st2.heap.set n (some (.lp k3 env3 (sOf jo) jo))) w' ∧ HInv cx ok w0 ρ' (st2.heap.set n (some (.lp k3 env3 (sOf jo) jo))) w' ∧ RV cx ρ' (okc ok w0.heap.size (st2.heap.set n (some (.lp k3 env3 (sOf jo) jo))) ρ') w' (valOf [(false, [.d (.sc (.bool jo.isNone))])]) x)) a₁ w₂) (fun _ _ _ => False)) i0 (Nat.le_refl _)
           (fun ρ1 a1 w1 i1 g1 _ => by
            have g1 : Goes ok w0.heap.size h.length ρ h w ρ1 st1.heap w1 := g1
            obtain ⟨b1', rr, t1, t2, t3⟩ := i1.heap n _ hlk2
            have hb1 : ρ1 n = some b := by rw [g1.grow.rho n hnl]; exact hb
            rw [hb1] at t1; injection t1 with t1; subst t1
            refine ⟨_, run_beginRound t2 t3.2.2.2.1, ?_⟩
            have fb1 : st1.fb = h.length := l1.1
            obtain ⟨i2, g2⟩ := lp_put (s' := 1) (j' := none) (r' := { rr with state := .busy }) i1 hlk2 hb1 t2 t3 rfl rfl rfl rfl rfl t3.2.2.2.2 h.length
            refine l2.2 ok w0 ρ1 a1 _ _ i2 (by show st1.fb ≤ (st1.heap.set n _).length; rw [List.length_set, fb1]; exact g1.grow.len (Nat.le_refl _)) (fun ρ3 a3 w3 i3 g3 _ => ?_) (some b) (by intro h; cases h)
            have g3 : Goes ok w0.heap.size st1.fb ρ1 (st1.heap.set n (some (.lp k3 env2 1 none))) (w1.putObj b (.loop { rr with state := .busy })) ρ3 st2.heap w3 := g3
            rw [fb1] at g3
            have hb3 : ρ3 n = some b := by rw [g3.grow.rho n hnl]; exact hb1
            obtain ⟨b3', r3', u1, u2, u3⟩ := i3.heap n _ hlk3
            rw [hb3] at u1; injection u1 with u1; subst u1
            refine hpost P b _ a3 w3 ⟨_, _, run_endRound jump u2, ?_⟩
            obtain ⟨i4, g4⟩ := lp_put (s' := sOf jo) (j' := jo) (r' := { r3' with state := if jump.isNone then .ready else .done, pending := jump }) i3 hlk3 hb3 u2 u3 rfl rfl rfl rfl (by cases jo <;> simp [hj2, lsOf, sOf]) hj h.length
            exact ⟨_, ρ3, rfl, ((g1.trans g2).trans g3).trans g4, i4.hv, ⟨_, rfl, hc _ _⟩⟩) (some b) (by intro h; cases h)
          rw [etm, ← r3c, ← r3d]
          exact this
         ·cases hre
        ·cases hre
       cases e2 with
       | normal => exact fin none none rfl rfl m2 (fun P l R a w h => h)
       | ret => exact fin (some none) (some .ret) rfl rfl m2 (fun P l R a w h => h)
       | exit id => exact fin (some (some id)) (some (.exit id)) rfl rfl m2 (fun P l R a w h => h)
      ·cases k1
     ·cases k1
   ·cases he
  ·cases he
 ·cases he
end

def PrB (P : Program) (cx : Cx) : Prop := ∀ f M fn as h rs h', cx.pr f = some M → FnOk P f fn → M as h = some (true, rs, h') → ClSem P cx fn f as h rs h'
theorem hdI_ok {X : Type} {P : Program} {cx : Cx} {L : Loops2} {inls : List (Nat × Func)} {B : Code → Prop} (hcx : CxOk P cx) (hga : GaOk P cx) (hR : RfB cx B (fun _ => True)) (hP : PrB P cx) (hi : ∀ p ∈ inls, FnOk P p.1 p.2 ∧ ∀ c, p.2.body = some c → ∀ b ∈ loopsOf c, B b)
    (h : ∀ body T, B body → L (firstReg body) = some T → LoopOk P cx body T) : ∀ n, HdOk (X := X) P cx false (hdI cx L inls none n) B (fun _ => True)
 | 0 => by
  refine ⟨(by intro _ _ _ _ _ _ h; cases h), fun f body hs base st K x hB he => ?_, (by intro _ _ _ _ _ _ h; cases h)⟩
  simp only [hdI] at he
  split at he
  ·rename_i T hT
   obtain ⟨e, st', h1, h2⟩ := Tree.run_eval he
   exact ⟨e, st', h body T hB hT st e st' h1, h2⟩
  ·cases he
 | n + 1 => by
  refine ⟨fun fn f as hp K x he => ?_, fun f body hs base st K x hB he => ?_, (by intro _ _ _ _ _ _ h; cases h)⟩
  ·simp only [hdI] at he
   split at he
   ·rename_i hbody
    obtain ⟨rs, h', h1, h2⟩ := evYld_ok hcx hga (hdI_ok hcx hga hR hP hi h n) hR he
    refine ⟨rs, h', ?_, h2⟩
    unfold ClSem; rw [hbody]; exact h1
   ·rename_i c0 hbody
    split at he
    ·rename_i M hM
     split at he
     ·rename_i b rs h' hm
      cases b with
      | false => cases he
      | true => exact ⟨rs, h', ClSem.of hbody fun hfn => (hP f M fn as hp rs h' hM hfn hm).fn hfn, he⟩
     ·cases he
    ·split at he
     ·rename_i fn' hf
      obtain ⟨q1, q2⟩ := hi _ (find_mem _ _ _ hf)
      obtain ⟨rs, h', h1, h2⟩ := fun_adq hcx hga (hdI_ok hcx hga hR hP hi h n) (fun c hc => ⟨q2 c hc, fun _ _ => trivial⟩) he
      refine ⟨rs, h', ClSem.of hbody fun hfn => ?_, h2⟩
      have : fn = fn' := by have a := hfn.at_; rw [q1.at_] at a; injection a with a; exact a.symm
      subst this
      exact h1.fn hfn
     ·cases he
  ·simp only [hdI] at he
   split at he
   ·rename_i T hT
    obtain ⟨e, st', h1, h2⟩ := Tree.run_eval he
    exact ⟨e, st', h body T hB hT st e st' h1, h2⟩
   ·cases he

def mkCx2 (tab : List (Option TI)) (gas : List (Nat × Con)) (invs : List (String × Con)) (hints : List (Nat × Nat × Hint)) (inls : List (Nat × Func)) : Cx :=
 { tt := fun T => tab.getD T none, ga := find gas, inl := find inls, inv := findS invs,
   hint := fun f r => match hints.find? (fun h => h.1 == f && h.2.1 == r) with
    | some h => h.2.2
    | none => { keep := [], acc := [] }
   wide := hints.any fun h => h.1 == 999999 }
theorem rfB_none {tab : List (Option TI)} {gas : List (Nat × Con)} {invs : List (String × Con)} {hints : List (Nat × Nat × Hint)} {inls : List (Nat × Func)} {B : Code → Prop} : RfB (mkCx2 tab gas invs hints inls) B (fun _ => True) := by intro _ _ _ _ _ h; cases h
theorem prB_none {P : Program} {tab : List (Option TI)} {gas : List (Nat × Con)} {invs : List (String × Con)} {hints : List (Nat × Nat × Hint)} {inls : List (Nat × Func)} : PrB P (mkCx2 tab gas invs hints inls) := by intro f M fn as h rs h' hm; cases hm
structure Ready (P : Program) (tab : List (Option TI)) (gas : List (Nat × Con)) (invs : List (String × Con)) (inls : List (Nat × Func)) : Prop where
 ga : ∀ p ∈ gas, Stands P tab p.1 p.2
 inv : ∀ p ∈ invs, StandsI P tab p.1 p.2
 inl : ∀ p ∈ inls, FnOk P p.1 p.2
theorem Ready.gaOk {P : Program} {tab : List (Option TI)} {gas : List (Nat × Con)} {invs : List (String × Con)} {inls : List (Nat × Func)} {hints : List (Nat × Nat × Hint)} (h : Ready P tab gas invs inls) : GaOk P (mkCx2 tab gas invs hints inls) :=
 ⟨fun f G hG => EntOk.tt (cx := mkCx tab [] [] []) (cx' := mkCx2 tab gas invs hints inls) rfl (h.ga (f, G) (find_mem _ _ _ hG)), fun m G hG => EntOk.tt (cx := mkCx tab [] [] []) (cx' := mkCx2 tab gas invs hints inls) rfl (h.inv (m, G) (findS_mem _ _ _ hG)), fun f fn hf => h.inl (f, fn) (find_mem _ _ _ hf)⟩

def loopsIn (fn : Func) (inls : List (Nat × Func)) : List Code := (match fn.body with | some c => loopsOf c | none => []) ++ (inls.map fun p => match p.2.body with | some c => loopsOf c | none => []).flatten

def loopsAll : Code → List Code
 | .loop p => p :: loopsAll p
 | .seq a b | .cond _ a b => loopsAll a ++ loopsAll b
 | .block _ a | .scope a => loopsAll a
 | _ => []
def loopBy (fn : Func) (r : Nat) : Code := match fn.body with
 | some c => ((loopsAll c).find? fun b => firstReg b == r).getD .skip
 | none => .skip
def loopsInl (inls : List (Nat × Func)) : List Code := (inls.map fun p => match p.2.body with | some c => loopsOf c | none => []).flatten

theorem loop_ok2 {V : Type} {P : Program} {tab : List (Option TI)} {gas : List (Nat × Con)} {invs : List (String × Con)} {hints : List (Nat × Nat × Hint)} {inls : List (Nat × Func)} {L : Loops2} {n : Nat} (hcx : CxOk P (mkCx2 tab gas invs hints inls)) (h : Ready P tab gas invs inls)
    {f : FuncId} {body : Code} {Bs : List Code} (hB : loopsOf body ++ loopsInl inls = Bs) (hL : ∀ b ∈ Bs, ∀ T, L (firstReg b) = some T → LoopOk P (mkCx2 tab gas invs hints inls) b T)
    {hs : List Nat} {base : Nat} {keepX : List Nat} {mk : V → St} {ex : Nat → V → Ex × St} {r : V → Option (Option Nat × V)}
    (hr : ∀ v, round2 (mkCx2 tab gas invs hints inls) (hdI (mkCx2 tab gas invs hints inls) L inls none n) f body hs base keepX (mk v) = (r v).map (roundOut mk ex)) (hx : ∀ j v, exOk (ex j v).1 = true) :
    ∀ v j v', Lp r v = some (j, v') → Circles P (mkCx2 tab gas invs hints inls) body (mk v) (ex j v').1 (ex j v').2 := by
 refine loop_win hcx h.gaOk (hdI_ok (B := fun b => b ∈ Bs) hcx h.gaOk rfB_none prB_none (fun p hp => ⟨h.inl p hp, fun c hc b hb => ?_⟩) (fun b T hb hT => hL b hb T hT) n) ⟨fun p hp => ?_, fun _ _ => trivial⟩ hr hx
 ·rw [← hB]
  refine List.mem_append.2 (.inr (List.mem_flatten.2 ⟨loopsOf c, ?_, hb⟩))
  refine List.mem_map.2 ⟨p, hp, ?_⟩
  rw [hc]
 ·rw [← hB]
  exact List.mem_append.2 (.inl hp)

theorem win {T : Type} {o : Option T} {ret : Bool → T → Ret} {E : Option Ret} (d : T) (h : E = o.map (ret true)) (hok : o.isSome = true) : E = some (ret true (o.getD d)) := by
 cases o with
 | none => cases hok
 | some x => exact h

theorem noneI2 {P : Program} {tab : List (Option TI)} : ∀ p ∈ ([] : List (String × Con)), StandsI P tab p.1 p.2 := fun p hp => by cases hp
theorem noneG2 {P : Program} {tab : List (Option TI)} : ∀ p ∈ ([] : List (Nat × Con)), Stands P tab p.1 p.2 := fun p hp => by cases hp
theorem noneF2 {P : Program} : ∀ p ∈ ([] : List (Nat × Func)), FnOk P p.1 p.2 := fun p hp => by cases hp
theorem consG2 {P : Program} {tab : List (Option TI)} {f : Nat} {G : Con} {l : List (Nat × Con)} (h : Stands P tab f G) (hl : ∀ p ∈ l, Stands P tab p.1 p.2) : ∀ p ∈ (f, G) :: l, Stands P tab p.1 p.2 := fun p hp => by
 rcases List.mem_cons.1 hp with rfl | hp
 ·exact h
 ·exact hl p hp
theorem consI2 {P : Program} {tab : List (Option TI)} {f : String} {G : Con} {l : List (String × Con)} (h : StandsI P tab f G) (hl : ∀ p ∈ l, StandsI P tab p.1 p.2) : ∀ p ∈ (f, G) :: l, StandsI P tab p.1 p.2 := fun p hp => by
 rcases List.mem_cons.1 hp with rfl | hp
 ·exact h
 ·exact hl p hp
theorem consF2 {P : Program} {f : Nat} {fn : Func} {l : List (Nat × Func)} (h : FnOk P f fn) (hl : ∀ p ∈ l, FnOk P p.1 p.2) : ∀ p ∈ (f, fn) :: l, FnOk P p.1 p.2 := fun p hp => by
 rcases List.mem_cons.1 hp with rfl | hp
 ·exact h
 ·exact hl p hp
theorem nilB {P : Program} {cx : Cx} {L : Loops2} : ∀ b ∈ ([] : List Code), ∀ T, L (firstReg b) = some T → LoopOk P cx b T := fun b hb => by cases hb
theorem consB {P : Program} {cx : Cx} {L : Loops2} {b : Code} {l : List Code} (h : ∀ T, L (firstReg b) = some T → LoopOk P cx b T) (hl : ∀ b ∈ l, ∀ T, L (firstReg b) = some T → LoopOk P cx b T) : ∀ c ∈ b :: l, ∀ T, L (firstReg c) = some T → LoopOk P cx c T := fun c hc => by
 rcases List.mem_cons.1 hc with rfl | hc
 ·exact h
 ·exact hl c hc
end Go.Eng
/- Arguments that can be read are opened: what they hold, as the evaluator has it. -/
set_option linter.unusedVariables false
set_option linter.unusedSimpArgs false
namespace Go.Eng
open Go Go.RowKit

inductive KD where
 | int (k : IntKind) | bool | str | sl (t : ET) | no
 deriving DecidableEq
def kd : D → KD
 | .sc (.int k _) => .int k
 | .sc (.bool _) => .bool
 | .sc (.str _) => .str
 | .sl _ _ t _ => .sl t
 | _ => .no

def wfI (n : Int) : Prop := -9223372036854775808 ≤ n ∧ n ≤ 9223372036854775807
def wfU (n : Int) : Prop := 0 ≤ n ∧ n ≤ 18446744073709551615
def wfS (s : ByteArray) : Prop := s.size ≤ maxLen
def wfL {α : Type} (p : α → Prop) (l : List α) : Prop := l.length ≤ maxLen ∧ ∀ x ∈ l, p x
def wfMat (m : Mat) : Prop := wfI m.start ∧ wfI m.fin ∧ wfI m.agg
def wfRun (r : Run) : Prop := wfI r.first ∧ wfI r.at_ ∧ wfI r.step ∧ wfI r.n ∧ wfI r.many ∧ wfI r.agg
def wfPass (p : Pass) : Prop := wfU p.token ∧ wfI p.sess ∧ wfI p.conn ∧ wfI p.off
def wfVal (v : Val) : Prop := wfI v.kind ∧ wfI v.n ∧ wfS v.s
def wfOpn (o : Opn) : Prop := wfI o.code ∧ wfI o.arg ∧ wfVal o.v
def wfStep (x : Step) : Prop := wfS x.name ∧ wfL wfOpn x.ifs ∧ wfI x.min ∧ wfI x.max ∧ wfS x.notName ∧ wfL wfOpn x.notIf
def wfEvt (e : Evt) : Prop := wfS e.name ∧ wfI e.at_ ∧ wfL wfVal e.v
def wfPred (p : Pred) : Prop := wfS p.name ∧ wfL wfOpn p.ifs
def wfQuery (q : Query) : Prop := wfL wfStep q.steps ∧ wfI q.within ∧ wfI q.agg ∧ wfI q.aggStep ∧ wfI q.aggF
def wfTy : (t : ET) → Ty t → Prop
 | .mat => wfMat | .run => wfRun | .pass => wfPass | .val => wfVal | .op => wfOpn | .step => wfStep | .evt => wfEvt | .pred => wfPred | .query => wfQuery
 | .int => wfI | .bool => fun _ => True | .thing => fun _ => True
def wfD : D → Prop
 | .sc (.int k n) => (Lit.int k n).wf = true
 | .sc (.str s) => wfS s
 | .sl _ _ t l => wfL (wfTy t) l
 | _ => True
def flagsD : D → Prop
 | .sl nl full _ _ => nl.isSome = true ∧ full = false
 | _ => True

theorem wfI_of {n : Int} (h : (Lit.int .i64 n).wf = true) : wfI n := by
 simp only [Lit.wf, Bool.and_eq_true, decide_eq_true_eq] at h
 exact h
theorem wfU_of {n : Int} (h : (Lit.int .u64 n).wf = true) : wfU n := by
 simp only [Lit.wf, Bool.and_eq_true, decide_eq_true_eq] at h
 exact h

theorem kd_int {d : D} {k : IntKind} (h : kd d = .int k) : ∃ n, d = .sc (.int k n) := by
 unfold kd at h
 split at h <;> first | (injection h with h; subst h; exact ⟨_, rfl⟩) | (cases h; done)
theorem kd_bool {d : D} (h : kd d = .bool) : ∃ b, d = .sc (.bool b) := by
 unfold kd at h
 split at h <;> first | exact ⟨_, rfl⟩ | (cases h; done)
theorem kd_str {d : D} (h : kd d = .str) : ∃ s, d = .sc (.str s) := by
 unfold kd at h
 split at h <;> first | exact ⟨_, rfl⟩ | (cases h; done)
theorem kd_sl {d : D} {t : ET} (h : kd d = .sl t) : ∃ nl full l, d = .sl nl full t l := by
 unfold kd at h
 split at h <;> first | (injection h with h; subst h; exact ⟨_, _, _, rfl⟩) | (cases h; done)
theorem map_cons {ds : List D} {k : KD} {ks : List KD} (h : ds.map kd = k :: ks) : ∃ d r, ds = d :: r ∧ kd d = k ∧ r.map kd = ks := by
 cases ds with
 | nil => cases h
 | cons d r => simp only [List.map_cons, List.cons.injEq] at h; exact ⟨d, r, rfl, h.1, h.2⟩
theorem map_nil {ds : List D} (h : ds.map kd = []) : ds = [] := by simpa using h

theorem el_of : ∀ (t : ET) (ds : List D), t ≠ .thing → ds.map kd = (enc t (dflt t)).map kd → (∀ d ∈ ds, wfD d) → ∃ x : Ty t, wfTy t x ∧ enc t x = ds.map weak
 | .mat, ds, _, h, hw => by
  obtain ⟨d1, r1, rfl, h1, h⟩ := map_cons h; obtain ⟨d2, r2, rfl, h2, h⟩ := map_cons h; obtain ⟨d3, r3, rfl, h3, h⟩ := map_cons h; obtain ⟨d4, r4, rfl, h4, h⟩ := map_cons h
  obtain rfl := map_nil h
  obtain ⟨a, rfl⟩ := kd_int h1; obtain ⟨b, rfl⟩ := kd_int h2; obtain ⟨c, rfl⟩ := kd_int h3; obtain ⟨d, rfl⟩ := kd_bool h4
  exact ⟨(⟨a, b, c, d⟩ : Mat), ⟨wfI_of (hw (.sc (.int .i64 a)) (by simp)), wfI_of (hw (.sc (.int .i64 b)) (by simp)), wfI_of (hw (.sc (.int .i64 c)) (by simp))⟩, rfl⟩
 | .run, ds, _, h, hw => by
  obtain ⟨d1, r1, rfl, h1, h⟩ := map_cons h; obtain ⟨d2, r2, rfl, h2, h⟩ := map_cons h; obtain ⟨d3, r3, rfl, h3, h⟩ := map_cons h; obtain ⟨d4, r4, rfl, h4, h⟩ := map_cons h
  obtain ⟨d5, r5, rfl, h5, h⟩ := map_cons h; obtain ⟨d6, r6, rfl, h6, h⟩ := map_cons h; obtain ⟨d7, r7, rfl, h7, h⟩ := map_cons h
  obtain rfl := map_nil h
  obtain ⟨a, rfl⟩ := kd_int h1; obtain ⟨b, rfl⟩ := kd_int h2; obtain ⟨c, rfl⟩ := kd_int h3; obtain ⟨d, rfl⟩ := kd_int h4; obtain ⟨e, rfl⟩ := kd_int h5; obtain ⟨f, rfl⟩ := kd_int h6; obtain ⟨g, rfl⟩ := kd_bool h7
  exact ⟨(⟨a, b, c, d, e, f, g⟩ : Run), ⟨wfI_of (hw (.sc (.int .i64 a)) (by simp)), wfI_of (hw (.sc (.int .i64 b)) (by simp)), wfI_of (hw (.sc (.int .i64 c)) (by simp)), wfI_of (hw (.sc (.int .i64 d)) (by simp)), wfI_of (hw (.sc (.int .i64 e)) (by simp)), wfI_of (hw (.sc (.int .i64 f)) (by simp))⟩, rfl⟩
 | .pass, ds, _, h, hw => by
  obtain ⟨d1, r1, rfl, h1, h⟩ := map_cons h; obtain ⟨d2, r2, rfl, h2, h⟩ := map_cons h; obtain ⟨d3, r3, rfl, h3, h⟩ := map_cons h; obtain ⟨d4, r4, rfl, h4, h⟩ := map_cons h
  obtain rfl := map_nil h
  obtain ⟨a, rfl⟩ := kd_int h1; obtain ⟨b, rfl⟩ := kd_int h2; obtain ⟨c, rfl⟩ := kd_int h3; obtain ⟨d, rfl⟩ := kd_int h4
  exact ⟨(⟨a, b, c, d⟩ : Pass), ⟨wfU_of (hw (.sc (.int .u64 a)) (by simp)), wfI_of (hw (.sc (.int .i64 b)) (by simp)), wfI_of (hw (.sc (.int .i64 c)) (by simp)), wfI_of (hw (.sc (.int .i64 d)) (by simp))⟩, rfl⟩
 | .val, ds, _, h, hw => by
  obtain ⟨d1, r1, rfl, h1, h⟩ := map_cons h; obtain ⟨d2, r2, rfl, h2, h⟩ := map_cons h; obtain ⟨d3, r3, rfl, h3, h⟩ := map_cons h
  obtain rfl := map_nil h
  obtain ⟨a, rfl⟩ := kd_int h1; obtain ⟨b, rfl⟩ := kd_int h2; obtain ⟨c, rfl⟩ := kd_str h3
  exact ⟨(⟨a, b, c⟩ : Val), ⟨wfI_of (hw (.sc (.int .i64 a)) (by simp)), wfI_of (hw (.sc (.int .i64 b)) (by simp)), hw (.sc (.str c)) (by simp)⟩, rfl⟩
 | .op, ds, _, h, hw => by
  obtain ⟨d1, r1, rfl, h1, h⟩ := map_cons h; obtain ⟨d2, r2, rfl, h2, h⟩ := map_cons h; obtain ⟨d3, r3, rfl, h3, h⟩ := map_cons h; obtain ⟨d4, r4, rfl, h4, h⟩ := map_cons h; obtain ⟨d5, r5, rfl, h5, h⟩ := map_cons h
  obtain rfl := map_nil h
  obtain ⟨a, rfl⟩ := kd_int h1; obtain ⟨b, rfl⟩ := kd_int h2; obtain ⟨c, rfl⟩ := kd_int h3; obtain ⟨d, rfl⟩ := kd_int h4; obtain ⟨e, rfl⟩ := kd_str h5
  exact ⟨(⟨a, b, ⟨c, d, e⟩⟩ : Opn), ⟨wfI_of (hw (.sc (.int .i64 a)) (by simp)), wfI_of (hw (.sc (.int .i64 b)) (by simp)), wfI_of (hw (.sc (.int .i64 c)) (by simp)), wfI_of (hw (.sc (.int .i64 d)) (by simp)), hw (.sc (.str e)) (by simp)⟩, rfl⟩
 | .step, ds, _, h, hw => by
  obtain ⟨d1, r1, rfl, h1, h⟩ := map_cons h; obtain ⟨d2, r2, rfl, h2, h⟩ := map_cons h; obtain ⟨d3, r3, rfl, h3, h⟩ := map_cons h; obtain ⟨d4, r4, rfl, h4, h⟩ := map_cons h
  obtain ⟨d5, r5, rfl, h5, h⟩ := map_cons h; obtain ⟨d6, r6, rfl, h6, h⟩ := map_cons h; obtain ⟨d7, r7, rfl, h7, h⟩ := map_cons h
  obtain rfl := map_nil h
  obtain ⟨a, rfl⟩ := kd_str h1; obtain ⟨n1, f1, b, rfl⟩ := kd_sl h2; obtain ⟨c, rfl⟩ := kd_int h3; obtain ⟨d, rfl⟩ := kd_int h4; obtain ⟨e, rfl⟩ := kd_bool h5; obtain ⟨f, rfl⟩ := kd_str h6; obtain ⟨n2, f2, g, rfl⟩ := kd_sl h7
  exact ⟨(⟨a, b, c, d, e, f, g⟩ : Step), ⟨hw (.sc (.str a)) (by simp), hw (.sl n1 f1 .op b) (by simp), wfI_of (hw (.sc (.int .i64 c)) (by simp)), wfI_of (hw (.sc (.int .i64 d)) (by simp)), hw (.sc (.str f)) (by simp), hw (.sl n2 f2 .op g) (by simp)⟩, rfl⟩
 | .evt, ds, _, h, hw => by
  obtain ⟨d1, r1, rfl, h1, h⟩ := map_cons h; obtain ⟨d2, r2, rfl, h2, h⟩ := map_cons h; obtain ⟨d3, r3, rfl, h3, h⟩ := map_cons h
  obtain rfl := map_nil h
  obtain ⟨a, rfl⟩ := kd_str h1; obtain ⟨b, rfl⟩ := kd_int h2; obtain ⟨n1, f1, c, rfl⟩ := kd_sl h3
  exact ⟨(⟨a, b, c⟩ : Evt), ⟨hw (.sc (.str a)) (by simp), wfI_of (hw (.sc (.int .i64 b)) (by simp)), hw (.sl n1 f1 .val c) (by simp)⟩, rfl⟩
 | .pred, ds, _, h, hw => by
  obtain ⟨d1, r1, rfl, h1, h⟩ := map_cons h; obtain ⟨d2, r2, rfl, h2, h⟩ := map_cons h
  obtain rfl := map_nil h
  obtain ⟨a, rfl⟩ := kd_str h1; obtain ⟨n1, f1, c, rfl⟩ := kd_sl h2
  exact ⟨(⟨a, c⟩ : Pred), ⟨hw (.sc (.str a)) (by simp), hw (.sl n1 f1 .op c) (by simp)⟩, rfl⟩
 | .query, ds, _, h, hw => by
  obtain ⟨d1, r1, rfl, h1, h⟩ := map_cons h; obtain ⟨d2, r2, rfl, h2, h⟩ := map_cons h; obtain ⟨d3, r3, rfl, h3, h⟩ := map_cons h; obtain ⟨d4, r4, rfl, h4, h⟩ := map_cons h; obtain ⟨d5, r5, rfl, h5, h⟩ := map_cons h
  obtain rfl := map_nil h
  obtain ⟨n1, f1, a, rfl⟩ := kd_sl h1; obtain ⟨b, rfl⟩ := kd_int h2; obtain ⟨c, rfl⟩ := kd_int h3; obtain ⟨d, rfl⟩ := kd_int h4; obtain ⟨e, rfl⟩ := kd_int h5
  exact ⟨(⟨a, b, c, d, e⟩ : Query), ⟨hw (.sl n1 f1 .step a) (by simp), wfI_of (hw (.sc (.int .i64 b)) (by simp)), wfI_of (hw (.sc (.int .i64 c)) (by simp)), wfI_of (hw (.sc (.int .i64 d)) (by simp)), wfI_of (hw (.sc (.int .i64 e)) (by simp))⟩, rfl⟩
 | .int, ds, _, h, hw => by
  obtain ⟨d1, r1, rfl, h1, h⟩ := map_cons h
  obtain rfl := map_nil h
  obtain ⟨a, rfl⟩ := kd_int h1
  exact ⟨(a : Int), wfI_of (hw (.sc (.int .i64 a)) (by simp)), rfl⟩
 | .bool, ds, _, h, hw => by
  obtain ⟨d1, r1, rfl, h1, h⟩ := map_cons h
  obtain rfl := map_nil h
  obtain ⟨a, rfl⟩ := kd_bool h1
  exact ⟨(a : Bool), trivial, rfl⟩
 | .thing, ds, ht, _, _ => absurd rfl ht

def opFs (P : Program) (rec : TypeId → List D → Bool) : List Field → Nat → List D → Bool
 | [], _, z => z.isEmpty
 | f :: fs, off, z => f.offset == off && decide (P.cellsOf f.type ≤ z.length) && rec f.type (z.take (P.cellsOf f.type)) && opFs P rec fs (off + P.cellsOf f.type) (z.drop (P.cellsOf f.type))
def opC (P : Program) : Nat → TypeId → List D → Bool
 | 0, _, _ => false
 | d + 1, T, z => match P.underlying T, z with
  | some (.int k), [.sc (.int k' _)] => decide (k = k')
  | some .bool, [.sc (.bool _)] => true
  | some .string, [.sc (.str _)] => true
  | some (.slice e), [.sl _ _ t _] => P.cellsOf e == width t && decide (t ≠ .thing) && opC P d e (enc t (dflt t))
  | some (.struct fs), z => P.cellsOf T == z.length && opFs P (opC P d) fs.toList 0 z
  | _, _ => false

section
variable {H : Type} {enc' : TypeId × Value → H} {P : Program} {cx : Cx} {w : World} {sp : Nat → Bool} {held : Bool}

abbrev RDs (cx : Cx) (w : World) (ds : List D) (cs : List Value) : Prop := cs.length = ds.length ∧ ∀ j, j < ds.length → RD cx (fun _ => True) w (ds.getD j .nils) (cs.getD j undef)

theorem exists_list {α : Type} {p : Nat → α → Prop} : ∀ (n : Nat), (∀ i, i < n → ∃ x, p i x) → ∃ l : List α, l.length = n ∧ ∀ i (d : α), i < n → p i (l.getD i d)
 | 0, _ => ⟨[], rfl, fun i _ h => by omega⟩
 | n + 1, h => by
  obtain ⟨l, h1, h2⟩ := exists_list n (fun i hi => h i (by omega))
  obtain ⟨x, hx⟩ := h n (by omega)
  refine ⟨l ++ [x], by simp [h1], fun i d hi => ?_⟩
  by_cases hin : i < n
  ·rw [List.getD_eq_getElem?_getD, List.getElem?_append_left (by omega), ← List.getD_eq_getElem?_getD]; exact h2 i d hin
  ·have : i = n := by omega
   subst this
   rw [List.getD_eq_getElem?_getD, List.getElem?_append_right (by omega), h1]
   simpa using hx

theorem mapM_at {α β : Type} {f : α → Option β} : ∀ {l : List α} {r : List β}, l.mapM f = some r → r.length = l.length ∧ ∀ i (h : i < l.length), ∃ y, f l[i] = some y
 | [], r, h => by
  simp at h; subst h; exact ⟨rfl, fun i hi => by simp at hi⟩
 | x :: l, r, h => by
  rw [List.mapM_cons] at h
  cases hx : f x with
  | none => rw [hx] at h; cases h
  | some y =>
   rw [hx] at h
   cases hl : l.mapM f with
   | none => rw [hl] at h; cases h
   | some ys =>
    rw [hl] at h
    obtain ⟨h1, h2⟩ := mapM_at hl
    injection h with h; subst h
    refine ⟨by simp [h1], fun i hi => ?_⟩
    cases i with
    | zero => exact ⟨y, hx⟩
    | succ i => exact h2 i (by simpa using hi)

theorem RDs_append {d1 d2 : List D} {c1 c2 : List Value} (h1 : RDs cx w d1 c1) (h2 : RDs cx w d2 c2) : RDs cx w (d1 ++ d2) (c1 ++ c2) := by
 refine ⟨by simp [h1.1, h2.1], fun j hj => ?_⟩
 by_cases hj1 : j < d1.length
 ·rw [List.getD_eq_getElem?_getD, List.getD_eq_getElem?_getD, List.getElem?_append_left hj1, List.getElem?_append_left (by rw [h1.1]; exact hj1), ← List.getD_eq_getElem?_getD, ← List.getD_eq_getElem?_getD]
  exact h1.2 j hj1
 ·rw [List.getD_eq_getElem?_getD, List.getD_eq_getElem?_getD, List.getElem?_append_right (by omega), List.getElem?_append_right (by rw [h1.1]; omega), ← List.getD_eq_getElem?_getD, ← List.getD_eq_getElem?_getD, h1.1]
  exact h2.2 _ (by simp at hj; omega)

theorem open_fs {rec : TypeId → List D → Bool} {fuel : Nat}
    (hrec : ∀ T z cs x, rec T z = true → DataW.trod enc' P w 0 sp held fuel T cs = some x → ∃ ds : List D, ds.map kd = z.map kd ∧ (∀ d ∈ ds, wfD d) ∧ (∀ d ∈ ds, flagsD d) ∧ RDs cx w ds cs) :
    ∀ (fs : List Field) (off : Nat) (z : List D) (cs : List Value), opFs P rec fs off z = true → cs.length = off + z.length →
     (∀ f ∈ fs, ∃ x, DataW.trod enc' P w 0 sp held fuel f.type ((cs.drop f.offset).take (P.cellsOf f.type)) = some x) →
     ∃ ds : List D, ds.map kd = z.map kd ∧ (∀ d ∈ ds, wfD d) ∧ (∀ d ∈ ds, flagsD d) ∧ RDs cx w ds (cs.drop off)
 | [], off, z, cs, h, hl, _ => by
  simp only [opFs, List.isEmpty_iff] at h
  subst h
  simp only [List.length_nil, Nat.add_zero] at hl
  exact ⟨[], rfl, (by intro d hd; cases hd), (by intro d hd; cases hd), by rw [List.drop_eq_nil_of_le (by omega)]; rfl, fun j hj => by simp at hj⟩
 | f :: fs, off, z, cs, h, hl, hm => by
  simp only [opFs, Bool.and_eq_true, beq_iff_eq, decide_eq_true_eq] at h
  obtain ⟨⟨⟨ho, hle⟩, h1⟩, h2⟩ := h
  obtain ⟨y, hx⟩ := hm f List.mem_cons_self
  obtain ⟨d1, k1, w1, g1, r1⟩ := hrec _ _ _ _ h1 hx
  obtain ⟨d2, k2, w2, g2, r2⟩ := open_fs hrec fs (off + P.cellsOf f.type) (z.drop (P.cellsOf f.type)) cs h2 (by rw [List.length_drop]; omega) (fun f hf => hm f (List.mem_cons_of_mem _ hf))
  refine ⟨d1 ++ d2, ?_, fun d hd => (List.mem_append.1 hd).elim (w1 d) (w2 d), fun d hd => (List.mem_append.1 hd).elim (g1 d) (g2 d), ?_⟩
  ·rw [List.map_append, k1, k2, ← List.map_append, List.take_append_drop]
  ·have := RDs_append r1 r2
   rw [ho] at this
   rw [← List.drop_drop, List.take_append_drop] at this
   exact this

theorem add_none {a : Addr} (h : a.spot = none) (n : Nat) : a.add n = ⟨a.block, a.off + n, none⟩ := by
 unfold Addr.add
 split
 ·rename_i e; subst e; cases a; simp at h; subst h; rfl
 ·rfl

theorem map_getD_kd {ds : List D} (j : Nat) : (ds.map weak).getD j .nils = weak (ds.getD j .nils) := by
 rw [List.getD_eq_getElem?_getD, List.getElem?_map, List.getD_eq_getElem?_getD]
 cases ds[j]? <;> rfl

theorem open_ty : ∀ (d fuel : Nat) (T : TypeId) (z : List D) (cs : List Value) (x : DataW H × List MemPlace), opC P d T z = true → DataW.trod enc' P w 0 sp held fuel T cs = some x →
    ∃ ds : List D, ds.map kd = z.map kd ∧ (∀ d ∈ ds, wfD d) ∧ (∀ d ∈ ds, flagsD d) ∧ RDs cx w ds cs
 | 0, _, _, _, _, _, h, _ => by cases h
 | d + 1, 0, _, _, _, _, _, ht => by cases ht
 | d + 1, fuel + 1, T, z, cs, x, h, ht => by
  have one : ∀ (y : D) (v : Value), RD cx (fun _ => True) w y v → RDs cx w [y] [v] := fun y v hy => ⟨rfl, fun j hj => by
   have : j = 0 := by simp at hj; omega
   subst this; exact hy⟩
  unfold opC at h
  split at h
  ·rename_i k k' n hu
   simp only [decide_eq_true_eq] at h; subst h
   obtain ⟨m, rfl, _, hw⟩ := DataW.trod_int hu ht
   exact ⟨[.sc (.int k m)], rfl, by simpa [wfD] using hw, by simp [flagsD], one _ _ (.sc (.int k m))⟩
  ·rename_i b hu
   obtain ⟨b', rfl, _⟩ := DataW.trod_bool hu ht
   exact ⟨[.sc (.bool b')], rfl, by simp [wfD], by simp [flagsD], one _ _ (.sc (.bool b'))⟩
  ·rename_i s hu
   obtain ⟨s', rfl, _, hw⟩ := DataW.trod_string hu ht
   exact ⟨[.sc (.str s')], rfl, by simpa [wfD, wfS] using hw, by simp [flagsD], one _ _ (.sc (.str s'))⟩
  ·rename_i e nl full t l hu
   simp only [Bool.and_eq_true, beq_iff_eq, decide_eq_true_eq] at h
   obtain ⟨⟨hce, hne⟩, hrec⟩ := h
   rcases DataW.trod_slice hu ht with ⟨rfl, _⟩ | ⟨a, len, cap, es, rest, n, hfu, rfl, _, _, hlc, hcm, hel, hat', _⟩
   ·exact ⟨[.sl (some true) false t []], rfl, by simp [wfD, wfL], by simp [flagsD], one _ _ (.sl0 _ _ _ _ _ (fun _ => rfl) (fun h => by cases h) (fun h => by cases h) (fun _ => rfl))⟩
   ·injection hfu with hfu; subst hfu
    have hat : ∀ i, i < len → ∃ y, (w.cells? 0 (a.add (i * P.cellsOf e)) (P.cellsOf e)).bind (DataW.trod enc' P w 0 sp held fuel e) = some y := fun i hi => by
     rw [hat' i hi]; exact ⟨es[i], List.getElem?_eq_getElem (by omega)⟩
    clear ht hat'
    by_cases hlen : len = 0
    ·subst hlen
     exact ⟨[.sl (some false) false t []], rfl, by simp [wfD, wfL], by simp [flagsD], one _ _ (.sl0 _ _ _ _ _ (fun h => by cases h) (fun _ h => by cases h) (fun h => by cases h) (fun h => by cases h))⟩
    ·have spot : a.spot = none := by
       obtain ⟨y, hy⟩ := hat 0 (by omega)
       simp only [Nat.zero_mul] at hy
       cases hc : w.cells? 0 (a.add 0) (P.cellsOf e) with
       | none => rw [hc] at hy; cases hy
       | some row =>
        unfold World.cells? at hc
        rw [if_pos (Nat.zero_le _)] at hc
        obtain ⟨_, hc2⟩ := mapM_at hc
        obtain ⟨v, hv⟩ := hc2 0 (by have := width_pos t; simp; omega)
        simp only [List.getElem_range, Addr.add, if_true] at hv
        unfold World.cell? at hv
        split at hv
        ·split at hv
         ·cases hv
         ·rename_i hs; simpa using hs
        ·cases hv
     have key : ∀ i, i < len → ∃ y : Ty t × List Value, wfTy t y.1 ∧ y.2.length = width t ∧ (∀ j, j < width t → w.cell? ⟨a.block, a.off + (i * width t + j), none⟩ = some (y.2.getD j undef)) ∧ ∀ j, j < width t → RD cx (fun _ => True) w ((enc t y.1).getD j .nils) (y.2.getD j undef) := fun i hi => by
      obtain ⟨y, hy⟩ := hat i hi
      cases hc : w.cells? 0 (a.add (i * P.cellsOf e)) (P.cellsOf e) with
      | none => rw [hc] at hy; cases hy
      | some row =>
       rw [hc] at hy
       obtain ⟨ds, k1, k2, _, k3⟩ := open_ty d fuel e _ row y hrec hy
       obtain ⟨v, v1, v2⟩ := el_of t ds hne k1 k2
       have hdl : ds.length = width t := by
        have := congrArg List.length k1
        simpa [enc_length] using this
       unfold World.cells? at hc
       rw [if_pos (Nat.zero_le _)] at hc
       refine ⟨(v, row), v1, by rw [k3.1, hdl], fun j hj => ?_, fun j hj => ?_⟩
       ·have hcell : ∀ (l : List Nat) (row : List Value), (l.mapM fun i_1 => w.cell? ((a.add (i * P.cellsOf e)).add i_1)) = some row → ∀ j (h : j < l.length), w.cell? ((a.add (i * P.cellsOf e)).add l[j]) = some (row.getD j undef) := by
          intro l
          induction l with
          | nil => intro row _ j h; simp at h
          | cons q l ih =>
           intro row hm j hj
           rw [List.mapM_cons] at hm
           cases hq : w.cell? ((a.add (i * P.cellsOf e)).add q) with
           | none => rw [hq] at hm; cases hm
           | some v0 =>
            rw [hq] at hm
            cases hl : l.mapM fun i_1 => w.cell? ((a.add (i * P.cellsOf e)).add i_1) with
            | none => rw [hl] at hm; cases hm
            | some vs =>
             rw [hl] at hm
             injection hm with hm; subst hm
             cases j with
             | zero => simpa using hq
             | succ j => simpa using ih vs hl j (by simpa using hj)
        have := hcell _ _ hc j (by simp; omega)
        simp only [List.getElem_range] at this
        rw [add_none spot, add_none rfl, hce, Nat.add_assoc] at this
        exact this
       ·show RD cx _ w ((enc t v).getD j .nils) _
        rw [v2, map_getD_kd]
        exact (k3.2 j (by omega)).weak
     obtain ⟨ys, y1, y2⟩ := exists_list len key
     refine ⟨[.sl (some false) false t (ys.map (·.1))], rfl, ?_, by simp [flagsD], one _ _ ?_⟩
     ·intro dd hd
      simp only [List.mem_singleton] at hd
      subst hd
      refine ⟨by simp [y1]; omega, fun q hq => ?_⟩
      obtain ⟨y, hy, rfl⟩ := List.mem_map.1 hq
      obtain ⟨i, hi, rfl⟩ := List.getElem_of_mem hy
      have := (y2 i (dflt t, []) (by omega)).1
      rw [List.getD_eq_getElem?_getD, List.getElem?_eq_getElem hi] at this
      exact this
     ·have hl2 : (ys.map (·.1)).length = len := by simp [y1]
      have e1 : (Value.slice (some a) len cap) = .slice (some ⟨a.block, a.off, none⟩) (ys.map (·.1)).length cap := by
       rw [hl2]
       cases a with | mk b o s => simp at spot; subst spot; rfl
      rw [e1]
      refine RD.sl (ok := fun _ => True) (some false) false t (ys.map (·.1)) a.block a.off cap (fun i j => (ys.getD i (dflt t, [])).2.getD j undef) ?_ trivial (by omega) (fun h => by cases h) (fun h => by cases h) (fun i j hi hj => ?_) (fun i j hi hj => ?_)
      ·intro h
       rw [h] at hl2; simp at hl2; omega
      ·exact (y2 i (dflt t, []) (by omega)).2.2.1 j hj
      ·have e2 : (ys.map (·.1)).getD i (dflt t) = (ys.getD i (dflt t, [])).1 := by
         rw [List.getD_eq_getElem?_getD, List.getElem?_map, List.getD_eq_getElem?_getD]
         cases ys[i]? <;> rfl
       unfold cellAt
       rw [e2]
       exact (y2 i (dflt t, []) (by omega)).2.2.2 j hj
  ·rename_i fs hu
   simp only [Bool.and_eq_true, beq_iff_eq] at h
   obtain ⟨xs, n, hfu, _, hcl, hxl, hat⟩ := DataW.trod_struct hu ht
   injection hfu with hfu; subst hfu
   have := open_fs (cx := cx) (fun T z cs x h1 h2 => open_ty d fuel T z cs x h1 h2) fs.toList 0 _ cs h.2 (by omega) (fun f hf => by
    obtain ⟨i, hi, rfl⟩ := List.getElem_of_mem hf
    have hi' : i < fs.size := by simpa using hi
    have := hat i fs.toList[i] (by simp)
    rw [this]
    exact ⟨xs[i], List.getElem?_eq_getElem (by omega)⟩)
   simpa using this
  ·cases h
termination_by d => d
end
end Go.Eng
/- What closes a law's row: a function of which it is known that it hands back true, whatever data it is called with. -/
set_option linter.unusedVariables false
set_option linter.unusedSimpArgs false
namespace Go.Eng
open Go Go.RowKit

abbrev Shape := Bool × List D
def Fit1 (s : Shape) (a : DArg) : Prop := a.1 = s.1 ∧ a.2.map kd = s.2.map kd ∧ (∀ d ∈ a.2, wfD d) ∧ ∀ d ∈ a.2, flagsD d
def Fits : List Shape → List DArg → Prop
 | [], [] => True
 | s :: ss, a :: as => Fit1 s a ∧ Fits ss as
 | _, _ => False
theorem fits_cons {s : Shape} {ss : List Shape} {das : List DArg} (h : Fits (s :: ss) das) : ∃ a as, das = a :: as ∧ Fit1 s a ∧ Fits ss as := by
 cases das with
 | nil => exact h.elim
 | cons a as => exact ⟨a, as, rfl, h.1, h.2⟩
theorem fits_nil {das : List DArg} (h : Fits [] das) : das = [] := by
 cases das with
 | nil => rfl
 | cons a as => exact h.elim

section
variable {H : Type} {enc : TypeId × Value → H} {P : Program} {cx : Cx} {W : World}

theorem cells_one {r : Reach} {b : Nat} {t : TypeId} {v : Value} (hv : Value.okWide P W r b t v) {d : Nat} {z : List D} (ho : opC P d t z = true) (hs : ∀ fs, P.underlying t ≠ some (.struct fs)) : v.cells = #[v] ∧ z.length = 1 := by
 cases d with
 | zero => cases ho
 | succ d =>
  unfold opC at ho
  unfold Value.okWide at hv
  split at ho
  ·rename_i k k' n hu
   rw [hu] at hv
   simp only [Cell.okWide, hu, Cell.ok] at hv
   refine ⟨?_, rfl⟩
   cases v <;> first | rfl | exact absurd hv (by simp)
  ·rename_i b hu
   rw [hu] at hv
   simp only [Cell.okWide, hu, Cell.ok] at hv
   refine ⟨?_, rfl⟩
   cases v <;> first | rfl | exact absurd hv (by simp)
  ·rename_i s hu
   rw [hu] at hv
   simp only [Cell.okWide, hu, Cell.ok] at hv
   refine ⟨?_, rfl⟩
   cases v <;> first | rfl | exact absurd hv (by simp)
  ·rename_i e nl full t' l hu
   rw [hu] at hv
   simp only [Cell.okWide, hu, Cell.ok] at hv
   refine ⟨?_, rfl⟩
   cases v <;> first | rfl | exact absurd hv (by simp)
  ·rename_i fs hu; exact absurd hu (hs fs)
  ·cases ho

structure IsLaw (s : ChangeSpec) (n : Nat) : Prop where
 vars : s.vars = []
 fn : ∀ (H : Type) (ds : List (DataW H)), ds.length = n → s.fn H ds = { results := [.lit (.bool true)], args := ds }

theorem trodAll_stay (hl : laidOutB P = true) {W W' : World} (hb : Below W.heap.size W W') : ∀ {ts : List TypeId} {vs : List Value} {ds : List (DataW H)} {ps : List MemPlace} {sp : Nat → Bool},
    (∀ t ∈ ts, P.readableRec t = true ∧ t < P.types.size) → DataW.TrodAll enc P W 0 (fun _ => true) true ts vs ds ps → (∀ p ∈ ps, p.block < W.heap.size) → (∀ p ∈ ps, sp p.block = true) → DataW.TrodAll enc P W' 0 sp true ts vs ds ps
 | [], [], [], _, _, _, h, _, _ => h
 | [], [], _ :: _, _, _, _, h, _, _ => h.elim
 | [], _ :: _, _, _, _, _, h, _, _ => h.elim
 | _ :: _, [], _, _, _, _, h, _, _ => h.elim
 | _ :: _, _ :: _, [], _, _, _, h, _, _ => h.elim
 | t :: ts, v :: vs, d :: ds, ps, sp, hr, h, hlt, hsp => by
  obtain ⟨p, q, h1, h2, e⟩ := h
  subst e
  refine ⟨p, q, WideElems.Trod_stays hl (hr t List.mem_cons_self).1 (hr t List.mem_cons_self).2 h1 (fun x hx => hb.same (hlt x (List.mem_append.2 (.inl hx)))) (fun x hx => hsp x (List.mem_append.2 (.inl hx))), ?_, rfl⟩
  exact trodAll_stay hl hb (fun t ht => hr t (List.mem_cons_of_mem _ ht)) h2 (fun x hx => hlt x (List.mem_append.2 (.inr hx))) (fun x hx => hsp x (List.mem_append.2 (.inr hx)))

end
end Go.Eng
/- A nil slice that is handed out stands for a row of the call's own that has no elements; what is alike for a nil slice and for one that is not. -/
set_option linter.unusedVariables false
set_option linter.unusedSimpArgs false
namespace Go.Eng
open Go Go.RowKit

def promA (T : TypeId) (rs : List Arg) (h : Heap) : List Arg × Heap := match rs with
 | (false, [.d (.sl _ true t [])]) :: r => ((false, [.own h.length t false 0 0]) :: r, h ++ [some (.arr T t [])])
 | rs => (rs, h)
def promO (own : Option TypeId) (rs : List Arg) (h : Heap) : List Arg × Heap := match own with
 | some T => promA T rs h
 | none => (rs, h)

def evR2 {R : Type} (cx : Cx) (hd : Hd R) (fail : R) (fn : Func) (f : FuncId) (own : Option TypeId) (as : List DArg) (K : Ret → R) : R :=
 evFun cx hd fail fn f (liftA as) [] fun rs h => match retOf own.isSome (promO own rs h).1 (promO own rs h).2 with
  | some r => cond r.ok (K ⟨true, r.row, r.vals⟩) fail
  | none => fail

section
variable {P : Program} {cx : Cx} {ok : Nat → Prop} {w0 : World} {ρ : Rho} {w : World} {h : Heap}

theorem prom_hv (T : TypeId) (t : ET) (hi : HInv cx ok w0 ρ h w) : HInv cx ok w0 ρ (h ++ [some (.arr T t [])]) w ∧ ∀ k, okc ok w0.heap.size h ρ k ↔ okc ok w0.heap.size (h ++ [some (.arr T t [])]) ρ k := by
 have h0 : Inv cx ok w0 ρ ⟨[], h, 0⟩ { tmps := #[], defers := [] } w := ⟨rfl, fun t ht => by simp at ht, hi.heap, hi.inj, hi.own, hi.fresh, hi.below⟩
 obtain ⟨h1, h2⟩ := turns_push T t ok w0 ρ _ w h0
 exact ⟨h1.hv, h2⟩
theorem HInv.lt' (hi : HInv cx ok w0 ρ h w) : ∀ n b, ρ.has n b → b < w.heap.size := fun n b e => (hi.own n b e).2
theorem Rho.nil_has {n b : Nat} (h : Rho.nil.has n b) : False := by
 rcases h with h | h
 ·cases h
 ·exact h

theorem prom_rv (T : TypeId) (hi : HInv cx ok w0 ρ h w) {rs : List Arg} {x : Value} (hr : RV cx ρ (okc ok w0.heap.size h ρ) w (valOf rs) x) :
    HInv cx ok w0 ρ (promA T rs h).2 w ∧ (∀ k, okc ok w0.heap.size h ρ k ↔ okc ok w0.heap.size (promA T rs h).2 ρ k) ∧ RV cx ρ (okc ok w0.heap.size (promA T rs h).2 ρ) w (valOf (promA T rs h).1) x := by
 unfold promA
 split
 ·rename_i nl t r
  obtain ⟨h1, h2⟩ := prom_hv (cx := cx) T t hi
  refine ⟨h1, h2, ?_⟩
  have hx : ∀ N, Ext N (okc ok w0.heap.size h ρ) (okc ok w0.heap.size (h ++ [some (.arr T t [])]) ρ) ρ ρ w w := fun N => ⟨fun _ _ _ e => e, fun _ _ _ => rfl, fun k _ hk => (h2 k).1 hk, fun _ _ => rfl, Nat.le_refl _⟩
  have key : ∀ v, RA cx ρ (okc ok w0.heap.size h ρ) w (false, [.d (.sl nl true t [])]) v → RA cx ρ (okc ok w0.heap.size (h ++ [some (.arr T t [])]) ρ) w (false, [.own h.length t false 0 0]) v := fun v hv => by
   obtain ⟨c, hc, hd⟩ := hv
   simp only [List.cons.injEq, and_true] at hc
   subst hc
   have hd : RD cx (okc ok w0.heap.size h ρ) w (.sl nl true t []) v := hd
   refine ⟨_, rfl, ?_⟩
   cases hd with
   | sl0 _ _ _ A cap q1 q2 q3 q4 => exact ⟨A, cap, rfl, Nat.zero_le _, (by intro h; cases h), fun hc => absurd (q3 rfl) hc⟩
   | sl _ _ _ _ b off cap vs q0 => exact absurd rfl q0
  match r, hr with
  | [], hr => exact key x hr
  | g :: r, hr =>
   obtain ⟨xs, e1, q1⟩ := hr
   refine ⟨xs, e1, q1.1, fun j hj => ?_⟩
   cases j with
   | zero => exact key _ (q1.2 0 (by simp))
   | succ j => exact Ext.all_A hx hi.lt' (q1.2 (j + 1) (by simpa using hj))
 ·exact ⟨hi, fun k => Iff.rfl, hr⟩
theorem promO_rv (own : Option TypeId) (hi : HInv cx ok w0 ρ h w) {rs : List Arg} {x : Value} (hr : RV cx ρ (okc ok w0.heap.size h ρ) w (valOf rs) x) :
    HInv cx ok w0 ρ (promO own rs h).2 w ∧ (∀ k, okc ok w0.heap.size h ρ k ↔ okc ok w0.heap.size (promO own rs h).2 ρ k) ∧ RV cx ρ (okc ok w0.heap.size (promO own rs h).2 ρ) w (valOf (promO own rs h).1) x := by
 cases own with
 | some T => exact prom_rv T hi hr
 | none => exact ⟨hi, fun k => Iff.rfl, hr⟩

theorem evR2_of {X : Type} {fn : Func} {f : FuncId} {own : Option TypeId} {das : List DArg} {K : Ret → Option X} {y : X} {rs : List Arg} {h' : Heap} (h1 : ClSem P cx fn f (liftA das) [] rs h')
    (h2 : (match (generalizing := false) retOf own.isSome (promO own rs h').1 (promO own rs h').2 with
     | some r => cond r.ok (K ⟨true, r.row, r.vals⟩) none
     | none => none) = some y) :
    ∃ r, K r = some y ∧ ∀ (hf : FnOk P f fn) (ok : Nat → Prop) (w : World) (xs : List Value) (hx : RAs cx Rho.nil ok w (liftA das) xs), Calls P f xs.toArray w (After cx ok w r) := by
 split at h2
 case h_2 => cases h2
 rename_i r0 hr0
 cases hok : r0.ok with
 | false => rw [hok] at h2; cases h2
 | true =>
 rw [hok] at h2
 refine ⟨_, h2, fun hf ok w xs hx => ?_⟩
 clear h2
 have h0 : HInv cx ok w Rho.nil [] w := ⟨fun n b hn => by simp [lk] at hn, fun n m b hn => by simp [lk] at hn, (by intro n b e; exact (Rho.nil_has e).elim), fun _ _ => ⟨rfl, fun _ h => h⟩, Below.refl _ _⟩
 have hx' : RAs cx Rho.nil (okc ok w.heap.size [] Rho.nil) w (liftA das) xs := by
  refine hx.ext (N := 0) ⟨fun _ _ h => by omega, fun _ _ _ => rfl, fun k _ hk => ⟨.inl hk, fun n hn => by simp [lk] at hn⟩, fun _ _ => rfl, Nat.le_refl _⟩ (by intro n b e; exact (Rho.nil_has e).elim) (fun a ha c hc => ?_)
  simp only [liftA, List.mem_map] at ha
  obtain ⟨d, _, rfl⟩ := ha
  simp only [List.mem_map] at hc
  obtain ⟨y, _, rfl⟩ := hc
  trivial
 refine (h1.fn hf ok w Rho.nil w xs h0 hx').mono fun e w' ha => ?_
 obtain ⟨x, ρ', rfl, k1, k2, k3⟩ := ha
 obtain ⟨k2, _, k3⟩ := promO_rv own k2 k3
 generalize (promO own rs h').1 = rs2 at hr0 k3
 generalize (promO own rs h').2 = h3 at hr0 k2 k3
 unfold retOf at hr0
 split at hr0
 ·split at hr0
  ·rename_i vs p hv
   injection hr0 with hr0; subst hr0
   have hnone : ρ' h3.length = none := (k2.fresh _ (Nat.le_refl _)).1
   refine ⟨x, none, rfl, k2.below, (by intro b e; cases e), trivial, fun nm => ?_⟩
   have := ret_vals k2 (n := h3.length) (by intro b e; rw [hnone] at e; cases e) hv hok k3 nm
   rw [hnone] at this
   exact this
  ·cases hr0
 ·rename_i n0 hn0
  split at hr0
  ·rename_i T t l vs p hk hv
   injection hr0 with hr0; subst hr0
   refine ⟨x, ρ' n0, rfl, k2.below, fun b e => k2.own n0 b (.inl e), ?_, fun nm => ret_vals k2 (fun _ _ => lkh hk) hv hok k3 nm⟩
   have hto : ∀ k, okc ok w.heap.size h3 ρ' k → okR ok w (ρ' n0) k := fun k hk' => ⟨hk'.1, hk'.ne (lkh hk)⟩
   show RB cx (one 0 (ρ' n0)) (okR ok w (ρ' n0)) w' 0 (.arr T t l)
   rcases k2.heap n0 _ hk with ⟨q1, q2⟩ | ⟨b, us, q1, q2, q3, q4⟩
   ·exact .inl ⟨q1, by simp [one, q2]⟩
   ·exact .inr ⟨b, us, by simp [one, q1], q2, q3, fun i j hi hj => (q4 i j hi hj).ext (fun _ _ _ => rfl) (fun k _ => hto k) (Nat.le_refl _)⟩
  ·cases hr0

theorem evR2_adq {X : Type} {m : Bool} {B : Code → Prop} {G : RF → Prop} {hd : Hd (Option X)} (hcx : CxOk P cx) (hga : GaOk P cx) (hH : HdOk P cx m hd B G) {fn : Func} {f : FuncId} {own : Option TypeId} {das : List DArg} {K : Ret → Option X} {y : X} (hB : ∀ c, fn.body = some c → (∀ p ∈ loopsOf c, B p) ∧ ∀ q ∈ rfsOf c, G q) (he : evR2 cx hd none fn f own das K = some y) :
    ∃ r, K r = some y ∧ ∀ (hf : FnOk P f fn) (ok : Nat → Prop) (w : World) (xs : List Value) (hx : RAs cx Rho.nil ok w (liftA das) xs), Calls P f xs.toArray w (After cx ok w r) := by
 obtain ⟨rs, h', h1, h2⟩ := fun_adq hcx hga hH hB he
 exact evR2_of h1 h2

theorem ent_of_ev2 {m : Bool} {B : Code → Prop} {GG : RF → Prop} {hd : Hd (Option Ret)} (hcx : CxOk P cx) (hga : GaOk P cx) (hH : HdOk P cx m hd B GG) {fn : Func} {f : FuncId} (hf : FnOk P f fn) (hB : ∀ c, fn.body = some c → (∀ p ∈ loopsOf c, B p) ∧ ∀ q ∈ rfsOf c, GG q) {G : List DArg → Option Ret}
    (h : ∀ das r, G das = some r → r.ok = true → ∃ own b, evR2 cx hd none fn f own das some = some ⟨b, r.row, r.vals⟩) : EntOk P cx (fun xs => callFunc f xs.toArray) G := by
 intro das r hG hr ok w xs hx
 obtain ⟨own, b, he⟩ := h das r hG hr
 obtain ⟨r0, h0, h1⟩ := evR2_adq hcx hga hH hB he
 injection h0 with h0; subst h0
 exact ⟨f, xs.toArray, run_callFunc hf _, h1 hf ok w xs hx⟩
end

theorem stands3 {P : Program} {tab : List (Option TI)} {gas : List (Nat × Con)} {invs : List (String × Con)} {hints : List (Nat × Nat × Hint)} {inls : List (Nat × Func)} {L : Loops2} {n : Nat} (hcx : CxOk P (mkCx2 tab gas invs hints inls)) (h : Ready P tab gas invs inls)
    {fn : Func} {f : FuncId} (hf : FnOk P f fn) {Bs : List Code} (hB : loopsIn fn inls = Bs) (hL : ∀ b ∈ Bs, ∀ T, L (firstReg b) = some T → LoopOk P (mkCx2 tab gas invs hints inls) b T) {G : Con}
    (hG : ∀ das r, G das = some r → r.ok = true → ∃ own b, evR2 (mkCx2 tab gas invs hints inls) (hdI (mkCx2 tab gas invs hints inls) L inls none n) none fn f own das some = some ⟨b, r.row, r.vals⟩) : Stands P tab f G := by
 refine EntOk.tt (cx := mkCx2 tab gas invs hints inls) (cx' := mkCx tab [] [] []) rfl (ent_of_ev2 (B := fun b => b ∈ Bs) hcx h.gaOk (hdI_ok hcx h.gaOk rfB_none prB_none (fun p hp => ⟨h.inl p hp, fun c hc b hb => ?_⟩) (fun b T hb hT => hL b hb T hT) n) hf (fun c hc => ⟨fun p hp => ?_, fun _ _ => trivial⟩) hG)
 ·rw [← hB]
  refine List.mem_append.2 (.inr (List.mem_flatten.2 ⟨loopsOf c, ?_, hb⟩))
  refine List.mem_map.2 ⟨p, hp, ?_⟩
  rw [hc]
 ·rw [← hB]
  refine List.mem_append.2 (.inl ?_)
  rw [hc]; exact hp

def Ret.like (a b : Ret) : Prop := a.ok = b.ok ∧ a.row = b.row ∧ ∀ nm, nameVals nm a.vals = nameVals nm b.vals
theorem After.like {cx : Cx} {ok : Nat → Prop} {w : World} {a b : Ret} {e : Ending} {w' : World} (h : Ret.like a b) (ha : After cx ok w a e w') : After cx ok w b e w' := by
 obtain ⟨x, ob, h1, h2, h3, h4, h5⟩ := ha
 refine ⟨x, ob, h1, h2, h3, by rw [← h.2.1]; exact h4, fun nm => by rw [← h.2.2 nm]; exact h5 nm⟩

theorem nil_split {P : Program} {tab : List (Option TI)} {f : FuncId} {t : ET} {G1 G2 : Con} {r : List (Ty t) → Ret} (h1 : Stands P tab f G1) (h2 : Stands P tab f G2) {r0 : Ret} (e1 : G1 [(false, [.sl (some true) true t []])] = some r0) (e0 : Ret.like r0 (r [])) (e2 : ∀ l, G2 [(false, [.sl (some false) false t l])] = some (r l)) :
    Stands P tab f (fun das => match das with
     | [(false, [.sl _ _ t' l])] => if e : t' = t then some (r (e ▸ l)) else none
     | _ => none) := by
 intro das r0 hG hr ok w xs hx
 dsimp only at hG
 split at hG
 ·rename_i nl fl t' l
  split at hG
  ·rename_i e; subst e
   injection hG with hG; subst hG
   have hl : xs.length = 1 := hx.1
   match xs, hl, hx with
   | [v], _, hx =>
    obtain ⟨c, hc, hd⟩ := hx.2 0 (by simp [liftA])
    simp only [List.map_cons, List.map_nil, List.cons.injEq, and_true] at hc
    subst hc
    have hd : RD (mkCx tab [] [] []) ok w (.sl nl fl t' l) v := hd
    have mk : ∀ y : D, RD (mkCx tab [] [] []) ok w y v → RAs (mkCx tab [] [] []) Rho.nil ok w (liftA [(false, [y])]) [v] := fun y hy => ⟨rfl, fun j hj => by
     have : j = 0 := by simp [liftA] at hj; omega
     subst this; exact ⟨.d y, rfl, hy⟩⟩
    cases hd with
    | sl0 _ _ _ A cap q1 q2 q3 q4 =>
     cases A with
     | none =>
      have hcap := q4 rfl
      subst hcap
      obtain ⟨f', ys, k1, k2⟩ := h1 _ _ e1 (by rw [e0.1]; exact hr) ok w [_] (mk _ (.sl0 _ _ _ _ _ (fun _ => rfl) (fun h => by cases h) (fun _ => rfl) (fun _ => rfl)))
      exact ⟨f', ys, k1, k2.mono fun e w' ha => ha.like e0⟩
     | some a => exact h2 _ _ (e2 []) hr ok w [_] (mk _ (.sl0 _ _ _ _ _ (fun h => by cases h) (fun _ h => by cases h) (fun h => by cases h) (fun h => by cases h)))
    | sl _ _ _ _ b off cap vs q0 q1 q2 q3 q4 hc hr' =>
     exact h2 _ _ (e2 l) hr ok w [_] (mk _ (.sl _ _ _ _ b off cap vs q0 q1 q2 (fun h => by cases h) (fun h => by cases h) hc hr'))
  ·cases hG
 ·cases hG
end Go.Eng
/- Plain facts on rounds: a search through a list, a comparison of two lists. -/
set_option linter.unusedVariables false
set_option linter.unusedSimpArgs false
namespace Go.Eng
theorem Lp_idx {V α : Type} {r : V → Option (Option Nat × V)} (mk : Int → V) (l : List α) (p : α → Bool)
    (h1 : ∀ (i : Nat) (h : i < l.length), r (mk i) = if p l[i] = true then some (some 0, mk i) else some (none, mk ((i + 1 : Nat) : Int))) (h2 : r (mk l.length) = some (some 1, mk l.length)) :
    Lp r (mk 0) = match l.findIdx? p with
     | some j => some (0, mk j)
     | none => some (1, mk l.length) := by
 have key : ∀ (k i : Nat), i + k = l.length → Lp r (mk i) = match (l.drop i).findIdx? p with
     | some j => some (0, mk ((i + j : Nat) : Int))
     | none => some (1, mk l.length) := by
  intro k
  induction k with
  | zero =>
   intro i hi
   have e : l.drop i = [] := List.drop_eq_nil_of_le (by omega)
   have hi' : i = l.length := by omega
   rw [e, hi']
   exact Lp_exit h2
  | succ k ih =>
   intro i hi
   have hlt : i < l.length := by omega
   have hr := h1 i hlt
   rw [List.drop_eq_getElem_cons hlt, List.findIdx?_cons]
   cases hp : p l[i] with
   | true =>
    rw [hp, if_pos rfl] at hr
    simp only [if_true]
    rw [Lp_exit hr]
    rfl
   | false =>
    rw [hp, if_neg (by simp)] at hr
    rw [Lp_cont hr, ih (i + 1) (by omega)]
    simp only [Bool.false_eq_true, if_false]
    cases (l.drop (i + 1)).findIdx? p with
    | none => rfl
    | some j =>
     simp only [Option.map_some]
     congr 3
     omega
 have := key l.length 0 (by omega)
 simpa using this
theorem Lp_same {V α : Type} [DecidableEq α] {r : V → Option (Option Nat × V)} (mk : Int → V) (a b : List α) (hl : a.length = b.length)
    (h1 : ∀ (i : Nat) (h : i < a.length) (h' : i < b.length), r (mk i) = if a[i] = b[i] then some (none, mk ((i + 1 : Nat) : Int)) else some (some 0, mk i)) (h2 : r (mk a.length) = some (some 1, mk a.length)) :
    ∃ v, Lp r (mk 0) = some (if a = b then 1 else 0, v) := by
 have key : ∀ (k i : Nat), i + k = a.length → ∃ v, Lp r (mk i) = some (if a.drop i = b.drop i then 1 else 0, v) := by
  intro k
  induction k with
  | zero =>
   intro i hi
   have e1 : a.drop i = [] := List.drop_eq_nil_of_le (by omega)
   have e2 : b.drop i = [] := List.drop_eq_nil_of_le (by omega)
   have hi' : i = a.length := by omega
   rw [e1, e2, hi']
   exact ⟨_, Lp_exit h2⟩
  | succ k ih =>
   intro i hi
   have q1 : i < a.length := by omega
   have q2 : i < b.length := by omega
   have hr := h1 i q1 q2
   rw [List.drop_eq_getElem_cons q1, List.drop_eq_getElem_cons q2]
   by_cases he : a[i] = b[i]
   ·rw [if_pos he] at hr
    obtain ⟨v, hv⟩ := ih (i + 1) (by omega)
    refine ⟨v, ?_⟩
    rw [Lp_cont hr, hv, he]
    simp only [List.cons.injEq, true_and]
   ·rw [if_neg he] at hr
    refine ⟨mk i, ?_⟩
    rw [Lp_exit hr]
    simp only [List.cons.injEq, he, false_and, if_false]
 have := key a.length 0 (by omega)
 simpa using this
theorem getD_of {α : Type} (l : List α) (i : Nat) (d : α) (h : i < l.length) : l.getD i d = l[i] := by
 rw [List.getD_eq_getElem?_getD, List.getElem?_eq_getElem h]; rfl
end Go.Eng
/- Plain facts: a tree all of whose ways end well; rounds that keep something. -/
set_option linter.unusedVariables false
set_option linter.unusedSimpArgs false
namespace Go.Eng
def DT.all {α : Type} (P : α → Prop) : DT α → Prop
 | .leaf a => P a
 | .fail => False
 | .br c x y => (c = true → DT.all P x) ∧ (c = false → DT.all P y)
theorem DT.all_leaf {α : Type} (P : α → Prop) (a : α) : DT.all P (.leaf a) = P a := rfl
theorem DT.all_fail {α : Type} (P : α → Prop) : DT.all P (.fail) = False := rfl
theorem DT.all_br {α : Type} (P : α → Prop) (c : Bool) (x y : DT α) : DT.all P (.br c x y) = ((c = true → DT.all P x) ∧ (c = false → DT.all P y)) := rfl
theorem DT.all_run {α : Type} {P : α → Prop} : ∀ {t : DT α}, t.all P → ∃ a, t.run = some a ∧ P a
 | .leaf a, h => ⟨a, rfl, h⟩
 | .fail, h => h.elim
 | .br true x y, h => DT.all_run (t := x) (h.1 rfl)
 | .br false x y, h => DT.all_run (t := y) (h.2 rfl)
theorem DT.all_is {α : Type} {P : α → Prop} {t : DT α} (h : t.all P) : t.run.isSome = true := by
 obtain ⟨a, h1, _⟩ := DT.all_run h
 rw [h1]; rfl
theorem DT.all_o {α : Type} [Inhabited α] {P : α → Prop} {t : DT α} (h : t.all P) : P (t.run.getD default) := by
 obtain ⟨a, h1, h2⟩ := DT.all_run h
 rw [h1]; exact h2
def Stp {V : Type} (I : V → Prop) (Q : Nat → V → Prop) (m : V → Nat) (k : Nat) : Option Nat × V → Prop
 | (none, v) => I v ∧ m v < k
 | (some j, v) => Q j v
theorem Stp_none {V : Type} (I : V → Prop) (Q : Nat → V → Prop) (m : V → Nat) (k : Nat) (v : V) : Stp I Q m k (none, v) = (I v ∧ m v < k) := rfl
theorem Stp_some {V : Type} (I : V → Prop) (Q : Nat → V → Prop) (m : V → Nat) (k j : Nat) (v : V) : Stp I Q m k (some j, v) = Q j v := rfl
theorem Lp_tot {V : Type} {r : V → Option (Option Nat × V)} (I : V → Prop) (Q : Nat → V → Prop) (m : V → Nat)
    (h : ∀ v, I v → ∃ x, r v = some x ∧ Stp I Q m (m v) x) : ∀ v, I v → ∃ j v', Lp r v = some (j, v') ∧ Q j v' := by
 intro v hv
 generalize hk : m v = k
 induction k using Nat.strongRecOn generalizing v with
 | _ k ih =>
  obtain ⟨⟨o, v'⟩, h1, h2⟩ := h v hv
  cases o with
  | none =>
   obtain ⟨h3, h4⟩ := h2
   obtain ⟨j, w, g1, g2⟩ := ih (m v') (by omega) v' h3 rfl
   exact ⟨j, w, by rw [Lp_cont h1, g1], g2⟩
  | some j => exact ⟨j, v', Lp_exit h1, h2⟩
theorem Lp_all {V : Type} {R : V → DT (Option Nat × V)} {r : V → Option (Option Nat × V)} (hr : ∀ v, r v = (R v).run) (I : V → Prop) (Q : Nat → V → Prop) (m : V → Nat)
    (h : ∀ v, I v → (R v).all (Stp I Q m (m v))) (v : V) (hv : I v) : ∃ j v', Lp r v = some (j, v') ∧ Q j v' :=
 Lp_tot I Q m (fun v hv => by rw [hr]; exact DT.all_run (h v hv)) v hv
theorem e_xeqI (a b : Int) : xeqI a b = decide (a = b) := by rw [Bool.eq_iff_iff]; simp [xeqI]
theorem e_xneI (a b : Int) : xneI a b = decide (a ≠ b) := by rw [Bool.eq_iff_iff]; simp [xneI]
theorem e_wrap {n : Int} (h1 : -9223372036854775808 ≤ n) (h2 : n ≤ 9223372036854775807) : IntKind.i64.wrap n = n := by rw [IntKind.wrap_i64]; omega
theorem e_wrap1 {n : Nat} (h2 : n ≤ 1048576) : IntKind.i64.wrap ((n : Int) + 1) = ((n + 1 : Nat) : Int) := by rw [e_wrap (by omega) (by omega)]; omega
theorem Lp_walk {V : Type} {r : V → Option (Option Nat × V)} (mk : Nat → V) (n e : Nat) (h1 : ∀ i, i < n → r (mk i) = some (none, mk (i + 1))) (h2 : r (mk n) = some (some e, mk n)) : Lp r (mk 0) = some (e, mk n) := by
 have key : ∀ k i, i + k = n → Lp r (mk i) = some (e, mk n) := by
  intro k
  induction k with
  | zero => intro i hi; have : i = n := by omega
            subst this; exact Lp_exit h2
  | succ k ih => intro i hi; rw [Lp_cont (h1 i (by omega))]; exact ih (i + 1) (by omega)
 exact key n 0 (by omega)
end Go.Eng
/- A loop over a function: the function's own loop, entered in place, whose rounds are the loop's rounds. -/
set_option linter.unusedVariables false
set_option linter.unusedSimpArgs false
namespace Go.Eng
open Go Go.RowKit

def rfGo {R : Type} (cx : Cx) (hd : Hd R) (fail : R) (f : FuncId) (fn : Func) (F : FuncId) (caps : List Arg) (body : Code) (st : St) (K : Ex → St → R) : R :=
 evFun cx hd fail fn F ((false, [.yld st.heap.length]) :: caps) (st.heap ++ [some (.lp (firstReg body) (keepOnly (cx.hint f (firstReg body)).keep st.env) 0 none)]) fun _ h =>
  match lk h st.heap.length with
  | some (.lp _ _ 1 _) => fail
  | some (.lp _ _ _ none) => K .normal ⟨st.env, h.set st.heap.length none, st.fb⟩
  | some (.lp _ _ _ (some none)) => K .ret ⟨st.env, h.set st.heap.length none, st.fb⟩
  | some (.lp _ _ _ (some (some id))) => K (.exit id) ⟨st.env, h.set st.heap.length none, st.fb⟩
  | _ => fail
def rfRun {R : Type} (cx : Cx) (hd : Hd R) (inls : List (Nat × Func)) (fail : R) (f : FuncId) (g : Operand) (body : Code) (st : St) (K : Ex → St → R) : R :=
 match opv st.env g with
 | .v false [.d (.fn F [] ks)] => match find inls F with
  | some fn => rfGo cx hd fail f fn F (ks.map fun r => (false, [C.d (.ref r)])) body st K
  | none => fail
 | .v false [.clo F [] ks] => match find inls F with
  | some fn => rfGo cx hd fail f fn F (ks.map fun n => (false, [C.ptr n 0])) body st K
  | none => fail
 | _ => fail
def hdT {R : Type} (cx : Cx) (L : Loops2) (inls : List (Nat × Func)) (fail : R) (n : Nat) : Hd R :=
 { lp := (hdI cx L inls fail n).lp, cl := (hdI cx L inls fail n).cl, rf := rfRun cx (hdI cx L inls fail n) inls fail }

section
variable {P : Program} {cx : Cx} {st st' : St}

theorem Ext.alloc2 {ok : Nat → Prop} {w0 : World} {ρ : Rho} {a : Act} {w : World} (hi : Inv cx ok w0 ρ st a w) (o1 o2 : Obj) (b : Blk) (N : Nat) :
    Ext N (okc ok w0.heap.size st.heap ρ) (okc ok w0.heap.size (st.heap ++ [some b]) (upd ρ st.heap.length (some (w.heap.size + 1)))) ρ (upd ρ st.heap.length (some (w.heap.size + 1))) w ((w.alloc o1).alloc o2) := by
 have hn0 : ρ st.heap.length = none := (hi.fresh _ (Nat.le_refl _)).1
 have hh : ∀ k, k < w.heap.size → ((w.alloc o1).alloc o2).heap[k]? = w.heap[k]? := fun k hk => (Below.heap_alloc _ _ _ (by simp; omega)).trans (Below.heap_alloc _ _ _ hk)
 refine ⟨fun n b _ e => ?_, fun k hk _ => hh k hk, fun k hk h => ⟨h.1, fun n hn => ?_⟩, fun k hk => roomOf_eq (hh k hk), by simp; omega⟩
 ·have : n ≠ st.heap.length := fun e2 => by rw [e2, hn0] at e; cases e
  rw [upd_ne this]; exact e
 ·by_cases e : n = st.heap.length
  ·subst e; rw [upd_has]; intro h; injection h with h; omega
  ·rw [upd_has_ne e]
   rw [lk_push, if_neg e] at hn
   exact h.2 n hn

theorem HInv.lp {ok : Nat → Prop} {w0 : World} {ρ : Rho} {a : Act} {w : World} (hi : Inv cx ok w0 ρ st a w) {d : Option (List Deferred)} {r : Loop} {k : Nat} {keep : List Nat} (ht : r.tmps = a.tmps) (hr : ∃ fid, cx.rf k = some (fid, r.params, r.assign, r.body)) (hs : r.state = .ready) (hp : r.pending = none) :
    HInv cx ok w0 (upd ρ st.heap.length (some (w.heap.size + 1))) (st.heap ++ [some (.lp k (keepOnly keep st.env) 0 none)]) ((w.alloc (.deferred d)).alloc (.loop r)) := by
 have hn0 : ρ st.heap.length = none := (hi.fresh _ (Nat.le_refl _)).1
 have hx := fun N => Ext.alloc2 hi (.deferred d) (.loop r) (.lp k (keepOnly keep st.env) 0 none) N
 have hlt : ∀ n, (lk st.heap n).isSome = true → n ≠ st.heap.length := fun n hn e => by have := lk_lt hn; omega
 have hlive : ∀ n, (lk (st.heap ++ [some (.lp k (keepOnly keep st.env) 0 none)]) n).isSome = true → n ≠ st.heap.length → (lk st.heap n).isSome = true := fun n hn e => by rwa [lk_push, if_neg e] at hn
 refine ⟨fun n b hn => ?_, fun n m b hn hm h1 h2 => ?_, fun n b hn => ?_, fun n hn => ?_, ?_⟩
 ·by_cases e : n = st.heap.length
  ·subst e
   rw [lk_push, if_pos rfl] at hn; injection hn with hn; subst hn
   refine ⟨w.heap.size + 1, r, upd_same _ _ _, ?_, ?_, fun t hlt => ?_, hr, hs, hp⟩
   ·have := World.alloc_heap_new (w.alloc (.deferred d)) (.loop r); rwa [World.size_alloc] at this
   ·rw [ht, hi.size]; simp [keepOnly]
   ·have hl : t < st.env.length := by simpa [keepOnly] using hlt
    have e : (keepOnly keep st.env).getD t .any = if keep.contains t then st.env.getD t .any else .any := by
     simp [keepOnly, List.getD_eq_getElem?_getD, hl]
    rw [e, ht]
    split
    ·exact Ext.all_V hx hi.hv.lt (hi.env t hl)
    ·trivial
  ·rw [lk_push, if_neg e] at hn
   refine Ext.all_B hx hi.hv.lt (fun q hq => ?_) (upd_keep e) (hi.heap n b hn)
   have := (hi.own n q hq).2
   exact (Below.heap_alloc _ _ _ (by simp; omega)).trans (Below.heap_alloc _ _ _ this)
 ·by_cases e1 : n = st.heap.length <;> by_cases e2 : m = st.heap.length
  ·rw [e1, e2]
  ·rw [e1, upd_has] at h1; rw [upd_has_ne e2] at h2; injection h1 with h1; have := (hi.own m b h2).2; omega
  ·rw [e2, upd_has] at h2; rw [upd_has_ne e1] at h1; injection h2 with h2; have := (hi.own n b h1).2; omega
  ·rw [upd_has_ne e1] at h1; rw [upd_has_ne e2] at h2
   exact hi.inj n m b (hlive n hn e1) (hlive m hm e2) h1 h2
 ·have h0 := hi.below.size
  by_cases e : n = st.heap.length
  ·rw [e, upd_has] at hn; injection hn with hn; subst hn; simp; omega
  ·rw [upd_has_ne e] at hn; have := hi.own n b hn; simp; omega
 ·have hn : st.heap.length + 1 ≤ n := by simpa using hn
  have hf := hi.fresh n (by omega)
  exact ⟨by rw [upd_ne (by omega)]; exact hf.1, fun k hk => hf.2 k hk.2⟩
 ·exact hi.below.trans ((((Below.refl _ w).alloc (Nat.le_refl _) _).alloc (by simp) _).mono hi.below.size)

def RfG (cx : Cx) (q : RF) : Prop := ∃ fid, cx.rf (firstReg q.body) = some (fid, q.ps, q.asg, q.body)

theorem rfGo_ok {X : Type} {hd : Hd (Option X)} {B : Code → Prop} {G : RF → Prop} (hcx : CxOk P cx) (hga : GaOk P cx) (hH : HdOk P cx false hd B G) {f : FuncId} {fn : Func} {F : FuncId} (hF : FnOk P F fn) (hB : ∀ c, fn.body = some c → (∀ p ∈ loopsOf c, B p) ∧ ∀ q ∈ rfsOf c, G q)
    {q : RF} (hq : RfG cx q) {caps : List Arg} {K : Ex → St → Option X} {x : X} (he : rfGo cx hd none f fn F caps q.body st K = some x)
    (hcap : ∀ (ok : Nat → Prop) (w0 : World) (ρ : Rho) (a : Act) (w : World), Inv cx ok w0 ρ st a w → ∃ vs : List Value, a.eval q.g = .func (.func F) #[] vs.toArray ∧ RAs cx ρ (okc ok w0.heap.size st.heap ρ) w caps vs) :
    ∃ e st', Lands P cx true (.rangeFunc q.g q.ps q.asg q.body) st e st' ∧ K e st' = some x := by
 unfold rfGo at he
 obtain ⟨rs, h', h1, h2⟩ := fun_adq hcx hga hH hB he
 have key : ∀ (s : Nat) (k : Nat) (env : List V) (j : Option (Option Nat)) (e : Ex), lk h' st.heap.length = some (.lp k env s j) → s ≠ 1 →
     (∀ (r : Option Nat) (Q : Exit → Act → World → Prop) (a : Act) (w : World), Q (exOf e) a w → match jOf j with | none => Q .normal a w | some c => c.wpIn (FW r) 0 P Q a w) → Lands P cx true (.rangeFunc q.g q.ps q.asg q.body) st e ⟨st.env, h'.set st.heap.length none, st.fb⟩ := fun s k env j e hlk hs hj => by
  refine ⟨rfl, fun ok w0 ρ a w Q hi hl hQ r hr => ?_⟩
  obtain rfl := hr rfl
  refine wpIn_rangeFunc fun fid _ => ?_
  obtain ⟨vs, hev, hcs⟩ := hcap ok w0 ρ a w hi
  have hw0 : w0.heap.size ≤ w.heap.size := hi.below.size
  let rec' : Loop := { state := .ready, pending := none, fn := fid, tmps := a.tmps, params := q.ps, assign := q.asg, body := q.body, defers := w.heap.size }
  obtain ⟨W1, hW1⟩ : ∃ W1, (w.alloc (.deferred (some []))).alloc (.loop rec') = W1 := ⟨_, rfl⟩
  have hv1 := HInv.lp (d := some []) (r := rec') (k := firstReg q.body) (keep := (cx.hint f (firstReg q.body)).keep) hi rfl hq rfl rfl
  have hx1 := fun N => Ext.alloc2 hi (.deferred (some [])) (.loop rec') (Blk.lp (firstReg q.body) (keepOnly (cx.hint f (firstReg q.body)).keep st.env) 0 none) N
  have hD1 : W1.heap[w.heap.size]? = some (.deferred (some [])) := by
   rw [← hW1]; exact (Below.heap_alloc _ _ _ (by simp)).trans (World.alloc_heap_new w _)
  have hsz1 : W1.heap.size = w.heap.size + 2 := by rw [← hW1]; simp
  rw [hW1] at hv1 hx1
  have hn0 : ρ st.heap.length = none := (hi.fresh _ (Nat.le_refl _)).1
  refine ⟨w.heap.size + 1, [mark w.heap.size], W1, { target := .fn (.func F) vs.toArray, args := #[.func (.yield (w.heap.size + 1)) #[] #[]] }, W1, F, (Value.func (.yield (w.heap.size + 1)) #[] #[] :: vs).toArray, W1, ?_, ?_, fun _ _ => trivial, ?_, (by intro h; cases h), ?_⟩
  ·rw [← hW1]; exact run_enterLoop_outer _ _ _ _ _
  ·simp only [resolve, hev]
   simp [go_sem]
  ·have e : (#[Value.func (.yield (w.heap.size + 1)) #[] #[]] ++ vs.toArray) = (Value.func (.yield (w.heap.size + 1)) #[] #[] :: vs).toArray := by
     apply Array.toList_inj.1; simp
   simp only [invoke]
   rw [e]
   exact run_callFunc hF _
  ·have hargs : RAs cx (upd ρ st.heap.length (some (w.heap.size + 1))) (okc ok w0.heap.size (st.heap ++ [some (.lp (firstReg q.body) (keepOnly (cx.hint f (firstReg q.body)).keep st.env) 0 none)]) (upd ρ st.heap.length (some (w.heap.size + 1)))) W1 ((false, [.yld st.heap.length]) :: caps) (Value.func (.yield (w.heap.size + 1)) #[] #[] :: vs) := by
     have := Ext.all_As hx1 hi.hv.lt hcs
     refine ⟨by simp [this.1], fun i hi' => ?_⟩
     cases i with
     | zero => exact ⟨_, rfl, w.heap.size + 1, upd_same _ _ _, rfl⟩
     | succ i => simpa using this.2 i (by simpa using hi')
   refine CallsIn.mono (calls_FW (h1.fn hF ok w0 _ W1 _ hv1 hargs)) fun e' w' ha => ?_
   obtain ⟨x', ρ', rfl, g1, i1, _⟩ := ha
   have hlen : (st.heap ++ [some (Blk.lp (firstReg q.body) (keepOnly (cx.hint f (firstReg q.body)).keep st.env) 0 none)]).length = st.heap.length + 1 := by simp
   have hrho : ∀ n, n < st.heap.length + 1 → ρ' n = upd ρ st.heap.length (some (w.heap.size + 1)) n := fun n hn => g1.grow.rho n (by rw [hlen]; exact hn)
   have hρl : ρ' st.heap.length = some (w.heap.size + 1) := by rw [hrho _ (by omega), upd_same]
   obtain ⟨b, r1, q1, q2, q3⟩ := i1.heap _ _ hlk
   rw [hρl] at q1; injection q1 with q1; subst q1
   have hst : r1.state ≠ .busy := by
    rw [q3.2.2.2.1]
    match s, hs with
    | 0, _ => simp [lsOf]
    | 1, h => exact absurd rfl h
    | s + 2, _ => simp [lsOf]
   have hbl : w.heap.size + 1 < w'.heap.size := (Array.getElem?_eq_some_iff.1 q2).1
   obtain ⟨w4, hw4⟩ : ∃ w4, w'.putObj (w.heap.size + 1) (.loop { r1 with state := .exhausted }) = w4 := ⟨_, rfl⟩
   refine ⟨r1.pending, w4, by rw [← hw4]; exact run_endLoop q2 hst, ?_⟩
   rw [q3.2.2.2.2]
   have hnl' : st.heap.length < h'.length := lk_lt (lkh hlk)
   have hlk4 : ∀ m, lk (h'.set st.heap.length none) m = if m = st.heap.length then none else lk h' m := fun m => by
    rw [lk_set]
    by_cases e : m = st.heap.length
    ·rw [if_pos ⟨e, hnl'⟩, if_pos e]
    ·rw [if_neg (fun h => e h.1), if_neg e]
   have h4o : ∀ k, k ≠ w.heap.size + 1 → w4.heap[k]? = w'.heap[k]? := fun k hk => by rw [← hw4]; exact World.putObj_heap_other hk
   have h4s : w4.heap.size = w'.heap.size := by rw [← hw4]; exact World.putObj_size
   have hok4 : ∀ k, okc ok w0.heap.size h' ρ' k → okc ok w0.heap.size (h'.set st.heap.length none) ρ' k := fun k hk => ⟨hk.1, fun n hn => hk.2 n (by
    rw [hlk4] at hn
    split at hn
    ·cases hn
    ·exact hn)⟩
   have hne4 : ∀ k, okc ok w0.heap.size h' ρ' k → k ≠ w.heap.size + 1 := fun k hk e => hk.2 _ (lkh hlk) (.inl (by rw [hρl, e]))
   have hx4 : ∀ N, Ext N (okc ok w0.heap.size h' ρ') (okc ok w0.heap.size (h'.set st.heap.length none) ρ') ρ' ρ' w' w4 := fun N => ⟨fun _ _ _ e => e, fun k _ hk => h4o k (hne4 k hk), fun k _ hk => hok4 k hk, fun k hk => by
    by_cases e : k = w.heap.size + 1
    ·subst e; unfold World.roomOf; rw [← hw4, World.putObj_heap_same hbl, q2]
    ·exact roomOf_eq (h4o k e), Nat.le_of_eq h4s.symm⟩
   have hx14 : ∀ N, Ext N (okc ok w0.heap.size st.heap ρ) (okc ok w0.heap.size (h'.set st.heap.length none) ρ') ρ ρ' w w4 := fun N => by
    have a1 : Ext N (okc ok w0.heap.size (st.heap ++ [some (.lp (firstReg q.body) (keepOnly (cx.hint f (firstReg q.body)).keep st.env) 0 none)]) (upd ρ st.heap.length (some (w.heap.size + 1)))) (okc ok w0.heap.size h' ρ') (upd ρ st.heap.length (some (w.heap.size + 1))) ρ' W1 w' := by
     refine ⟨fun n b _ e => ?_, g1.ext.cell, g1.ext.okk, g1.ext.room, g1.ext.size⟩
     have hn : n < st.heap.length + 1 := by
      rcases Nat.lt_or_ge n (st.heap.length + 1) with h | h
      ·exact h
      ·rw [(hv1.fresh n (by rw [hlen]; exact h)).1] at e; cases e
     rw [hrho n hn]; exact e
    exact ((hx1 N).trans a1).trans (hx4 N)
   have hB4 : ∀ k, k < w0.heap.size → w4.heap[k]? = w'.heap[k]? := fun k hk => h4o k (by omega)
   have hfin : Q (exOf e) { a with defers := [mark w.heap.size] ++ a.defers } w4 := by
    refine hQ ρ' _ w4 ⟨hi.size, fun t ht => Ext.all_V hx14 hi.hv.lt (hi.env t ht), fun n b hn => ?_, fun n m b hn hm e1 e2 => ?_, fun n b hn => by rw [h4s]; exact i1.own n b hn, fun n hn => i1.fresh n (by simpa using hn), i1.below.trans (by
        rw [← hw4]; exact ⟨rfl, rfl, rfl, Nat.le_of_eq World.putObj_size.symm, fun k hk => World.putObj_heap_other (by omega)⟩)⟩ ⟨hx14 _, ⟨fun n hn => ?_, fun n hn hd => ?_, fun h => ?_⟩⟩ ?_
    ·have hn : lk (h'.set st.heap.length none) n = some b := hn
     rw [hlk4] at hn
     split at hn
     ·cases hn
     ·rename_i e
      exact Ext.all_B hx4 i1.lt (fun k hk => h4o k (fun e2 => e (i1.inj n st.heap.length _ (lkh hn) (lkh hlk) hk (.inl (e2 ▸ hρl))))) has_keep (i1.heap n b hn)
    ·have hn : (lk (h'.set st.heap.length none) n).isSome = true := hn
     have hm : (lk (h'.set st.heap.length none) m).isSome = true := hm
     rw [hlk4] at hn hm
     split at hn
     ·cases hn
     ·split at hm
      ·cases hm
      ·exact i1.inj n m b hn hm e1 e2
    ·have hl' : n < st.heap.length := Nat.lt_of_lt_of_le hn hl
     rw [hrho n (by omega), upd_ne (by omega)]
    ·have hl' : n < st.heap.length := Nat.lt_of_lt_of_le hn hl
     show lk (h'.set st.heap.length none) n = none
     rw [hlk4, if_neg (by omega)]
     refine g1.grow.dead n (by rw [hlen]; omega) ?_
     rw [lk_push, if_neg (by omega)]; exact hd
    ·show st.fb ≤ (h'.set st.heap.length none).length
     rw [List.length_set]; omega
    ·refine ⟨[w.heap.size], rfl, (by intro h; cases h), by simp, fun D hD => ?_⟩
     obtain rfl := List.mem_singleton.1 hD
     have hokD : okc ok w0.heap.size (st.heap ++ [some (.lp (firstReg q.body) (keepOnly (cx.hint f (firstReg q.body)).keep st.env) 0 none)]) (upd ρ st.heap.length (some (w.heap.size + 1))) w.heap.size := by
      refine ⟨.inr hw0, fun n hn e2 => ?_⟩
      by_cases e : n = st.heap.length
      ·rw [e, upd_has] at e2; injection e2 with e2; omega
      ·rw [upd_has_ne e] at e2; have := (hi.own n _ e2).2; omega
     have hlD : w.heap.size < W1.heap.size := by omega
     have hokD' := g1.ext.okk _ hlD hokD
     refine ⟨Nat.le_refl _, by rw [h4s]; omega, hok4 _ hokD', ?_⟩
     rw [h4o _ (by omega), g1.ext.cell _ hlD hokD]; exact hD1
   have := hj none Q { a with defers := [mark w.heap.size] ++ a.defers } w4 hfin
   exact this
 split at h2
 ·cases h2
 ·rename_i k env s hs hlk
  exact ⟨.normal, _, key s k env none .normal hlk hs (fun r Q a w h => h), h2⟩
 ·rename_i k env s hs hlk
  exact ⟨.ret, _, key s k env (some none) .ret hlk hs (fun r Q a w h => wpIn_ret h), h2⟩
 ·rename_i k env s id hs hlk
  exact ⟨.exit id, _, key s k env (some (some id)) (.exit id) hlk hs (fun r Q a w h => wpIn_exit h), h2⟩
 ·cases h2

theorem hdT_ok {X : Type} {L : Loops2} {inls : List (Nat × Func)} {B : Code → Prop} (hcx : CxOk P cx) (hga : GaOk P cx) (hR : RfB cx B (fun _ => True)) (hP : PrB P cx) (hi : ∀ p ∈ inls, FnOk P p.1 p.2 ∧ ∀ c, p.2.body = some c → ∀ b ∈ loopsOf c, B b)
    (h : ∀ body T, B body → L (firstReg body) = some T → LoopOk P cx body T) (n : Nat) : HdOk (X := X) P cx true (hdT cx L inls none n) B (RfG cx) := by
 have h0 := hdI_ok (X := X) hcx hga hR hP hi h n
 refine ⟨h0.cl, h0.lp, fun f q st K x hq he => ?_⟩
 have he : rfRun cx (hdI cx L inls none n) inls none f q.g q.body st K = some x := he
 unfold rfRun at he
 split at he
 ·rename_i F ks hop
  split at he
  ·rename_i fn hf
   obtain ⟨q1, q2⟩ := hi _ (find_mem _ _ _ hf)
   refine rfGo_ok hcx hga h0 q1 (fun c hc => ⟨q2 c hc, fun _ _ => trivial⟩) hq he (fun ok w0 ρ a w hi => ?_)
   have hv := op_c hi hop
   generalize hfe : a.eval q.g = fe at hv
   cases hv with
   | fn _ _ _ u v h1 h2 ha hb =>
    have hu : u = [] := by cases u with
     | nil => rfl
     | cons _ _ => cases h1
    subst hu
    exact ⟨v, rfl, RAs_refs h2 hb⟩
  ·cases he
 ·rename_i F ks hop
  split at he
  ·rename_i fn hf
   obtain ⟨q1, q2⟩ := hi _ (find_mem _ _ _ hf)
   refine rfGo_ok hcx hga h0 q1 (fun c hc => ⟨q2 c hc, fun _ _ => trivial⟩) hq he (fun ok w0 ρ a w hi => ?_)
   obtain ⟨u, v, hfe, h1, h2⟩ := op_c hi hop
   have hu : u = [] := by cases u with
    | nil => rfl
    | cons _ _ => have := h1.1; cases this
   subst hu
   exact ⟨v, hfe, RAs_ptrs h2⟩
  ·cases he
 ·cases he
end

def rfAt (f : FuncId) (fn : Func) : FuncId × Array Tmp × Code × Code := match fn.body with
 | some c => match rfsOf c with
  | q :: _ => (f, q.ps, q.asg, q.body)
  | [] => (f, #[], .skip, .skip)
 | none => (f, #[], .skip, .skip)
def rfNum (fn : Func) : Nat := match fn.body with
 | some c => (rfsOf c).length
 | none => 0
abbrev Rfs := List (Nat × (FuncId × Array Tmp × Code × Code))
abbrev Proc := List Arg → Heap → Option (Bool × List Arg × Heap)
abbrev Prs := List (Nat × (Func × Proc))
def mkCx3 (tab : List (Option TI)) (gas : List (Nat × Con)) (invs : List (String × Con)) (hints : List (Nat × Nat × Hint)) (inls : List (Nat × Func)) (rfs : Rfs) (prs : Prs) : Cx :=
 { mkCx2 tab gas invs hints inls with rf := find rfs, inl := fun f => match find inls f with | some fn => some fn | none => (find prs f).map (·.1), pr := fun f => (find prs f).map (·.2) }
def StandsP (P : Program) (tab : List (Option TI)) (f : FuncId) (M : Proc) : Prop :=
 ∀ cx : Cx, cx.tt = (fun T => tab.getD T none) → ∀ fn as h rs h', FnOk P f fn → M as h = some (true, rs, h') → ClSem P cx fn f as h rs h'
def PrsOk (P : Program) (tab : List (Option TI)) (prs : Prs) : Prop := ∀ p ∈ prs, FnOk P p.1 p.2.1 ∧ StandsP P tab p.1 p.2.2
theorem noneP {P : Program} {tab : List (Option TI)} : PrsOk P tab [] := fun p hp => by cases hp
theorem prB_of {P : Program} {tab : List (Option TI)} {gas : List (Nat × Con)} {invs : List (String × Con)} {hints : List (Nat × Nat × Hint)} {inls : List (Nat × Func)} {rfs : Rfs} {prs : Prs} (h : PrsOk P tab prs) : PrB P (mkCx3 tab gas invs hints inls rfs prs) := by
 intro f M fn as hp rs h' hM hf hm
 have hM : (find prs f).map (·.2) = some M := hM
 cases hq : find prs f with
 | none => rw [hq] at hM; cases hM
 | some q =>
  rw [hq] at hM
  injection hM with hM; subst hM
  exact (h (f, q) (find_mem _ _ _ hq)).2 _ rfl fn as hp rs h' hf hm
theorem Ready.gaOk3 {P : Program} {tab : List (Option TI)} {gas : List (Nat × Con)} {invs : List (String × Con)} {inls : List (Nat × Func)} {hints : List (Nat × Nat × Hint)} {rfs : Rfs} {prs : Prs} (h : Ready P tab gas invs inls) (hP : PrsOk P tab prs) : GaOk P (mkCx3 tab gas invs hints inls rfs prs) :=
 ⟨fun f G hG => EntOk.tt (cx := mkCx tab [] [] []) (cx' := mkCx3 tab gas invs hints inls rfs prs) rfl (h.ga (f, G) (find_mem _ _ _ hG)), fun m G hG => EntOk.tt (cx := mkCx tab [] [] []) (cx' := mkCx3 tab gas invs hints inls rfs prs) rfl (h.inv (m, G) (findS_mem _ _ _ hG)), fun f fn hf => by
  have hf : (match find inls f with | some fn => some fn | none => (find prs f).map (·.1)) = some fn := hf
  split at hf
  ·rename_i fn' hi
   injection hf with hf; subst hf
   exact h.inl (f, fn') (find_mem _ _ _ hi)
  ·cases hq : find prs f with
   | none => rw [hq] at hf; cases hf
   | some q =>
    rw [hq] at hf
    injection hf with hf; subst hf
    exact (hP (f, q) (find_mem _ _ _ hq)).1⟩
def loopsRf (rfs : Rfs) : List Code := (rfs.map fun p => loopsOf p.2.2.2.1 ++ loopsOf p.2.2.2.2).flatten
theorem rfB_of {tab : List (Option TI)} {gas : List (Nat × Con)} {invs : List (String × Con)} {hints : List (Nat × Nat × Hint)} {inls : List (Nat × Func)} {rfs : Rfs} {prs : Prs} {B : Code → Prop} (h : ∀ b ∈ loopsRf rfs, B b) : RfB (mkCx3 tab gas invs hints inls rfs prs) B (fun _ => True) := by
 intro k fid ps asg body hk
 have hm := find_mem _ _ _ (show find rfs k = some (fid, ps, asg, body) from hk)
 have key : ∀ p ∈ loopsOf asg ++ loopsOf body, B p := fun p hp => h p (List.mem_flatten.2 ⟨_, List.mem_map.2 ⟨_, hm, rfl⟩, hp⟩)
 exact ⟨⟨fun p hp => key p (List.mem_append.2 (.inl hp)), fun _ _ => trivial⟩, fun p hp => key p (List.mem_append.2 (.inr hp)), fun _ _ => trivial⟩
def RfsOk (fn : Func) (rfs : Rfs) : Prop := ∀ c, fn.body = some c → ∀ q ∈ rfsOf c, ∃ fid, find rfs (firstReg q.body) = some (fid, q.ps, q.asg, q.body)
theorem rfsOk_one {f : FuncId} {fn : Func} {k : Nat} (h1 : rfNum fn = 1) (h2 : firstReg (rfAt f fn).2.2.2 = k) : RfsOk fn [(k, rfAt f fn)] := by
 intro c hc q hq
 unfold rfNum at h1; rw [hc] at h1
 have h1 : (rfsOf c).length = 1 := h1
 have e : rfAt f fn = (f, q.ps, q.asg, q.body) := by
  unfold rfAt; rw [hc]
  match hr : rfsOf c, h1, hq with
  | [q'], _, hq =>
   obtain rfl := List.mem_singleton.1 hq
   simp only [hr]
 rw [e] at h2 ⊢
 exact ⟨f, by simp [find, h2]⟩

theorem loop_ok3 {V : Type} {P : Program} {tab : List (Option TI)} {gas : List (Nat × Con)} {invs : List (String × Con)} {hints : List (Nat × Nat × Hint)} {inls : List (Nat × Func)} {rfs : Rfs} {prs : Prs} {L : Loops2} {n : Nat} (hcx : CxOk P (mkCx3 tab gas invs hints inls rfs prs)) (h : Ready P tab gas invs inls) (hP : PrsOk P tab prs)
    {f : FuncId} {body : Code} {Bs : List Code} (hB : loopsOf body ++ loopsInl inls ++ loopsRf rfs = Bs) (hL : ∀ b ∈ Bs, ∀ T, L (firstReg b) = some T → LoopOk P (mkCx3 tab gas invs hints inls rfs prs) b T)
    {hs : List Nat} {base : Nat} {keepX : List Nat} {mk : V → St} {ex : Nat → V → Ex × St} {r : V → Option (Option Nat × V)}
    (hr : ∀ v, round2 (mkCx3 tab gas invs hints inls rfs prs) (hdI (mkCx3 tab gas invs hints inls rfs prs) L inls none n) f body hs base keepX (mk v) = (r v).map (roundOut mk ex)) (hx : ∀ j v, exOk (ex j v).1 = true) :
    ∀ v j v', Lp r v = some (j, v') → Circles P (mkCx3 tab gas invs hints inls rfs prs) body (mk v) (ex j v').1 (ex j v').2 := by
 have hin : ∀ b ∈ loopsOf body ++ loopsInl inls ++ loopsRf rfs, b ∈ Bs := fun b hb => hB ▸ hb
 refine loop_win hcx (h.gaOk3 hP) (hdI_ok (B := fun b => b ∈ Bs) hcx (h.gaOk3 hP) (rfB_of fun b hb => hin b (List.mem_append.2 (.inr hb))) (prB_of hP) (fun p hp => ⟨h.inl p hp, fun c hc b hb => ?_⟩) (fun b T hb hT => hL b hb T hT) n) ⟨fun p hp => ?_, fun _ _ => trivial⟩ hr hx
 ·refine hin b (List.mem_append.2 (.inl (List.mem_append.2 (.inr (List.mem_flatten.2 ⟨loopsOf c, ?_, hb⟩)))))
  refine List.mem_map.2 ⟨p, hp, ?_⟩
  rw [hc]
 ·exact hin p (List.mem_append.2 (.inl (List.mem_append.2 (.inl hp))))

def evR4 {R : Type} (cx : Cx) (hd : Hd R) (fail : R) (fn : Func) (f : FuncId) (own : Option TypeId) (as : List DArg) (K : Ret → R) : R :=
 evR2 cx hd fail fn f own as fun r => K ⟨r.ok, r.row, nameVals 0 r.vals⟩
theorem nameVals_name (nm : Nat) (vs : List Arg) : nameVals nm (nameVals 0 vs) = nameVals nm vs := by
 unfold nameVals
 rw [List.map_map]
 refine List.map_congr_left fun a _ => ?_
 obtain ⟨g, cs⟩ := a
 simp only [Function.comp, List.map_map]
 congr 1
 refine List.map_congr_left fun c _ => ?_
 cases c <;> rfl
theorem ent_of_ev4 {P : Program} {cx : Cx} {m : Bool} {B : Code → Prop} {GG : RF → Prop} {hd : Hd (Option Ret)} (hcx : CxOk P cx) (hga : GaOk P cx) (hH : HdOk P cx m hd B GG) {fn : Func} {f : FuncId} (hf : FnOk P f fn) (hB : ∀ c, fn.body = some c → (∀ p ∈ loopsOf c, B p) ∧ ∀ q ∈ rfsOf c, GG q) {G : List DArg → Option Ret}
    (h : ∀ das r, G das = some r → r.ok = true → ∃ own b, evR4 cx hd none fn f own das some = some ⟨b, r.row, r.vals⟩) : EntOk P cx (fun xs => callFunc f xs.toArray) G := by
 intro das r hG hr ok w xs hx
 obtain ⟨own, b, he⟩ := h das r hG hr
 obtain ⟨r0, h0, h1⟩ := evR2_adq hcx hga hH hB he
 injection h0 with h0; injection h0 with e1 e2 e3
 refine ⟨f, xs.toArray, run_callFunc hf _, (h1 hf ok w xs hx).mono fun e w' ha => ?_⟩
 obtain ⟨x, ob, a1, a2, a3, a4, a5⟩ := ha
 refine ⟨x, ob, a1, a2, a3, by rw [← e2]; exact a4, fun nm => ?_⟩
 rw [← e3, nameVals_name]; exact a5 nm

theorem stands4 {P : Program} {tab : List (Option TI)} {gas : List (Nat × Con)} {invs : List (String × Con)} {hints : List (Nat × Nat × Hint)} {inls : List (Nat × Func)} {rfs : Rfs} {prs : Prs} {L : Loops2} {n : Nat} (hcx : CxOk P (mkCx3 tab gas invs hints inls rfs prs)) (h : Ready P tab gas invs inls) (hP : PrsOk P tab prs)
    {fn : Func} {f : FuncId} (hf : FnOk P f fn) (hq : RfsOk fn rfs) {Bs : List Code} (hB : loopsIn fn inls ++ loopsRf rfs = Bs) (hL : ∀ b ∈ Bs, ∀ T, L (firstReg b) = some T → LoopOk P (mkCx3 tab gas invs hints inls rfs prs) b T) {G : Con}
    (hG : ∀ das r, G das = some r → r.ok = true → ∃ own b, evR4 (mkCx3 tab gas invs hints inls rfs prs) (hdT (mkCx3 tab gas invs hints inls rfs prs) L inls none n) none fn f own das some = some ⟨b, r.row, r.vals⟩) : Stands P tab f G := by
 have hin : ∀ b ∈ loopsIn fn inls ++ loopsRf rfs, b ∈ Bs := fun b hb => hB ▸ hb
 refine EntOk.tt (cx := mkCx3 tab gas invs hints inls rfs prs) (cx' := mkCx tab [] [] []) rfl (ent_of_ev4 (B := fun b => b ∈ Bs) hcx (h.gaOk3 hP) (hdT_ok hcx (h.gaOk3 hP) (rfB_of fun b hb => hin b (List.mem_append.2 (.inr hb))) (prB_of hP) (fun p hp => ⟨h.inl p hp, fun c hc b hb => ?_⟩) (fun b T hb hT => hL b hb T hT) n) hf (fun c hc => ⟨fun p hp => ?_, fun q hqq => hq c hc q hqq⟩) hG)
 ·refine hin b (List.mem_append.2 (.inl (List.mem_append.2 (.inr (List.mem_flatten.2 ⟨loopsOf c, ?_, hb⟩)))))
  refine List.mem_map.2 ⟨p, hp, ?_⟩
  rw [hc]
 ·refine hin p (List.mem_append.2 (.inl (List.mem_append.2 (.inl ?_))))
  rw [hc]; exact hp
end Go.Eng
/- Functions that change a row that they are handed: what they come to on the row alone holds of it wherever it lies. -/
set_option linter.unusedVariables false
set_option linter.unusedSimpArgs false
namespace Go.Eng
open Go Go.RowKit

section
variable {P : Program}

end
end Go.Eng
/- A function's code in pieces: what stands behind a place in it is reckoned once, whatever led there. -/
set_option linter.unusedVariables false
set_option linter.unusedSimpArgs false
namespace Go.Eng
open Go Go.RowKit

section
variable {P : Program} {cx : Cx} {st st' : St}
theorem Lands.turns {m : Bool} {c : Code} {s1 s2 s3 : St} {e : Ex} (y : Lands P cx m c s1 e s2) (x : Turns cx s2 s3) : Lands P cx m c s1 e s3 := by
 refine ⟨x.1.trans y.1, fun ok w0 ρ a w Q hi hl hQ r hr => ?_⟩
 refine y.2 ok w0 ρ a w Q hi hl (fun ρ1 a1 w1 i1 g1 d1 => ?_) r hr
 have hl1 : s2.fb ≤ s2.heap.length := by rw [y.1]; exact g1.grow.len hl
 obtain ⟨ρ2, i2, g2⟩ := x.2.2 ok w0 ρ1 a1 w1 i1 hl1
 rw [y.1] at g2
 exact hQ ρ2 a1 w1 i2 (g1.trans g2) (d1.trans (Left.same rfl) g2 g1.size)

end
end Go.Eng
/- A function that changes a row, cut at a place. -/
set_option linter.unusedVariables false
set_option linter.unusedSimpArgs false
namespace Go.Eng
open Go Go.RowKit

section
variable {P : Program}
end
end Go.Eng
