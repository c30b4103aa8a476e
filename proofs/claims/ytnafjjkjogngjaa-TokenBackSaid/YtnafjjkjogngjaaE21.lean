/- What an operation looks at, and what it changes. -/
import Derived.Test.YtnafjjkjogngjaaE20
set_option linter.unusedVariables false
set_option linter.unusedSimpArgs false
namespace Go.Eng
open Go Go.RowKit

section
variable {cx : Cx} {env env' : List V} {h h' : Heap}

theorem argsOf_env : ∀ (xs : List Operand) (ts : List TypeId), (∀ x ∈ xs, opv env' x = opv env x) → argsOf cx env' xs ts = argsOf cx env xs ts
  | [], _, _ => rfl
  | x :: xs, ts, hx => by
    simp only [argsOf]
    rw [hx x (List.mem_cons_self), argsOf_env xs ts.tail (fun y hy => hx y (List.mem_cons_of_mem _ hy))]

theorem wayOf_env {c : Call} (hx : ∀ x ∈ c.operands, opv env' x = opv env x) : wayOf cx env' c = wayOf cx env c := by
  unfold wayOf
  rw [argsOf_env c.args.toList c.argTypes.toList (fun x hm => hx x (by simp [Call.operands, Array.mem_toList_iff.1 hm]))]
  cases hc : c.callee with
  | value f => simp only [hx f (by simp [Call.operands, hc])]
  | invoke r m => simp only [hx r (by simp [Call.operands, hc])]
  | builtin b => rfl

theorem inlE_env {o : Oper} (hx : ∀ x ∈ o.op.operands, opv env' x = opv env x) : inlE cx env' o = inlE cx env o := by
  unfold inlE
  cases ho : o.op <;> simp only [ho, Op.operands] at hx ⊢
  rename_i c
  rw [wayOf_env hx]

theorem fillB_env {T : TypeId} : ∀ (ps : List (Nat × Operand)) (cs : List C), (∀ p ∈ ps, opv env' p.2 = opv env p.2) → fillB cx T env' ps cs = fillB cx T env ps cs
  | [], _, _ => rfl
  | (i, x) :: r, cs, hx => by
    have e1 : opv env' x = opv env x := hx (i, x) List.mem_cons_self
    have ih := fun cs => fillB_env (T := T) r cs (fun p hp => hx p (List.mem_cons_of_mem _ hp))
    simp only [fillB, e1, ih]
theorem fillA_env {F : TypeId} {fi : TI} : ∀ (ps : List (Nat × Operand)) (cs : List C), (∀ p ∈ ps, opv env' p.2 = opv env p.2) → fillA cx F fi env' ps cs = fillA cx F fi env ps cs
  | [], _, _ => rfl
  | (i, x) :: r, cs, hx => by
    have e1 : opv env' x = opv env x := hx (i, x) List.mem_cons_self
    have ih := fun cs => fillA_env (F := F) (fi := fi) r cs (fun p hp => hx p (List.mem_cons_of_mem _ hp))
    simp only [fillA, e1, ih]
theorem rowsB_env {e : TypeId} {t : ET} : ∀ (ps : List (Nat × Operand)) (l : List (Ty t)) (ks : List Nat) (p : Bool), (∀ p ∈ ps, opv env' p.2 = opv env p.2) → rowsB cx e t env' h ps l ks p = rowsB cx e t env h ps l ks p
  | [], _, _, _, _ => rfl
  | (i, x) :: r, l, ks, p, hx => by
    have e1 : opv env' x = opv env x := hx (i, x) List.mem_cons_self
    have ih := fun l ks p => rowsB_env (e := e) (t := t) r l ks p (fun p hp => hx p (List.mem_cons_of_mem _ hp))
    simp only [rowsB, e1, ih]
theorem bnd_env {x : Option Operand} (hx : ∀ y, x = some y → opv env' y = opv env y) : bnd env' x = bnd env x := by
  cases x with
  | none => rfl
  | some y => simp only [bnd, hx y rfl]
theorem map_env {xs : List Operand} (hx : ∀ x ∈ xs, opv env' x = opv env x) : xs.map (opv env') = xs.map (opv env) := List.map_congr_left hx

theorem opE_env {nm : Nat} {o : Oper} (hx : ∀ x ∈ o.op.operands, opv env' x = opv env x) : opE cx nm env' h o = opE cx nm env h o := by
  cases ho : o.op <;> simp only [ho, Op.operands] at hx <;> simp only [opE, ho]
  case build T ps =>
    have ih := fun cs => fillB_env (cx := cx) (T := T) ps.toList cs (fun p hp => hx p.2 (by simpa using ⟨p.1, Array.mem_toList_iff.1 hp⟩))
    have ih2 := fun F fi cs => fillA_env (cx := cx) (F := F) (fi := fi) ps.toList cs (fun p hp => hx p.2 (by simpa using ⟨p.1, Array.mem_toList_iff.1 hp⟩))
    simp only [ih, ih2]
  case buildSlice T n ps =>
    have ih := fun e t l ks p => rowsB_env (cx := cx) (h := h) (e := e) (t := t) ps.toList l ks p (fun p hp => hx p.2 (by simpa using ⟨p.1, Array.mem_toList_iff.1 hp⟩))
    simp only [ih]
  case load T x => simp only [loadE, hx x (by simp)]
  case store T x y => simp only [storeE, hx x (by simp), hx y (by simp)]
  case makeFunc fn first caps =>
    rw [map_env (xs := first.toList) (fun x hm => hx x (by simp [Array.mem_toList_iff.1 hm])), map_env (xs := caps.toList) (fun x hm => hx x (by simp [Array.mem_toList_iff.1 hm]))]
  case call c =>
    rw [wayOf_env hx, map_env (xs := c.args.toList) (fun x hm => hx x (by simp [Call.operands, Array.mem_toList_iff.1 hm]))]
  case slice T x lo hi mx =>
    rw [hx x (by simp), bnd_env (x := lo) (fun y hy => hx y (by simp [hy])), bnd_env (x := hi) (fun y hy => hx y (by simp [hy])), bnd_env (x := mx) (fun y hy => hx y (by simp [hy]))]
  all_goals first
    | rfl
    | (simp_all; done)
    | skip
end
end Go.Eng
