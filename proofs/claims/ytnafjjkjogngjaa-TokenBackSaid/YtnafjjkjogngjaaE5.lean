/- What is asked of the tables; operands; what reads and reckons alone. -/
import Derived.Test.YtnafjjkjogngjaaE4
set_option linter.unusedVariables false
set_option linter.unusedSimpArgs false
namespace Go.Eng
open Go Go.RowKit

def zval : D → Value
  | .sc s => s.val
  | .th _ => .nilIface
  | .nilf => .nilFunc
  | _ => .slice none 0 0
def mkv (agg : Bool) (vs : List Value) : Value := if agg then .agg vs.toArray else vs.headD undef
def zeroD : D → Prop
  | .sc _ => True
  | .sl nl _ _ l => (nl = some true ∨ nl = none) ∧ l = []
  | .th x => x = .nil
  | .nilf => True
  | _ => False

def KdOk (P : Program) (cx : Cx) (T : TypeId) : Kd → Prop
  | .int k => P.underlying T = some (.int k)
  | .bool => P.underlying T = some .bool
  | .str => P.underlying T = some .string
  | .slice e t => P.underlying T = some (.slice e) ∧ ∃ ie, cx.tt e = some ie ∧ ie.size = width t ∧ ie.zero.map zval = (enc t (dflt t)).map zval
  | .struct fs => ∃ fields : Array Field, P.underlying T = some (.struct fields) ∧ fields.toList.map (fun f => (f.offset, f.type)) = fs ∧ (fields.toList.mapM (fun f => (P.info? f.type).map fun i => (f.offset, i.size))).isSome = true
  | .array n e => P.underlying T = some (.array n e)
  | .iface => ∃ ms, P.underlying T = some (.interface ms)
  | .func => ∃ a b c, P.underlying T = some (.func a b c)
  | .other => False

structure TyOk (P : Program) (cx : Cx) (T : TypeId) (i : TI) : Prop where
  info : ∃ inf, P.info? T = some inf ∧ inf.size = i.size ∧ inf.zero = some (mkv i.agg (i.zero.map zval)) ∧ inf.bytes ≤ 4096
  und : KdOk P cx T i.kd
  len : i.zero.length = i.size
  one : i.agg = false → i.size = 1
  zok : ∀ z ∈ i.zero, zeroD z

section
variable {P : Program} {cx : Cx} {ok : Nat → Prop} {w0 : World} {ρ : Rho} {st : St} {a : Act} {w : World}

theorem toList_toArray {α : Type} (l : List α) : l.toArray.toList = l := rfl

theorem RC_cell1 {v : Value} {c : C} (h : cell1 v = some c) : RC cx ρ ok w c v := by
  unfold cell1 at h
  split at h <;> first
    | (injection h with h; subst h; first | exact RD.sc (.bool _) | exact RD.sc (.int _ _) | exact RD.sc (.str _) | exact RD.nils | exact RD.nilI)
    | cases h

theorem RCs_nil : RCs cx ρ ok w [] [] := ⟨rfl, fun j hj => by simp at hj⟩
theorem RCs_cons {c : C} {cs : List C} {v : Value} {vs : List Value} (h : RC cx ρ ok w c v) (hs : RCs cx ρ ok w cs vs) : RCs cx ρ ok w (c :: cs) (v :: vs) :=
  ⟨by simp [hs.1], fun j hj => by
    cases j with
    | zero => exact h
    | succ j => simpa using hs.2 j (by simpa using hj)⟩
theorem RCs_inv {c : C} {cs : List C} {vs : List Value} (h : RCs cx ρ ok w (c :: cs) vs) : ∃ v vs', vs = v :: vs' ∧ RC cx ρ ok w c v ∧ RCs cx ρ ok w cs vs' := by
  cases vs with
  | nil => have := h.1; simp at this
  | cons v vs' =>
    refine ⟨v, vs', rfl, h.2 0 (by simp), by have := h.1; simpa using this, fun j hj => ?_⟩
    simpa using h.2 (j + 1) (by simpa using hj)
theorem RCs_one {c : C} {vs : List Value} (h : RCs cx ρ ok w [c] vs) : ∃ v, vs = [v] ∧ RC cx ρ ok w c v := by
  obtain ⟨v, vs', rfl, h1, h2⟩ := RCs_inv h
  have := h2.1
  obtain rfl : vs' = [] := by simpa using this
  exact ⟨v, rfl, h1⟩

theorem RCs_cellsOf : ∀ (vs : List Value) (cs : List C), cellsOf vs = some cs → RCs cx ρ ok w cs vs
  | [], cs, h => by simp only [cellsOf] at h; injection h with h; subst h; exact RCs_nil
  | v :: vs, cs, h => by
    simp only [cellsOf] at h
    split at h
    · rename_i c cs' h1 h2
      injection h with h; subst h
      exact RCs_cons (RC_cell1 h1) (RCs_cellsOf vs cs' h2)
    · cases h

theorem RV_cv (v : Value) : RV cx ρ ok w (cv v) v := by
  unfold cv
  split
  · rename_i cs
    split
    · rename_i l h; exact ⟨cs.toList, by simp, RCs_cellsOf _ _ h⟩
    · trivial
  · split
    · rename_i c h; exact ⟨c, rfl, RC_cell1 h⟩
    · trivial

theorem RV_op (hi : Inv cx ok w0 ρ st a w) (x : Operand) : RV cx ρ (okc ok w0.heap.size st.heap ρ) w (opv st.env x) (a.eval x) := by
  cases x with
  | tmp t =>
    have hev : a.eval (.tmp t) = a.tmps.getD t undef := by simp [Act.eval]
    rw [hev]
    show RV _ _ _ _ (st.env.getD t .any) _
    by_cases ht : t < st.env.length
    · exact hi.env t ht
    · rw [List.getD_eq_getElem?_getD, List.getElem?_eq_none (Nat.le_of_not_lt ht)]; trivial
  | const v => exact RV_cv v
  | global g => trivial
  | func f => exact ⟨_, rfl, RD.fn f [] [] [] [] rfl rfl (fun i hi => by simp at hi) (fun i hi => by simp at hi)⟩

theorem RC_norm1 {e : Option ET} {c : C} {v : Value} (h : RC cx ρ ok w c v) : RC cx ρ ok w (norm1 e c) v := by
  unfold norm1
  split
  · rename_i t
    cases h
    exact RD.sl0 _ _ _ _ _ (fun _ => rfl) (fun e => by cases e) (fun _ => rfl) (fun _ => rfl)
  · exact h
theorem RCs_normL : ∀ (es : List (Option ET)) (cs : List C) (vs : List Value), RCs cx ρ ok w cs vs → RCs cx ρ ok w (normL es cs) vs
  | [], cs, vs, h => by cases cs <;> exact h
  | e :: es, [], vs, h => h
  | e :: es, c :: cs, vs, h => by
    obtain ⟨v, vs', rfl, h1, h2⟩ := RCs_inv h
    exact RCs_cons (RC_norm1 h1) (RCs_normL es cs vs' h2)
theorem RV_norm {T : TypeId} {v : V} {x : Value} (h : RV cx ρ ok w v x) : RV cx ρ ok w (norm cx T v) x := by
  unfold norm
  split
  · rename_i g cs
    split
    · rename_i i hi
      cases g with
      | true => obtain ⟨vs, h1, h2⟩ := h; exact ⟨vs, h1, RCs_normL _ _ _ h2⟩
      | false =>
        obtain ⟨c, h1, h2⟩ := h
        obtain rfl := h1
        cases hets : i.ets with
        | nil => exact ⟨c, by simp [normL], h2⟩
        | cons e es => exact ⟨norm1 e c, by cases es <;> simp [normL], RC_norm1 h2⟩
    · exact h
  · exact h

theorem RC_one {c : C} {v : Value} (h : RC cx ρ ok w c v) : v.oneCell' = true := by
  cases c with
  | d x =>
    cases h with
    | sc s => cases s <;> rfl
    | _ => rfl
  | ptr n off => obtain ⟨b, _, rfl⟩ := h; rfl
  | ep n t i j => obtain ⟨b, _, rfl⟩ := h; rfl
  | own n t full off len => obtain ⟨A, cap, rfl, _⟩ := h; rfl
  | clo f x y => obtain ⟨A, B, rfl, _⟩ := h; rfl

theorem getD_toArray {l : List Value} {j : Nat} : l.toArray.getD j undef = l.getD j undef := by simp

theorem ext_list {l l' : List Value} (hl : l.length = l'.length) (h : ∀ j, j < l.length → l.getD j undef = l'.getD j undef) : l = l' := by
  apply List.ext_getElem hl
  intro j h1 h2
  have := h j h1
  simpa [List.getD_eq_getElem?_getD, List.getElem?_eq_getElem h1, List.getElem?_eq_getElem h2] using this

/-- some of a row's cells -/
theorem RCs_seg {cs : List C} {vs : List Value} {off n : Nat} (h : RCs cx ρ ok w cs vs) (hl : off + n ≤ cs.length) : RCs cx ρ ok w (seg cs off n) (seg vs off n) := by
  have h1 := h.1
  refine ⟨by simp [seg, h1], fun j hj => ?_⟩
  have hj' : j < n := by simp [seg] at hj; omega
  have hd : ∀ {α : Type} (l : List α) (d : α), off + n ≤ l.length → (seg l off n).getD j d = l.getD (off + j) d := fun l d hl => by
    simp [seg, List.getD_eq_getElem?_getD, hj']
  rw [hd cs _ hl, hd vs _ (by omega)]
  exact h.2 (off + j) (by omega)
end
end Go.Eng
