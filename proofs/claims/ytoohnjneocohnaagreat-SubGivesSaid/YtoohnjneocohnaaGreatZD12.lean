/- What closes a law's row, where types lie deep in each other. -/
import Derived.Test.YtoohnjneocohnaaGreatZE3
set_option linter.unusedVariables false
set_option linter.unusedSimpArgs false
namespace Go.Eng
open Go Go.RowKit

def shapesOk12 (P : Program) : List TypeId → List Shape → Bool
 | [], [] => true
 | t :: ts, s :: ss => opC P 12 t s.2 && (s.1 == (match P.underlying t with
  | some (.struct _) => true
  | _ => false)) && shapesOk12 P ts ss
 | _, _ => false

section
variable {H : Type} {enc : TypeId × Value → H} {P : Program} {cx : Cx} {W : World}
theorem open_all12 {r : Reach} {b : Nat} : ∀ (ts : List TypeId) (vs : List Value) (ds : List (DataW H)) (ps : List MemPlace) (ss : List Shape), DataW.TrodAll enc P W 0 (fun _ => true) true ts vs ds ps → shapesOk12 P ts ss = true →
    (∀ (j : Nat) (t : TypeId) (v : Value), ts[j]? = some t → vs[j]? = some v → Value.okWide P W r b t v) → ds.length = ts.length ∧ ∃ das : List DArg, Fits ss das ∧ RAs cx (fun _ => none) (fun _ => True) W (liftA das) vs
 | [], vs, ds, ps, ss, h, hs, hv => by
  cases ss with
  | nil =>
   cases vs with
   | nil => cases ds with
    | nil => exact ⟨rfl, [], trivial, rfl, fun j hj => by simp [liftA] at hj⟩
    | cons _ _ => exact h.elim
   | cons _ _ => exact h.elim
  | cons _ _ => cases hs
 | t :: ts, vs, ds, ps, ss, h, hs, hv => by
  cases ss with
  | nil => cases hs
  | cons s ss =>
   cases vs with
   | nil => exact h.elim
   | cons v vs =>
    cases ds with
    | nil => exact h.elim
    | cons d ds =>
     obtain ⟨p, q, h1, h2, _⟩ := h
     simp only [shapesOk12, Bool.and_eq_true, beq_iff_eq] at hs
     obtain ⟨⟨ho, hg⟩, hs⟩ := hs
     obtain ⟨hl, das, k1, k2⟩ := open_all12 ts vs ds q ss h2 hs (fun j t v ht hv' => hv (j + 1) t v (by simpa using ht) (by simpa using hv'))
     obtain ⟨fuel, hf⟩ := h1
     obtain ⟨dd, q1, q2, q3, q4⟩ := open_ty (cx := cx) 12 fuel t s.2 _ _ ho hf
     have hv0 := hv 0 t v rfl rfl
     refine ⟨by simp [hl], (s.1, dd) :: das, ⟨⟨rfl, q1, q2, q3⟩, k1⟩, by simp [liftA, k2.1], fun j hj => ?_⟩
     cases j with
     | succ j => simpa [liftA] using k2.2 j (by simpa [liftA] using hj)
     | zero =>
      show RA cx _ _ W (s.1, dd.map .d) v
      have hRCs : RCs cx (fun _ => none) (fun _ => True) W (dd.map .d) v.cells.toList := ⟨by simpa using q4.1, fun j hj => by
       have hj' : j < dd.length := by simpa using hj
       have e : (dd.map C.d).getD j (.d .nils) = .d (dd.getD j .nils) := by simp [List.getD_eq_getElem?_getD, hj']
       rw [e]
       exact q4.2 j hj'⟩
      by_cases hst : ∃ fs, P.underlying t = some (.struct fs)
      ·obtain ⟨fs, hfs⟩ := hst
       rw [hfs] at hg
       rw [hg]
       unfold Value.okWide at hv0
       rw [hfs] at hv0
       obtain ⟨cs, rfl, _⟩ := hv0
       exact ⟨cs.toList, by simp, hRCs⟩
      ·have hne : ∀ fs, P.underlying t ≠ some (.struct fs) := fun fs e => hst ⟨fs, e⟩
       obtain ⟨c1, c2⟩ := cells_one hv0 ho hne
       have hg' : s.1 = false := by
        rw [hg]; split
        ·rename_i fs e; exact absurd e (hne fs)
        ·rfl
       rw [hg']
       have hlen : dd.length = 1 := by
        have := congrArg List.length q1
        simp only [List.length_map] at this
        omega
       match dd, hlen, hRCs with
       | [x], _, hRCs =>
        refine ⟨.d x, rfl, ?_⟩
        have := hRCs.2 0 (by simp)
        rw [c1] at this
        simpa using this

theorem law_calls12 {tab : List (Option TI)} {f : FuncId} {fn : Func} {s : ChangeSpec} {apart fresh handsOn : Bool} {n : Nat} (hl : laidOutB P = true) (hs : IsLaw s n) (hn : fn.params.toList.length = n) (hr : ∀ t ∈ fn.params.toList, P.readableRec t = true ∧ t < P.types.size)
    (hf : FnOk P f fn) {tb : TypeId} (hres : fn.resultTypes = #[tb]) (hb : P.underlying tb = some .bool) {G : Con} (hG : Stands P tab f G) {ss : List Shape} (hss : shapesOk12 P fn.params.toList ss = true)
    (hall : ∀ das, Fits ss das → ∃ r, G das = some r ∧ r.ok = true ∧ r.vals = [(false, [.d (.sc (.bool true))])])
    {W : World} {base : Nat} {args : Array Value} {ds gs : List (DataW H)} {before : List MemPlace} (hval : ∀ (j : Nat) t v, fn.params[j]? = some t → args[j]? = some v → Value.okWide P W .any base t v)
    (hW : DataW.Whole enc P fn.params.toList s.vars apart W args.toList ds gs before) : Calls P f args W fun e W' => ∃ v, e = .returned v ∧ s.post enc P fn apart fresh handsOn false W args v W' := by
 have hW' := hW
 obtain ⟨p, q, hA, hV, rfl, hfz, hnd⟩ := hW
 obtain ⟨hlen, das, hfit, hRAs⟩ := open_all12 (cx := mkCx tab [] [] []) (r := .any) (b := base) _ _ _ _ ss hA hss (fun j t v ht hv => hval j t v (by simpa using ht) (by simpa using hv))
 obtain ⟨r, g1, g2, g3⟩ := hall das hfit
 obtain ⟨f', ys, e1, hc⟩ := hG das r g1 g2 (fun _ => True) W args.toList hRAs
 have hfe : f' = f ∧ ys = args := by
  have e2 := run_callFunc (w := W) hf args.toList.toArray
  rw [e2] at e1
  injection e1 with e1
  injection e1 with e1 e3
  exact ⟨e1.symm, by simpa using e3.symm⟩
 obtain ⟨rfl, rfl⟩ := hfe
 refine hc.mono fun e W' ha => ?_
 obtain ⟨x, ob, rfl, hbel, _, _, hv⟩ := ha
 refine ⟨x, rfl, ?_⟩
 rw [hs.vars] at hV
 have hgs : gs = [] ∧ q = [] := by
  cases gs with
  | nil => exact ⟨rfl, hV⟩
  | cons _ _ => exact hV.elim
 obtain ⟨rfl, rfl⟩ := hgs
 have hx : x = .bool true := by
  have := hv 0
  rw [g3] at this
  obtain ⟨c, hc, hr⟩ := this
  simp only [nameVals, ownTo, List.map_cons, List.map_nil, List.cons.injEq, and_true] at hc
  subst hc
  exact (by cases hr; rfl)
 subst hx
 have hfn := hs.fn H ds (by omega)
 have hW2 := hW'.lt
 simp only [List.append_nil] at hW' hW2
 refine ⟨ds, [], p, [], p, [], by rw [hs.vars] at hW'; simpa [hs.vars] using hW', ?_, ?_, ?_, World.keptBut_mono (fun x hx => hx.elim) (hbel.frame (fun _ => False)), fun h => by cases h⟩
 ·rw [List.append_nil, hfn, hres]
  exact ⟨[], [], shut_bool hb true, rfl, rfl⟩
 ·rw [List.append_nil, hfn]
  exact trodAll_stay hl hbel hr hA hW2 (fun x hx => by simpa using hW2 x hx)
 ·rw [hs.vars, List.append_nil, hfn]; rfl
end
end Go.Eng
