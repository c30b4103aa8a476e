/- What closes a law's row where the first argument's bytes count: of no more than the form's own reach. -/
import Derived.Test.YtbjeikmkngcjlaaZD12
import Derived.SizedLaws
set_option linter.unusedVariables false
set_option linter.unusedSimpArgs false
namespace Go.Eng
open Go Go.RowKit
section
variable {H : Type} {enc : TypeId × Value → H} {P : Program} {cx : Cx} {W : World}
theorem first_len {T e : TypeId} {ts : List TypeId} {vs : List Value} {ds : List (DataW H)} {ps : List MemPlace} (hu : P.underlying T = some (.slice e)) (h : DataW.TrodAll enc P W 0 (fun _ => true) true (T :: ts) vs ds ps)
    {nl : Option Bool} {f : Bool} {t : ET} {l : List (Ty t)} {rest : List DArg} (hr : RAs cx (fun _ => none) (fun _ => True) W (liftA ((false, [.sl nl f t l]) :: rest)) vs) : l = [] ∨ ∃ es sp, ds[0]? = some (DataW.slice es sp) ∧ es.length = l.length := by
 cases vs with
 | nil => exact h.elim
 | cons v vs =>
  cases ds with
  | nil => exact h.elim
  | cons d ds =>
   obtain ⟨p, q, h1, _, _⟩ := h
   obtain ⟨fuel, hf⟩ := h1
   have h0 := hr.2 0 (by simp [liftA])
   obtain ⟨c, hc, hd⟩ : ∃ c, ([D.sl nl f t l].map C.d) = [c] ∧ RC cx (fun _ => none) (fun _ => True) W c v := h0
   simp only [List.map_cons, List.map_nil, List.cons.injEq, and_true] at hc
   subst hc
   have hd : RD cx (fun _ => True) W (.sl nl f t l) v := hd
   cases hd with
   | sl0 => exact Or.inl rfl
   | sl _ _ _ _ b off cap vs2 h0 h1 h2 h3 h4 hc hr =>
    right
    rcases DataW.trod_slice hu hf with ⟨e1, _⟩ | ⟨a, len, cap2, es, rest2, n, _, e1, e2, _, _, _, e3, _⟩
    ·have e1 : [Value.slice (some ⟨b, off, none⟩) l.length cap] = [Value.slice none 0 0] := e1
     injection e1 with e1 _
     injection e1 with e1 _ _
     cases e1
    ·have e1 : [Value.slice (some ⟨b, off, none⟩) l.length cap] = [Value.slice (some a) len cap2] := e1
     injection e1 with e1 _
     injection e1 with _ e1 _
     injection e2 with e2 _
     exact ⟨_, _, congrArg some e2, by rw [List.length_map, e3]; exact e1.symm⟩
theorem nth_len {e T : TypeId} (hu : P.underlying T = some (.slice e)) {nl : Option Bool} {f : Bool} {t : ET} {l : List (Ty t)} : ∀ (j : Nat) (ts : List TypeId) (vs : List Value) (ds : List (DataW H)) (ps : List MemPlace) (das : List DArg), ts[j]? = some T → das[j]? = some (false, [D.sl nl f t l]) →
    DataW.TrodAll enc P W 0 (fun _ => true) true ts vs ds ps → RAs cx (fun _ => none) (fun _ => True) W (liftA das) vs → l = [] ∨ ∃ es sp, ds[j]? = some (DataW.slice es sp) ∧ es.length = l.length
 | 0, ts, vs, ds, ps, das, hT, hd, h, hr => by
  cases ts with
  | nil => cases hT
  | cons T' ts =>
   cases das with
   | nil => cases hd
   | cons a das =>
    simp only [List.getElem?_cons_zero, Option.some.injEq] at hT hd
    subst hT; subst hd
    exact first_len hu h hr
 | j + 1, ts, vs, ds, ps, das, hT, hd, h, hr => by
  cases ts with
  | nil => cases hT
  | cons T' ts =>
   cases das with
   | nil => cases hd
   | cons a das =>
    cases vs with
    | nil => exact h.elim
    | cons v vs =>
     cases ds with
     | nil => exact h.elim
     | cons d ds =>
      obtain ⟨p, q, _, h2, _⟩ := h
      simp only [List.getElem?_cons_succ] at hT hd ⊢
      refine nth_len hu j ts vs ds q das hT hd h2 ⟨by simpa [liftA] using hr.1, fun k hk => ?_⟩
      have := hr.2 (k + 1) (by simpa [liftA] using hk)
      simpa [liftA] using this
theorem law_callsJ {tab : List (Option TI)} {f : FuncId} {fn : Func} {s : ChangeSpec} {apart fresh handsOn : Bool} {n : Nat} (hl : laidOutB P = true) (hs : IsLaw s n) (hn : fn.params.toList.length = n) (hr : ∀ t ∈ fn.params.toList, P.readableRec t = true ∧ t < P.types.size)
    (hf : FnOk P f fn) {tb : TypeId} (hres : fn.resultTypes = #[tb]) (hb : P.underlying tb = some .bool) {G : Con} (hG : Stands P tab f G) {ss : List Shape} (hss : shapesOk12 P fn.params.toList ss = true)
    {T e : TypeId} (j : Nat) (hT : fn.params.toList[j]? = some T) (hu : P.underlying T = some (.slice e)) {k : Nat} (hk : P.bytesOf e = k)
    (hall : ∀ das, Fits ss das → (∀ nl f t (l : List (Ty t)), das[j]? = some (false, [D.sl nl f t l]) → l.length * k ≤ reachBytes) → ∃ r, G das = some r ∧ r.ok = true ∧ r.vals = [(false, [.d (.sc (.bool true))])])
    {W : World} {base : Nat} {args : Array Value} {ds gs : List (DataW H)} {before : List MemPlace} (hval : ∀ (j : Nat) t v, fn.params[j]? = some t → args[j]? = some v → Value.okWide P W .any base t v)
    (hW : DataW.Whole enc P fn.params.toList s.vars apart W args.toList ds gs before) (hsz : (DataW.weightsEach P (fn.params.toList ++ s.plain.varTypes P) (ds ++ gs)).all (· ≤ reachBytes) = true) : Calls P f args W fun e W' => ∃ v, e = .returned v ∧ s.post enc P fn apart fresh handsOn false W args v W' := by
 have hW' := hW
 obtain ⟨p, q, hA, hV, rfl, hfz, hnd⟩ := hW
 obtain ⟨hlen, das, hfit, hRAs⟩ := open_all12 (cx := mkCx tab [] [] []) (r := .any) (b := base) _ _ _ _ ss hA hss (fun j t v ht hv => hval j t v (by simpa using ht) (by simpa using hv))
 obtain ⟨r, g1, g2, g3⟩ := hall das hfit (fun nl f t l hd => by
  rcases nth_len hu j _ _ _ _ _ hT hd hA hRAs with h | ⟨es, sp, h1, h2⟩
  ·subst h; simp
  ·have hjl : j < fn.params.toList.length := (List.getElem?_eq_some_iff.mp hT).1
   have h3 := sized_slice hsz (j := j) (t := T) (e := e) (elems := es) (spare := sp) (by rw [List.getElem?_append_left hjl]; exact hT) (by rw [List.getElem?_append_left (List.getElem?_eq_some_iff.mp h1).1]; exact h1) hu
   rw [hk] at h3
   rw [← h2]
   exact Nat.le_trans (Nat.mul_le_mul_right k (Nat.le_add_right _ _)) h3)
 obtain ⟨f', ys, e1, hc⟩ := hG das r g1 g2 (fun _ => True) W args.toList hRAs
 have hfe : f' = f ∧ ys = args := by
  have e2 := run_callFunc (w := W) hf args.toList.toArray
  rw [e2] at e1
  injection e1 with e1
  injection e1 with e1 e3
  exact ⟨e1.symm, by simpa using e3.symm⟩
 obtain ⟨rfl, rfl⟩ := hfe
 refine hc.mono fun e W' ha => ?_
 obtain ⟨x, ob, rfl, hbel, _, _, hv⟩ := ha
 refine ⟨x, rfl, ?_⟩
 rw [hs.vars] at hV
 have hgs : gs = [] ∧ q = [] := by
  cases gs with
  | nil => exact ⟨rfl, hV⟩
  | cons _ _ => exact hV.elim
 obtain ⟨rfl, rfl⟩ := hgs
 have hx : x = .bool true := by
  have := hv 0
  rw [g3] at this
  obtain ⟨c, hc, hr⟩ := this
  simp only [nameVals, ownTo, List.map_cons, List.map_nil, List.cons.injEq, and_true] at hc
  subst hc
  exact (by cases hr; rfl)
 subst hx
 have hfn := hs.fn H ds (by omega)
 have hW2 := hW'.lt
 simp only [List.append_nil] at hW' hW2
 refine ⟨ds, [], p, [], p, [], by rw [hs.vars] at hW'; simpa [hs.vars] using hW', ?_, ?_, ?_, World.keptBut_mono (fun x hx => hx.elim) (hbel.frame (fun _ => False)), fun h => by cases h⟩
 ·rw [List.append_nil, hfn, hres]
  exact ⟨[], [], shut_bool hb true, rfl, rfl⟩
 ·rw [List.append_nil, hfn]
  exact trodAll_stay hl hbel hr hA hW2 (fun x hx => by simpa using hW2 x hx)
 ·rw [hs.vars, List.append_nil, hfn]; rfl
end
end Go.Eng
