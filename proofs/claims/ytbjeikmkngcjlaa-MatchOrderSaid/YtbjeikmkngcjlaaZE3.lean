/- The evaluator, part 3: the texts E39, E40, E41, E42 in one file. -/
import Derived.Test.YtbjeikmkngcjlaaZE2
import Derived.Handed
import Derived.JoinedOf
import Derived.ChangeSame
import Derived.RowKit
/- What closes a law's row: a function of which it is known that it hands back true, whatever data it is called with. -/
set_option linter.unusedVariables false
set_option linter.unusedSimpArgs false
namespace Go.Eng
open Go Go.RowKit

abbrev Shape := Bool × List D
def Fit1 (s : Shape) (a : DArg) : Prop := a.1 = s.1 ∧ a.2.map kd = s.2.map kd ∧ (∀ d ∈ a.2, wfD d) ∧ ∀ d ∈ a.2, flagsD d
def Fits : List Shape → List DArg → Prop
  | [], [] => True
  | s :: ss, a :: as => Fit1 s a ∧ Fits ss as
  | _, _ => False
def shapesOk (P : Program) : List TypeId → List Shape → Bool
  | [], [] => true
  | t :: ts, s :: ss => opC P 8 t s.2 && (s.1 == (match P.underlying t with
    | some (.struct _) => true
    | _ => false)) && shapesOk P ts ss
  | _, _ => false

theorem fits_cons {s : Shape} {ss : List Shape} {das : List DArg} (h : Fits (s :: ss) das) : ∃ a as, das = a :: as ∧ Fit1 s a ∧ Fits ss as := by
  cases das with
  | nil => exact h.elim
  | cons a as => exact ⟨a, as, rfl, h.1, h.2⟩
theorem fits_nil {das : List DArg} (h : Fits [] das) : das = [] := by
  cases das with
  | nil => rfl
  | cons a as => exact h.elim

section
variable {H : Type} {enc : TypeId × Value → H} {P : Program} {cx : Cx} {W : World}

theorem cells_one {r : Reach} {b : Nat} {t : TypeId} {v : Value} (hv : Value.okWide P W r b t v) {d : Nat} {z : List D} (ho : opC P d t z = true) (hs : ∀ fs, P.underlying t ≠ some (.struct fs)) : v.cells = #[v] ∧ z.length = 1 := by
  cases d with
  | zero => cases ho
  | succ d =>
    unfold opC at ho
    unfold Value.okWide at hv
    split at ho
    · rename_i k k' n hu
      rw [hu] at hv
      simp only [Cell.okWide, hu, Cell.ok] at hv
      refine ⟨?_, rfl⟩
      cases v <;> first | rfl | exact absurd hv (by simp)
    · rename_i b hu
      rw [hu] at hv
      simp only [Cell.okWide, hu, Cell.ok] at hv
      refine ⟨?_, rfl⟩
      cases v <;> first | rfl | exact absurd hv (by simp)
    · rename_i s hu
      rw [hu] at hv
      simp only [Cell.okWide, hu, Cell.ok] at hv
      refine ⟨?_, rfl⟩
      cases v <;> first | rfl | exact absurd hv (by simp)
    · rename_i e nl full t' l hu
      rw [hu] at hv
      simp only [Cell.okWide, hu, Cell.ok] at hv
      refine ⟨?_, rfl⟩
      cases v <;> first | rfl | exact absurd hv (by simp)
    · rename_i fs hu; exact absurd hu (hs fs)
    · cases ho

theorem open_all {r : Reach} {b : Nat} : ∀ (ts : List TypeId) (vs : List Value) (ds : List (DataW H)) (ps : List MemPlace) (ss : List Shape), DataW.TrodAll enc P W 0 (fun _ => true) true ts vs ds ps → shapesOk P ts ss = true →
    (∀ (j : Nat) (t : TypeId) (v : Value), ts[j]? = some t → vs[j]? = some v → Value.okWide P W r b t v) → ds.length = ts.length ∧ ∃ das : List DArg, Fits ss das ∧ RAs cx (fun _ => none) (fun _ => True) W (liftA das) vs
  | [], vs, ds, ps, ss, h, hs, hv => by
    cases ss with
    | nil =>
      cases vs with
      | nil => cases ds with
        | nil => exact ⟨rfl, [], trivial, rfl, fun j hj => by simp [liftA] at hj⟩
        | cons _ _ => exact h.elim
      | cons _ _ => exact h.elim
    | cons _ _ => cases hs
  | t :: ts, vs, ds, ps, ss, h, hs, hv => by
    cases ss with
    | nil => cases hs
    | cons s ss =>
      cases vs with
      | nil => exact h.elim
      | cons v vs =>
        cases ds with
        | nil => exact h.elim
        | cons d ds =>
          obtain ⟨p, q, h1, h2, _⟩ := h
          simp only [shapesOk, Bool.and_eq_true, beq_iff_eq] at hs
          obtain ⟨⟨ho, hg⟩, hs⟩ := hs
          obtain ⟨hl, das, k1, k2⟩ := open_all ts vs ds q ss h2 hs (fun j t v ht hv' => hv (j + 1) t v (by simpa using ht) (by simpa using hv'))
          obtain ⟨fuel, hf⟩ := h1
          obtain ⟨dd, q1, q2, q3, q4⟩ := open_ty (cx := cx) 8 fuel t s.2 _ _ ho hf
          have hv0 := hv 0 t v rfl rfl
          refine ⟨by simp [hl], (s.1, dd) :: das, ⟨⟨rfl, q1, q2, q3⟩, k1⟩, by simp [liftA, k2.1], fun j hj => ?_⟩
          cases j with
          | succ j => simpa [liftA] using k2.2 j (by simpa [liftA] using hj)
          | zero =>
            show RA cx _ _ W (s.1, dd.map .d) v
            have hRCs : RCs cx (fun _ => none) (fun _ => True) W (dd.map .d) v.cells.toList := ⟨by simpa using q4.1, fun j hj => by
              have hj' : j < dd.length := by simpa using hj
              have e : (dd.map C.d).getD j (.d .nils) = .d (dd.getD j .nils) := by simp [List.getD_eq_getElem?_getD, hj']
              rw [e]
              exact q4.2 j hj'⟩
            by_cases hst : ∃ fs, P.underlying t = some (.struct fs)
            · obtain ⟨fs, hfs⟩ := hst
              rw [hfs] at hg
              rw [hg]
              unfold Value.okWide at hv0
              rw [hfs] at hv0
              obtain ⟨cs, rfl, _⟩ := hv0
              exact ⟨cs.toList, by simp, hRCs⟩
            · have hne : ∀ fs, P.underlying t ≠ some (.struct fs) := fun fs e => hst ⟨fs, e⟩
              obtain ⟨c1, c2⟩ := cells_one hv0 ho hne
              have hg' : s.1 = false := by
                rw [hg]; split
                · rename_i fs e; exact absurd e (hne fs)
                · rfl
              rw [hg']
              have hlen : dd.length = 1 := by
                have := congrArg List.length q1
                simp only [List.length_map] at this
                omega
              match dd, hlen, hRCs with
              | [x], _, hRCs =>
                refine ⟨.d x, rfl, ?_⟩
                have := hRCs.2 0 (by simp)
                rw [c1] at this
                simpa using this

/-- 'the law hands back true, and its arguments as they came' -/
structure IsLaw (s : ChangeSpec) (n : Nat) : Prop where
  vars : s.vars = []
  fn : ∀ (H : Type) (ds : List (DataW H)), ds.length = n → s.fn H ds = { results := [.lit (.bool true)], args := ds }

theorem trodAll_stay (hl : laidOutB P = true) {W W' : World} (hb : Below W.heap.size W W') : ∀ {ts : List TypeId} {vs : List Value} {ds : List (DataW H)} {ps : List MemPlace} {sp : Nat → Bool},
    (∀ t ∈ ts, P.readableRec t = true ∧ t < P.types.size) → DataW.TrodAll enc P W 0 (fun _ => true) true ts vs ds ps → (∀ p ∈ ps, p.block < W.heap.size) → (∀ p ∈ ps, sp p.block = true) → DataW.TrodAll enc P W' 0 sp true ts vs ds ps
  | [], [], [], _, _, _, h, _, _ => h
  | [], [], _ :: _, _, _, _, h, _, _ => h.elim
  | [], _ :: _, _, _, _, _, h, _, _ => h.elim
  | _ :: _, [], _, _, _, _, h, _, _ => h.elim
  | _ :: _, _ :: _, [], _, _, _, h, _, _ => h.elim
  | t :: ts, v :: vs, d :: ds, ps, sp, hr, h, hlt, hsp => by
    obtain ⟨p, q, h1, h2, e⟩ := h
    subst e
    refine ⟨p, q, WideElems.Trod_stays hl (hr t List.mem_cons_self).1 (hr t List.mem_cons_self).2 h1 (fun x hx => hb.same (hlt x (List.mem_append.2 (.inl hx)))) (fun x hx => hsp x (List.mem_append.2 (.inl hx))), ?_, rfl⟩
    exact trodAll_stay hl hb (fun t ht => hr t (List.mem_cons_of_mem _ ht)) h2 (fun x hx => hlt x (List.mem_append.2 (.inr hx))) (fun x hx => hsp x (List.mem_append.2 (.inr hx)))

theorem law_calls {tab : List (Option TI)} {f : FuncId} {fn : Func} {s : ChangeSpec} {apart fresh handsOn : Bool} {n : Nat} (hl : laidOutB P = true) (hs : IsLaw s n) (hn : fn.params.toList.length = n) (hr : ∀ t ∈ fn.params.toList, P.readableRec t = true ∧ t < P.types.size)
    (hf : FnOk P f fn) {tb : TypeId} (hres : fn.resultTypes = #[tb]) (hb : P.underlying tb = some .bool) {G : Con} (hG : Stands P tab f G) {ss : List Shape} (hss : shapesOk P fn.params.toList ss = true)
    (hall : ∀ das, Fits ss das → ∃ r, G das = some r ∧ r.ok = true ∧ r.vals = [(false, [.d (.sc (.bool true))])])
    {W : World} {base : Nat} {args : Array Value} {ds gs : List (DataW H)} {before : List MemPlace} (hval : ∀ (j : Nat) t v, fn.params[j]? = some t → args[j]? = some v → Value.okWide P W .any base t v)
    (hW : DataW.Whole enc P fn.params.toList s.vars apart W args.toList ds gs before) : Calls P f args W fun e W' => ∃ v, e = .returned v ∧ s.post enc P fn apart fresh handsOn false W args v W' := by
  have hW' := hW
  obtain ⟨p, q, hA, hV, rfl, hfz, hnd⟩ := hW
  obtain ⟨hlen, das, hfit, hRAs⟩ := open_all (cx := mkCx tab [] [] []) (r := .any) (b := base) _ _ _ _ ss hA hss (fun j t v ht hv => hval j t v (by simpa using ht) (by simpa using hv))
  obtain ⟨r, g1, g2, g3⟩ := hall das hfit
  obtain ⟨f', ys, e1, hc⟩ := hG das r g1 g2 (fun _ => True) W args.toList hRAs
  have hfe : f' = f ∧ ys = args := by
    have e2 := run_callFunc (w := W) hf args.toList.toArray
    rw [e2] at e1
    injection e1 with e1
    injection e1 with e1 e3
    exact ⟨e1.symm, by simpa using e3.symm⟩
  obtain ⟨rfl, rfl⟩ := hfe
  refine hc.mono fun e W' ha => ?_
  obtain ⟨x, ob, rfl, hbel, _, _, hv⟩ := ha
  refine ⟨x, rfl, ?_⟩
  rw [hs.vars] at hV
  have hgs : gs = [] ∧ q = [] := by
    cases gs with
    | nil => exact ⟨rfl, hV⟩
    | cons _ _ => exact hV.elim
  obtain ⟨rfl, rfl⟩ := hgs
  have hx : x = .bool true := by
    have := hv 0
    rw [g3] at this
    obtain ⟨c, hc, hr⟩ := this
    simp only [nameVals, ownTo, List.map_cons, List.map_nil, List.cons.injEq, and_true] at hc
    subst hc
    exact (by cases hr; rfl)
  subst hx
  have hfn := hs.fn H ds (by omega)
  have hW2 := hW'.lt
  simp only [List.append_nil] at hW' hW2
  refine ⟨ds, [], p, [], p, [], by rw [hs.vars] at hW'; simpa [hs.vars] using hW', ?_, ?_, ?_, World.keptBut_mono (fun x hx => hx.elim) (hbel.frame (fun _ => False)), fun h => by cases h⟩
  · rw [List.append_nil, hfn, hres]
    exact ⟨[], [], shut_bool hb true, rfl, rfl⟩
  · rw [List.append_nil, hfn]
    exact trodAll_stay hl hbel hr hA hW2 (fun x hx => by simpa using hW2 x hx)
  · rw [hs.vars, List.append_nil, hfn]; rfl
end
end Go.Eng
/- A nil slice that is handed out stands for a row of the call's own that has no elements; what is alike for a nil slice and for one that is not. -/
set_option linter.unusedVariables false
set_option linter.unusedSimpArgs false
namespace Go.Eng
open Go Go.RowKit

def promA (T : TypeId) (rs : List Arg) (h : Heap) : List Arg × Heap := match rs with
  | (false, [.d (.sl _ true t [])]) :: r => ((false, [.own h.length t false 0 0]) :: r, h ++ [some (.arr T t [])])
  | rs => (rs, h)
def promO (own : Option TypeId) (rs : List Arg) (h : Heap) : List Arg × Heap := match own with
  | some T => promA T rs h
  | none => (rs, h)

/-- a function as a whole -/
def evR2 {R : Type} (cx : Cx) (hd : Hd R) (fail : R) (fn : Func) (f : FuncId) (own : Option TypeId) (as : List DArg) (K : Ret → R) : R :=
  evFun cx hd fail fn f (liftA as) [] fun rs h => match retOf own.isSome (promO own rs h).1 (promO own rs h).2 with
    | some r => cond r.ok (K ⟨true, r.row, r.vals⟩) fail
    | none => fail

section
variable {P : Program} {cx : Cx} {ok : Nat → Prop} {w0 : World} {ρ : Rho} {w : World} {h : Heap}

theorem prom_hv (T : TypeId) (t : ET) (hi : HInv cx ok w0 ρ h w) : HInv cx ok w0 ρ (h ++ [some (.arr T t [])]) w ∧ ∀ k, okc ok w0.heap.size h ρ k ↔ okc ok w0.heap.size (h ++ [some (.arr T t [])]) ρ k := by
  have h0 : Inv cx ok w0 ρ ⟨[], h, 0⟩ { tmps := #[], defers := [] } w := ⟨rfl, fun t ht => by simp at ht, hi.heap, hi.inj, hi.own, hi.fresh, hi.below, rfl⟩
  obtain ⟨h1, h2⟩ := turns_push T t ok w0 ρ _ w h0
  exact ⟨h1.hv, h2⟩
theorem HInv.lt' (hi : HInv cx ok w0 ρ h w) : ∀ n b, ρ n = some b → b < w.heap.size := fun n b e => (hi.own n b e).2

theorem prom_rv (T : TypeId) (hi : HInv cx ok w0 ρ h w) {rs : List Arg} {x : Value} (hr : RV cx ρ (okc ok w0.heap.size h ρ) w (valOf rs) x) :
    HInv cx ok w0 ρ (promA T rs h).2 w ∧ (∀ k, okc ok w0.heap.size h ρ k ↔ okc ok w0.heap.size (promA T rs h).2 ρ k) ∧ RV cx ρ (okc ok w0.heap.size (promA T rs h).2 ρ) w (valOf (promA T rs h).1) x := by
  unfold promA
  split
  · rename_i nl t r
    obtain ⟨h1, h2⟩ := prom_hv (cx := cx) T t hi
    refine ⟨h1, h2, ?_⟩
    have hx : ∀ N, Ext N (okc ok w0.heap.size h ρ) (okc ok w0.heap.size (h ++ [some (.arr T t [])]) ρ) ρ ρ w w := fun N => ⟨fun _ _ _ e => e, fun _ _ _ => rfl, fun k _ hk => (h2 k).1 hk, fun _ _ => rfl, Nat.le_refl _⟩
    have key : ∀ v, RA cx ρ (okc ok w0.heap.size h ρ) w (false, [.d (.sl nl true t [])]) v → RA cx ρ (okc ok w0.heap.size (h ++ [some (.arr T t [])]) ρ) w (false, [.own h.length t false 0 0]) v := fun v hv => by
      obtain ⟨c, hc, hd⟩ := hv
      simp only [List.cons.injEq, and_true] at hc
      subst hc
      have hd : RD cx (okc ok w0.heap.size h ρ) w (.sl nl true t []) v := hd
      refine ⟨_, rfl, ?_⟩
      cases hd with
      | sl0 _ _ _ A cap q1 q2 q3 q4 => exact ⟨A, cap, rfl, Nat.zero_le _, (by intro h; cases h), fun hc => absurd (q3 rfl) hc⟩
      | sl _ _ _ _ b off cap vs q0 => exact absurd rfl q0
    match r, hr with
    | [], hr => exact key x hr
    | g :: r, hr =>
      obtain ⟨xs, e1, q1⟩ := hr
      refine ⟨xs, e1, q1.1, fun j hj => ?_⟩
      cases j with
      | zero => exact key _ (q1.2 0 (by simp))
      | succ j => exact Ext.all_A hx hi.lt' (q1.2 (j + 1) (by simpa using hj))
  · exact ⟨hi, fun k => Iff.rfl, hr⟩
theorem promO_rv (own : Option TypeId) (hi : HInv cx ok w0 ρ h w) {rs : List Arg} {x : Value} (hr : RV cx ρ (okc ok w0.heap.size h ρ) w (valOf rs) x) :
    HInv cx ok w0 ρ (promO own rs h).2 w ∧ (∀ k, okc ok w0.heap.size h ρ k ↔ okc ok w0.heap.size (promO own rs h).2 ρ k) ∧ RV cx ρ (okc ok w0.heap.size (promO own rs h).2 ρ) w (valOf (promO own rs h).1) x := by
  cases own with
  | some T => exact prom_rv T hi hr
  | none => exact ⟨hi, fun k => Iff.rfl, hr⟩

theorem evR2_ok {B : Code → Prop} {hd : Hd (Option Ret)} (hcx : CxOk P cx) (hga : GaOk P cx) (hH : HdOk P cx hd B) {fn : Func} {f : FuncId} {own : Option TypeId} {das : List DArg} {r : Ret} (hB : ∀ c, fn.body = some c → ∀ p ∈ loopsOf c, B p) (he : evR2 cx hd none fn f own das some = some r) (hf : FnOk P f fn) (ok : Nat → Prop) (w : World) (xs : List Value)
    (hx : RAs cx (fun _ => none) ok w (liftA das) xs) : Calls P f xs.toArray w (After cx ok w r) := by
  obtain ⟨rs, h', h1, h2⟩ := fun_adq hcx hga hH hB he
  have h0 : HInv cx ok w (fun _ => none) [] w := ⟨fun n b hn => by simp [lk] at hn, fun n m b hn => by simp [lk] at hn, (by intro n b e; cases e), fun _ _ => rfl, Below.refl _ _⟩
  have hx' : RAs cx (fun _ => none) (okc ok w.heap.size [] (fun _ => none)) w (liftA das) xs := by
    refine hx.ext (N := 0) ⟨fun _ _ h => by omega, fun _ _ _ => rfl, fun k _ hk => ⟨.inl hk, fun n hn => by simp [lk] at hn⟩, fun _ _ => rfl, Nat.le_refl _⟩ (by intro n b e; cases e) (fun a ha c hc => ?_)
    simp only [liftA, List.mem_map] at ha
    obtain ⟨d, _, rfl⟩ := ha
    simp only [List.mem_map] at hc
    obtain ⟨y, _, rfl⟩ := hc
    trivial
  refine (h1 hf ok w (fun _ => none) w xs h0 hx').mono fun e w' ha => ?_
  obtain ⟨x, ρ', rfl, k1, k2, k3⟩ := ha
  obtain ⟨k2, _, k3⟩ := promO_rv own k2 k3
  generalize (promO own rs h').1 = rs2 at h2 k3
  generalize (promO own rs h').2 = h3 at h2 k2 k3
  split at h2
  · rename_i r0 hr0
    cases hok : r0.ok with
    | false => rw [hok] at h2; cases h2
    | true =>
      rw [hok] at h2
      injection h2 with h2; subst h2
      unfold retOf at hr0
      split at hr0
      · split at hr0
        · rename_i vs p hv
          injection hr0 with hr0; subst hr0
          have hnone : ρ' h3.length = none := k2.fresh _ (Nat.le_refl _)
          refine ⟨x, none, rfl, k2.below, (by intro b e; cases e), trivial, fun nm => ?_⟩
          have := ret_vals k2 (n := h3.length) (by intro b e; rw [hnone] at e; cases e) hv hok k3 nm
          rw [hnone] at this
          exact this
        · cases hr0
      · rename_i n0 hn0
        split at hr0
        · rename_i T t l vs p hk hv
          injection hr0 with hr0; subst hr0
          refine ⟨x, ρ' n0, rfl, k2.below, fun b e => k2.own n0 b e, ?_, fun nm => ret_vals k2 (fun _ _ => lkh hk) hv hok k3 nm⟩
          have hto : ∀ k, okc ok w.heap.size h3 ρ' k → okR ok w (ρ' n0) k := fun k hk' => ⟨hk'.1, hk'.2 n0 (lkh hk)⟩
          show RB cx (one 0 (ρ' n0)) (okR ok w (ρ' n0)) w' 0 (.arr T t l)
          rcases k2.heap n0 _ hk with ⟨q1, q2⟩ | ⟨b, us, q1, q2, q3, q4⟩
          · exact .inl ⟨q1, by simp [one, q2]⟩
          · exact .inr ⟨b, us, by simp [one, q1], q2, q3, fun i j hi hj => (q4 i j hi hj).ext (fun _ _ _ => rfl) (fun k _ => hto k) (Nat.le_refl _)⟩
        · cases hr0
  · cases h2

theorem ent_of_ev2 {B : Code → Prop} {hd : Hd (Option Ret)} (hcx : CxOk P cx) (hga : GaOk P cx) (hH : HdOk P cx hd B) {fn : Func} {f : FuncId} (hf : FnOk P f fn) (hB : ∀ c, fn.body = some c → ∀ p ∈ loopsOf c, B p) {G : List DArg → Option Ret}
    (h : ∀ das r, G das = some r → r.ok = true → ∃ own b, evR2 cx hd none fn f own das some = some ⟨b, r.row, r.vals⟩) : EntOk P cx (fun xs => callFunc f xs.toArray) G := by
  intro das r hG hr ok w xs hx
  obtain ⟨own, b, he⟩ := h das r hG hr
  exact ⟨f, xs.toArray, run_callFunc hf _, evR2_ok hcx hga hH hB he hf ok w xs hx⟩
end

theorem stands3 {P : Program} {tab : List (Option TI)} {gas : List (Nat × Con)} {invs : List (String × Con)} {hints : List (Nat × Nat × Hint)} {inls : List (Nat × Func)} {L : Loops2} {n : Nat} (hcx : CxOk P (mkCx2 tab gas invs hints inls)) (h : Ready P tab gas invs inls)
    {fn : Func} {f : FuncId} (hf : FnOk P f fn) {Bs : List Code} (hB : loopsIn fn inls = Bs) (hL : ∀ b ∈ Bs, ∀ T, L (firstReg b) = some T → LoopOk P (mkCx2 tab gas invs hints inls) b T) {G : Con}
    (hG : ∀ das r, G das = some r → r.ok = true → ∃ own b, evR2 (mkCx2 tab gas invs hints inls) (hdI (mkCx2 tab gas invs hints inls) L inls none n) none fn f own das some = some ⟨b, r.row, r.vals⟩) : Stands P tab f G := by
  refine EntOk.tt (cx := mkCx2 tab gas invs hints inls) (cx' := mkCx tab [] [] []) rfl (ent_of_ev2 (B := fun b => b ∈ Bs) hcx h.gaOk (hdI_ok hcx h.gaOk (fun p hp => ⟨h.inl p hp, fun c hc b hb => ?_⟩) (fun b T hb hT => hL b hb T hT) n) hf (fun c hc p hp => ?_) hG)
  · rw [← hB]
    refine List.mem_append.2 (.inr (List.mem_flatten.2 ⟨loopsOf c, ?_, hb⟩))
    refine List.mem_map.2 ⟨p, hp, ?_⟩
    rw [hc]
  · rw [← hB]
    refine List.mem_append.2 (.inl ?_)
    rw [hc]; exact hp

/-- answers that are alike but for a name -/
def Ret.like (a b : Ret) : Prop := a.ok = b.ok ∧ a.row = b.row ∧ ∀ nm, nameVals nm a.vals = nameVals nm b.vals
theorem After.like {cx : Cx} {ok : Nat → Prop} {w : World} {a b : Ret} {e : Ending} {w' : World} (h : Ret.like a b) (ha : After cx ok w a e w') : After cx ok w b e w' := by
  obtain ⟨x, ob, h1, h2, h3, h4, h5⟩ := ha
  refine ⟨x, ob, h1, h2, h3, by rw [← h.2.1]; exact h4, fun nm => by rw [← h.2.2 nm]; exact h5 nm⟩

/-- of a function that asks whether its argument is nil: for whatever slice -/
theorem nil_split {P : Program} {tab : List (Option TI)} {f : FuncId} {t : ET} {G1 G2 : Con} {r : List (Ty t) → Ret} (h1 : Stands P tab f G1) (h2 : Stands P tab f G2) {r0 : Ret} (e1 : G1 [(false, [.sl (some true) true t []])] = some r0) (e0 : Ret.like r0 (r [])) (e2 : ∀ l, G2 [(false, [.sl (some false) false t l])] = some (r l)) :
    Stands P tab f (fun das => match das with
      | [(false, [.sl _ _ t' l])] => if e : t' = t then some (r (e ▸ l)) else none
      | _ => none) := by
  intro das r0 hG hr ok w xs hx
  dsimp only at hG
  split at hG
  · rename_i nl fl t' l
    split at hG
    · rename_i e; subst e
      injection hG with hG; subst hG
      have hl : xs.length = 1 := hx.1
      match xs, hl, hx with
      | [v], _, hx =>
        obtain ⟨c, hc, hd⟩ := hx.2 0 (by simp [liftA])
        simp only [List.map_cons, List.map_nil, List.cons.injEq, and_true] at hc
        subst hc
        have hd : RD (mkCx tab [] [] []) ok w (.sl nl fl t' l) v := hd
        have mk : ∀ y : D, RD (mkCx tab [] [] []) ok w y v → RAs (mkCx tab [] [] []) (fun _ => none) ok w (liftA [(false, [y])]) [v] := fun y hy => ⟨rfl, fun j hj => by
          have : j = 0 := by simp [liftA] at hj; omega
          subst this; exact ⟨.d y, rfl, hy⟩⟩
        cases hd with
        | sl0 _ _ _ A cap q1 q2 q3 q4 =>
          cases A with
          | none =>
            have hcap := q4 rfl
            subst hcap
            obtain ⟨f', ys, k1, k2⟩ := h1 _ _ e1 (by rw [e0.1]; exact hr) ok w [_] (mk _ (.sl0 _ _ _ _ _ (fun _ => rfl) (fun h => by cases h) (fun _ => rfl) (fun _ => rfl)))
            exact ⟨f', ys, k1, k2.mono fun e w' ha => ha.like e0⟩
          | some a => exact h2 _ _ (e2 []) hr ok w [_] (mk _ (.sl0 _ _ _ _ _ (fun h => by cases h) (fun _ h => by cases h) (fun h => by cases h) (fun h => by cases h)))
        | sl _ _ _ _ b off cap vs q0 q1 q2 q3 q4 hc hr' =>
          exact h2 _ _ (e2 l) hr ok w [_] (mk _ (.sl _ _ _ _ b off cap vs q0 q1 q2 (fun h => by cases h) (fun h => by cases h) hc hr'))
    · cases hG
  · cases hG
end Go.Eng
/- Plain facts on rounds: a search through a list, a comparison of two lists. -/
set_option linter.unusedVariables false
set_option linter.unusedSimpArgs false
namespace Go.Eng
/-- the first one that is so -/
theorem Lp_idx {V α : Type} {r : V → Option (Option Nat × V)} (mk : Int → V) (l : List α) (p : α → Bool)
    (h1 : ∀ (i : Nat) (h : i < l.length), r (mk i) = if p l[i] = true then some (some 0, mk i) else some (none, mk ((i + 1 : Nat) : Int))) (h2 : r (mk l.length) = some (some 1, mk l.length)) :
    Lp r (mk 0) = match l.findIdx? p with
      | some j => some (0, mk j)
      | none => some (1, mk l.length) := by
  have key : ∀ (k i : Nat), i + k = l.length → Lp r (mk i) = match (l.drop i).findIdx? p with
      | some j => some (0, mk ((i + j : Nat) : Int))
      | none => some (1, mk l.length) := by
    intro k
    induction k with
    | zero =>
      intro i hi
      have e : l.drop i = [] := List.drop_eq_nil_of_le (by omega)
      have hi' : i = l.length := by omega
      rw [e, hi']
      exact Lp_exit h2
    | succ k ih =>
      intro i hi
      have hlt : i < l.length := by omega
      have hr := h1 i hlt
      rw [List.drop_eq_getElem_cons hlt, List.findIdx?_cons]
      cases hp : p l[i] with
      | true =>
        rw [hp, if_pos rfl] at hr
        simp only [if_true]
        rw [Lp_exit hr]
        rfl
      | false =>
        rw [hp, if_neg (by simp)] at hr
        rw [Lp_cont hr, ih (i + 1) (by omega)]
        simp only [Bool.false_eq_true, if_false]
        cases (l.drop (i + 1)).findIdx? p with
        | none => rfl
        | some j =>
          simp only [Option.map_some]
          congr 3
          omega
  have := key l.length 0 (by omega)
  simpa using this
/-- are two lists the same? -/
theorem Lp_same {V α : Type} [DecidableEq α] {r : V → Option (Option Nat × V)} (mk : Int → V) (a b : List α) (hl : a.length = b.length)
    (h1 : ∀ (i : Nat) (h : i < a.length) (h' : i < b.length), r (mk i) = if a[i] = b[i] then some (none, mk ((i + 1 : Nat) : Int)) else some (some 0, mk i)) (h2 : r (mk a.length) = some (some 1, mk a.length)) :
    ∃ v, Lp r (mk 0) = some (if a = b then 1 else 0, v) := by
  have key : ∀ (k i : Nat), i + k = a.length → ∃ v, Lp r (mk i) = some (if a.drop i = b.drop i then 1 else 0, v) := by
    intro k
    induction k with
    | zero =>
      intro i hi
      have e1 : a.drop i = [] := List.drop_eq_nil_of_le (by omega)
      have e2 : b.drop i = [] := List.drop_eq_nil_of_le (by omega)
      have hi' : i = a.length := by omega
      rw [e1, e2, hi']
      exact ⟨_, Lp_exit h2⟩
    | succ k ih =>
      intro i hi
      have q1 : i < a.length := by omega
      have q2 : i < b.length := by omega
      have hr := h1 i q1 q2
      rw [List.drop_eq_getElem_cons q1, List.drop_eq_getElem_cons q2]
      by_cases he : a[i] = b[i]
      · rw [if_pos he] at hr
        obtain ⟨v, hv⟩ := ih (i + 1) (by omega)
        refine ⟨v, ?_⟩
        rw [Lp_cont hr, hv, he]
        simp only [List.cons.injEq, true_and]
      · rw [if_neg he] at hr
        refine ⟨mk i, ?_⟩
        rw [Lp_exit hr]
        simp only [List.cons.injEq, he, false_and, if_false]
  have := key a.length 0 (by omega)
  simpa using this
theorem getD_of {α : Type} (l : List α) (i : Nat) (d : α) (h : i < l.length) : l.getD i d = l[i] := by
  rw [List.getD_eq_getElem?_getD, List.getElem?_eq_getElem h]; rfl
end Go.Eng
/- Plain facts: a tree all of whose ways end well; rounds that keep something. -/
set_option linter.unusedVariables false
set_option linter.unusedSimpArgs false
namespace Go.Eng
/-- all ways of a tree end, and are so -/
def DT.all {α : Type} (P : α → Prop) : DT α → Prop
  | .leaf a => P a
  | .fail => False
  | .br c x y => (c = true → DT.all P x) ∧ (c = false → DT.all P y)
theorem DT.all_leaf {α : Type} (P : α → Prop) (a : α) : DT.all P (.leaf a) = P a := rfl
theorem DT.all_fail {α : Type} (P : α → Prop) : DT.all P (.fail) = False := rfl
theorem DT.all_br {α : Type} (P : α → Prop) (c : Bool) (x y : DT α) : DT.all P (.br c x y) = ((c = true → DT.all P x) ∧ (c = false → DT.all P y)) := rfl
theorem DT.all_run {α : Type} {P : α → Prop} : ∀ {t : DT α}, t.all P → ∃ a, t.run = some a ∧ P a
  | .leaf a, h => ⟨a, rfl, h⟩
  | .fail, h => h.elim
  | .br true x y, h => DT.all_run (t := x) (h.1 rfl)
  | .br false x y, h => DT.all_run (t := y) (h.2 rfl)
theorem DT.all_is {α : Type} {P : α → Prop} {t : DT α} (h : t.all P) : t.run.isSome = true := by
  obtain ⟨a, h1, _⟩ := DT.all_run h
  rw [h1]; rfl
theorem DT.all_o {α : Type} [Inhabited α] {P : α → Prop} {t : DT α} (h : t.all P) : P (t.run.getD default) := by
  obtain ⟨a, h1, h2⟩ := DT.all_run h
  rw [h1]; exact h2
/-- what a round keeps, or what is so where it goes out -/
def Stp {V : Type} (I : V → Prop) (Q : Nat → V → Prop) (m : V → Nat) (k : Nat) : Option Nat × V → Prop
  | (none, v) => I v ∧ m v < k
  | (some j, v) => Q j v
theorem Stp_none {V : Type} (I : V → Prop) (Q : Nat → V → Prop) (m : V → Nat) (k : Nat) (v : V) : Stp I Q m k (none, v) = (I v ∧ m v < k) := rfl
theorem Stp_some {V : Type} (I : V → Prop) (Q : Nat → V → Prop) (m : V → Nat) (k j : Nat) (v : V) : Stp I Q m k (some j, v) = Q j v := rfl
/-- rounds that keep something, and grow fewer, end -/
theorem Lp_tot {V : Type} {r : V → Option (Option Nat × V)} (I : V → Prop) (Q : Nat → V → Prop) (m : V → Nat)
    (h : ∀ v, I v → ∃ x, r v = some x ∧ Stp I Q m (m v) x) : ∀ v, I v → ∃ j v', Lp r v = some (j, v') ∧ Q j v' := by
  intro v hv
  generalize hk : m v = k
  induction k using Nat.strongRecOn generalizing v with
  | _ k ih =>
    obtain ⟨⟨o, v'⟩, h1, h2⟩ := h v hv
    cases o with
    | none =>
      obtain ⟨h3, h4⟩ := h2
      obtain ⟨j, w, g1, g2⟩ := ih (m v') (by omega) v' h3 rfl
      exact ⟨j, w, by rw [Lp_cont h1, g1], g2⟩
    | some j => exact ⟨j, v', Lp_exit h1, h2⟩
/-- the same, of trees -/
theorem Lp_all {V : Type} {R : V → DT (Option Nat × V)} {r : V → Option (Option Nat × V)} (hr : ∀ v, r v = (R v).run) (I : V → Prop) (Q : Nat → V → Prop) (m : V → Nat)
    (h : ∀ v, I v → (R v).all (Stp I Q m (m v))) (v : V) (hv : I v) : ∃ j v', Lp r v = some (j, v') ∧ Q j v' :=
  Lp_tot I Q m (fun v hv => by rw [hr]; exact DT.all_run (h v hv)) v hv
theorem e_xeqI (a b : Int) : xeqI a b = decide (a = b) := by rw [Bool.eq_iff_iff]; simp [xeqI]
theorem e_xneI (a b : Int) : xneI a b = decide (a ≠ b) := by rw [Bool.eq_iff_iff]; simp [xneI]
theorem e_wrap {n : Int} (h1 : -9223372036854775808 ≤ n) (h2 : n ≤ 9223372036854775807) : IntKind.i64.wrap n = n := by rw [IntKind.wrap_i64]; omega
theorem e_wrap1 {n : Nat} (h2 : n ≤ 1048576) : IntKind.i64.wrap ((n : Int) + 1) = ((n + 1 : Nat) : Int) := by rw [e_wrap (by omega) (by omega)]; omega
/-- a loop that goes from 0 to n -/
theorem Lp_walk {V : Type} {r : V → Option (Option Nat × V)} (mk : Nat → V) (n e : Nat) (h1 : ∀ i, i < n → r (mk i) = some (none, mk (i + 1))) (h2 : r (mk n) = some (some e, mk n)) : Lp r (mk 0) = some (e, mk n) := by
  have key : ∀ k i, i + k = n → Lp r (mk i) = some (e, mk n) := by
    intro k
    induction k with
    | zero => intro i hi; have : i = n := by omega
              subst this; exact Lp_exit h2
    | succ k ih => intro i hi; rw [Lp_cont (h1 i (by omega))]; exact ih (i + 1) (by omega)
  exact key n 0 (by omega)
end Go.Eng
