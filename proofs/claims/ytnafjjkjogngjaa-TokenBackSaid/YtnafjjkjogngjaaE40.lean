/- A nil slice that is handed out stands for a row of the call's own that has no elements; what is alike for a nil slice and for one that is not. -/
import Derived.Test.YtnafjjkjogngjaaE39
set_option linter.unusedVariables false
set_option linter.unusedSimpArgs false
namespace Go.Eng
open Go Go.RowKit

def promA (T : TypeId) (rs : List Arg) (h : Heap) : List Arg × Heap := match rs with
  | (false, [.d (.sl _ true t [])]) :: r => ((false, [.own h.length t false 0 0]) :: r, h ++ [some (.arr T t [])])
  | rs => (rs, h)
def promO (own : Option TypeId) (rs : List Arg) (h : Heap) : List Arg × Heap := match own with
  | some T => promA T rs h
  | none => (rs, h)

/-- a function as a whole -/
def evR2 {R : Type} (cx : Cx) (hd : Hd R) (fail : R) (fn : Func) (f : FuncId) (own : Option TypeId) (as : List DArg) (K : Ret → R) : R :=
  evFun cx hd fail fn f (liftA as) [] fun rs h => match retOf own.isSome (promO own rs h).1 (promO own rs h).2 with
    | some r => cond r.ok (K ⟨true, r.row, r.vals⟩) fail
    | none => fail

section
variable {P : Program} {cx : Cx} {ok : Nat → Prop} {w0 : World} {ρ : Rho} {w : World} {h : Heap}

theorem prom_hv (T : TypeId) (t : ET) (hi : HInv cx ok w0 ρ h w) : HInv cx ok w0 ρ (h ++ [some (.arr T t [])]) w ∧ ∀ k, okc ok w0.heap.size h ρ k ↔ okc ok w0.heap.size (h ++ [some (.arr T t [])]) ρ k := by
  have h0 : Inv cx ok w0 ρ ⟨[], h, 0⟩ { tmps := #[], defers := [] } w := ⟨rfl, fun t ht => by simp at ht, hi.heap, hi.inj, hi.own, hi.fresh, hi.below, rfl⟩
  obtain ⟨h1, h2⟩ := turns_push T t ok w0 ρ _ w h0
  exact ⟨h1.hv, h2⟩
theorem HInv.lt' (hi : HInv cx ok w0 ρ h w) : ∀ n b, ρ n = some b → b < w.heap.size := fun n b e => (hi.own n b e).2

theorem prom_rv (T : TypeId) (hi : HInv cx ok w0 ρ h w) {rs : List Arg} {x : Value} (hr : RV cx ρ (okc ok w0.heap.size h ρ) w (valOf rs) x) :
    HInv cx ok w0 ρ (promA T rs h).2 w ∧ (∀ k, okc ok w0.heap.size h ρ k ↔ okc ok w0.heap.size (promA T rs h).2 ρ k) ∧ RV cx ρ (okc ok w0.heap.size (promA T rs h).2 ρ) w (valOf (promA T rs h).1) x := by
  unfold promA
  split
  · rename_i nl t r
    obtain ⟨h1, h2⟩ := prom_hv (cx := cx) T t hi
    refine ⟨h1, h2, ?_⟩
    have hx : ∀ N, Ext N (okc ok w0.heap.size h ρ) (okc ok w0.heap.size (h ++ [some (.arr T t [])]) ρ) ρ ρ w w := fun N => ⟨fun _ _ _ e => e, fun _ _ _ => rfl, fun k _ hk => (h2 k).1 hk, fun _ _ => rfl, Nat.le_refl _⟩
    have key : ∀ v, RA cx ρ (okc ok w0.heap.size h ρ) w (false, [.d (.sl nl true t [])]) v → RA cx ρ (okc ok w0.heap.size (h ++ [some (.arr T t [])]) ρ) w (false, [.own h.length t false 0 0]) v := fun v hv => by
      obtain ⟨c, hc, hd⟩ := hv
      simp only [List.cons.injEq, and_true] at hc
      subst hc
      have hd : RD cx (okc ok w0.heap.size h ρ) w (.sl nl true t []) v := hd
      refine ⟨_, rfl, ?_⟩
      cases hd with
      | sl0 _ _ _ A cap q1 q2 q3 q4 => exact ⟨A, cap, rfl, Nat.zero_le _, (by intro h; cases h), fun hc => absurd (q3 rfl) hc⟩
      | sl _ _ _ _ b off cap vs q0 => exact absurd rfl q0
    match r, hr with
    | [], hr => exact key x hr
    | g :: r, hr =>
      obtain ⟨xs, e1, q1⟩ := hr
      refine ⟨xs, e1, q1.1, fun j hj => ?_⟩
      cases j with
      | zero => exact key _ (q1.2 0 (by simp))
      | succ j => exact Ext.all_A hx hi.lt' (q1.2 (j + 1) (by simpa using hj))
  · exact ⟨hi, fun k => Iff.rfl, hr⟩
theorem promO_rv (own : Option TypeId) (hi : HInv cx ok w0 ρ h w) {rs : List Arg} {x : Value} (hr : RV cx ρ (okc ok w0.heap.size h ρ) w (valOf rs) x) :
    HInv cx ok w0 ρ (promO own rs h).2 w ∧ (∀ k, okc ok w0.heap.size h ρ k ↔ okc ok w0.heap.size (promO own rs h).2 ρ k) ∧ RV cx ρ (okc ok w0.heap.size (promO own rs h).2 ρ) w (valOf (promO own rs h).1) x := by
  cases own with
  | some T => exact prom_rv T hi hr
  | none => exact ⟨hi, fun k => Iff.rfl, hr⟩

theorem evR2_ok {B : Code → Prop} {hd : Hd (Option Ret)} (hcx : CxOk P cx) (hga : GaOk P cx) (hH : HdOk P cx hd B) {fn : Func} {f : FuncId} {own : Option TypeId} {das : List DArg} {r : Ret} (hB : ∀ c, fn.body = some c → ∀ p ∈ loopsOf c, B p) (he : evR2 cx hd none fn f own das some = some r) (hf : FnOk P f fn) (ok : Nat → Prop) (w : World) (xs : List Value)
    (hx : RAs cx (fun _ => none) ok w (liftA das) xs) : Calls P f xs.toArray w (After cx ok w r) := by
  obtain ⟨rs, h', h1, h2⟩ := fun_adq hcx hga hH hB he
  have h0 : HInv cx ok w (fun _ => none) [] w := ⟨fun n b hn => by simp [lk] at hn, fun n m b hn => by simp [lk] at hn, (by intro n b e; cases e), fun _ _ => rfl, Below.refl _ _⟩
  have hx' : RAs cx (fun _ => none) (okc ok w.heap.size [] (fun _ => none)) w (liftA das) xs := by
    refine hx.ext (N := 0) ⟨fun _ _ h => by omega, fun _ _ _ => rfl, fun k _ hk => ⟨.inl hk, fun n hn => by simp [lk] at hn⟩, fun _ _ => rfl, Nat.le_refl _⟩ (by intro n b e; cases e) (fun a ha c hc => ?_)
    simp only [liftA, List.mem_map] at ha
    obtain ⟨d, _, rfl⟩ := ha
    simp only [List.mem_map] at hc
    obtain ⟨y, _, rfl⟩ := hc
    trivial
  refine (h1 hf ok w (fun _ => none) w xs h0 hx').mono fun e w' ha => ?_
  obtain ⟨x, ρ', rfl, k1, k2, k3⟩ := ha
  obtain ⟨k2, _, k3⟩ := promO_rv own k2 k3
  generalize (promO own rs h').1 = rs2 at h2 k3
  generalize (promO own rs h').2 = h3 at h2 k2 k3
  split at h2
  · rename_i r0 hr0
    cases hok : r0.ok with
    | false => rw [hok] at h2; cases h2
    | true =>
      rw [hok] at h2
      injection h2 with h2; subst h2
      unfold retOf at hr0
      split at hr0
      · split at hr0
        · rename_i vs p hv
          injection hr0 with hr0; subst hr0
          have hnone : ρ' h3.length = none := k2.fresh _ (Nat.le_refl _)
          refine ⟨x, none, rfl, k2.below, (by intro b e; cases e), trivial, fun nm => ?_⟩
          have := ret_vals k2 (n := h3.length) (by intro b e; rw [hnone] at e; cases e) hv hok k3 nm
          rw [hnone] at this
          exact this
        · cases hr0
      · rename_i n0 hn0
        split at hr0
        · rename_i T t l vs p hk hv
          injection hr0 with hr0; subst hr0
          refine ⟨x, ρ' n0, rfl, k2.below, fun b e => k2.own n0 b e, ?_, fun nm => ret_vals k2 (fun _ _ => lkh hk) hv hok k3 nm⟩
          have hto : ∀ k, okc ok w.heap.size h3 ρ' k → okR ok w (ρ' n0) k := fun k hk' => ⟨hk'.1, hk'.2 n0 (lkh hk)⟩
          show RB cx (one 0 (ρ' n0)) (okR ok w (ρ' n0)) w' 0 (.arr T t l)
          rcases k2.heap n0 _ hk with ⟨q1, q2⟩ | ⟨b, us, q1, q2, q3, q4⟩
          · exact .inl ⟨q1, by simp [one, q2]⟩
          · exact .inr ⟨b, us, by simp [one, q1], q2, q3, fun i j hi hj => (q4 i j hi hj).ext (fun _ _ _ => rfl) (fun k _ => hto k) (Nat.le_refl _)⟩
        · cases hr0
  · cases h2

theorem ent_of_ev2 {B : Code → Prop} {hd : Hd (Option Ret)} (hcx : CxOk P cx) (hga : GaOk P cx) (hH : HdOk P cx hd B) {fn : Func} {f : FuncId} (hf : FnOk P f fn) (hB : ∀ c, fn.body = some c → ∀ p ∈ loopsOf c, B p) {G : List DArg → Option Ret}
    (h : ∀ das r, G das = some r → r.ok = true → ∃ own b, evR2 cx hd none fn f own das some = some ⟨b, r.row, r.vals⟩) : EntOk P cx (fun xs => callFunc f xs.toArray) G := by
  intro das r hG hr ok w xs hx
  obtain ⟨own, b, he⟩ := h das r hG hr
  exact ⟨f, xs.toArray, run_callFunc hf _, evR2_ok hcx hga hH hB he hf ok w xs hx⟩
end

theorem stands3 {P : Program} {tab : List (Option TI)} {gas : List (Nat × Con)} {invs : List (String × Con)} {hints : List (Nat × Nat × Hint)} {inls : List (Nat × Func)} {L : Loops2} {n : Nat} (hcx : CxOk P (mkCx2 tab gas invs hints inls)) (h : Ready P tab gas invs inls)
    {fn : Func} {f : FuncId} (hf : FnOk P f fn) {Bs : List Code} (hB : loopsIn fn inls = Bs) (hL : ∀ b ∈ Bs, ∀ T, L (firstReg b) = some T → LoopOk P (mkCx2 tab gas invs hints inls) b T) {G : Con}
    (hG : ∀ das r, G das = some r → r.ok = true → ∃ own b, evR2 (mkCx2 tab gas invs hints inls) (hdI (mkCx2 tab gas invs hints inls) L inls none n) none fn f own das some = some ⟨b, r.row, r.vals⟩) : Stands P tab f G := by
  refine EntOk.tt (cx := mkCx2 tab gas invs hints inls) (cx' := mkCx tab [] [] []) rfl (ent_of_ev2 (B := fun b => b ∈ Bs) hcx h.gaOk (hdI_ok hcx h.gaOk (fun p hp => ⟨h.inl p hp, fun c hc b hb => ?_⟩) (fun b T hb hT => hL b hb T hT) n) hf (fun c hc p hp => ?_) hG)
  · rw [← hB]
    refine List.mem_append.2 (.inr (List.mem_flatten.2 ⟨loopsOf c, ?_, hb⟩))
    refine List.mem_map.2 ⟨p, hp, ?_⟩
    rw [hc]
  · rw [← hB]
    refine List.mem_append.2 (.inl ?_)
    rw [hc]; exact hp

/-- answers that are alike but for a name -/
def Ret.like (a b : Ret) : Prop := a.ok = b.ok ∧ a.row = b.row ∧ ∀ nm, nameVals nm a.vals = nameVals nm b.vals
theorem After.like {cx : Cx} {ok : Nat → Prop} {w : World} {a b : Ret} {e : Ending} {w' : World} (h : Ret.like a b) (ha : After cx ok w a e w') : After cx ok w b e w' := by
  obtain ⟨x, ob, h1, h2, h3, h4, h5⟩ := ha
  refine ⟨x, ob, h1, h2, h3, by rw [← h.2.1]; exact h4, fun nm => by rw [← h.2.2 nm]; exact h5 nm⟩

/-- of a function that asks whether its argument is nil: for whatever slice -/
theorem nil_split {P : Program} {tab : List (Option TI)} {f : FuncId} {t : ET} {G1 G2 : Con} {r : List (Ty t) → Ret} (h1 : Stands P tab f G1) (h2 : Stands P tab f G2) {r0 : Ret} (e1 : G1 [(false, [.sl (some true) true t []])] = some r0) (e0 : Ret.like r0 (r [])) (e2 : ∀ l, G2 [(false, [.sl (some false) false t l])] = some (r l)) :
    Stands P tab f (fun das => match das with
      | [(false, [.sl _ _ t' l])] => if e : t' = t then some (r (e ▸ l)) else none
      | _ => none) := by
  intro das r0 hG hr ok w xs hx
  dsimp only at hG
  split at hG
  · rename_i nl fl t' l
    split at hG
    · rename_i e; subst e
      injection hG with hG; subst hG
      have hl : xs.length = 1 := hx.1
      match xs, hl, hx with
      | [v], _, hx =>
        obtain ⟨c, hc, hd⟩ := hx.2 0 (by simp [liftA])
        simp only [List.map_cons, List.map_nil, List.cons.injEq, and_true] at hc
        subst hc
        have hd : RD (mkCx tab [] [] []) ok w (.sl nl fl t' l) v := hd
        have mk : ∀ y : D, RD (mkCx tab [] [] []) ok w y v → RAs (mkCx tab [] [] []) (fun _ => none) ok w (liftA [(false, [y])]) [v] := fun y hy => ⟨rfl, fun j hj => by
          have : j = 0 := by simp [liftA] at hj; omega
          subst this; exact ⟨.d y, rfl, hy⟩⟩
        cases hd with
        | sl0 _ _ _ A cap q1 q2 q3 q4 =>
          cases A with
          | none =>
            have hcap := q4 rfl
            subst hcap
            obtain ⟨f', ys, k1, k2⟩ := h1 _ _ e1 (by rw [e0.1]; exact hr) ok w [_] (mk _ (.sl0 _ _ _ _ _ (fun _ => rfl) (fun h => by cases h) (fun _ => rfl) (fun _ => rfl)))
            exact ⟨f', ys, k1, k2.mono fun e w' ha => ha.like e0⟩
          | some a => exact h2 _ _ (e2 []) hr ok w [_] (mk _ (.sl0 _ _ _ _ _ (fun h => by cases h) (fun _ h => by cases h) (fun h => by cases h) (fun h => by cases h)))
        | sl _ _ _ _ b off cap vs q0 q1 q2 q3 q4 hc hr' =>
          exact h2 _ _ (e2 l) hr ok w [_] (mk _ (.sl _ _ _ _ b off cap vs q0 q1 q2 (fun h => by cases h) (fun h => by cases h) hc hr'))
    · cases hG
  · cases hG
end Go.Eng
