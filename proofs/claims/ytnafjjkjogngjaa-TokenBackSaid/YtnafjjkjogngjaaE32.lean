/- What is shown of a function is its contract. -/
import Derived.Test.YtnafjjkjogngjaaE31
set_option linter.unusedVariables false
set_option linter.unusedSimpArgs false
namespace Go.Eng
open Go Go.RowKit

def cellsOwn : List C → Option Nat
  | [] => none
  | .own n _ _ _ _ :: _ => some n
  | _ :: r => cellsOwn r
def firstOwn : List Arg → Option Nat
  | [] => none
  | (_, cs) :: r => match cellsOwn cs with
    | some n => some n
    | none => firstOwn r

/-- what is told of a slice that is handed out: its elements -/
def weak : D → D
  | .sl _ _ t l => .sl none false t l
  | d => d
def retD (n : Nat) (h : Heap) (c : C) : Option (C × Bool) := match dem h c with
  | some (d, ks, p) => some (.d (weak d), p && !ks.contains n)
  | none => none
/-- data, but for a row of the call's own -/
def retC (n : Nat) (h : Heap) : C → Option (C × Bool)
  | .own m t full off len => if m = n then some (.own n t full off len, true) else retD n h (.own m t full off len)
  | c => retD n h c
def retL (n : Nat) (h : Heap) : List C → Option (List C × Bool)
  | [] => some ([], true)
  | c :: cs => match retC n h c, retL n h cs with
    | some (x, p), some (xs, q) => some (x :: xs, p && q)
    | _, _ => none
def retArgs (n : Nat) (h : Heap) : List Arg → Option (List Arg × Bool)
  | [] => some ([], true)
  | (g, cs) :: r => match retL n h cs, retArgs n h r with
    | some (xs, p), some (ys, q) => some ((g, xs) :: ys, p && q)
    | _, _ => none
def retOf (own : Bool) (rs : List Arg) (h : Heap) : Option Ret :=
  match (if own then firstOwn rs else none) with
  | none => match retArgs h.length h rs with
    | some (vs, p) => some ⟨p, none, vs⟩
    | none => none
  | some n => match lk h n, retArgs n h rs with
    | some (.arr T t l), some (vs, p) => some ⟨p, some (T, ⟨t, l⟩), vs⟩
    | _, _ => none

/-- a function as a whole -/
def evR {R : Type} (cx : Cx) (hd : Hd R) (fail : R) (fn : Func) (f : FuncId) (own : Bool) (as : List DArg) (K : Ret → R) : R :=
  evFun cx hd fail fn f (liftA as) [] fun rs h => match retOf own rs h with
    | some r => cond r.ok (K ⟨true, r.row, r.vals⟩) fail
    | none => fail

section
variable {P : Program} {cx : Cx} {ok : Nat → Prop} {w0 : World} {ρ : Rho} {w : World} {h : Heap}

/-- only one name is left -/
def only (n : Nat) (h : Heap) : Heap := (List.range h.length).map fun m => if m = n then lk h n else none
theorem lk_only (n m : Nat) (h : Heap) : lk (only n h) m = if m = n then lk h n else none := by
  unfold only
  by_cases hm : m < h.length
  · simp only [lk, List.getD_eq_getElem?_getD, List.getElem?_map, List.getElem?_range hm, Option.map_some, Option.getD_some]
  · have e : lk ((List.range h.length).map fun m => if m = n then lk h n else none) m = none := by
      unfold lk
      rw [List.getD_eq_getElem?_getD, List.getElem?_eq_none (by simpa using hm)]; rfl
    rw [e]
    split
    · rename_i e; subst e
      unfold lk
      rw [List.getD_eq_getElem?_getD, List.getElem?_eq_none (by omega)]; rfl
    · rfl

theorem okR_of {n k : Nat} (hn : ∀ b, ρ n = some b → (lk h n).isSome = true) (hk : okc ok w0.heap.size (only n h) ρ k) : okR ok w0 (ρ n) k :=
  ⟨hk.1, fun e => hk.2 n (by rw [lk_only, if_pos rfl]; exact hn k e) e⟩

theorem RD.weak {d : D} {x : Value} (hd : RD cx ok w d x) : RD cx ok w (weak d) x := by
  cases hd with
  | sl0 nl full t A cap h1 h2 h3 h4 => exact .sl0 none false t A cap (fun e => by cases e) (fun e => by cases e) (fun e => by cases e) h4
  | sl nl full t l b off cap vs h0 h1 h2 h3 h4 hc hr => exact .sl none false t l b off cap vs h0 h1 h2 (fun e => by cases e) (fun e => by cases e) hc hr
  | sc s => exact .sc s
  | nils => exact .nils
  | fn f first caps a b h1 h2 ha hb => exact .fn f first caps a b h1 h2 ha hb
  | nilI => exact .nilI
  | nilf => exact .nilf
  | one T s h1 => exact .one T s h1
  | val T v h1 => exact .val T v h1
  | ref cs b off vs h1 hb hc hr => exact .ref cs b off vs h1 hb hc hr

theorem retD_ok (hi : HInv cx ok w0 ρ h w) {n : Nat} (hn : ∀ b, ρ n = some b → (lk h n).isSome = true) {c c' : C} {p : Bool} {x : Value} (he : retD n h c = some (c', p)) (hp : p = true) (hc : RC cx ρ (okc ok w0.heap.size h ρ) w c x) (nm : Nat) :
    RC cx (one nm (ρ n)) (okR ok w0 (ρ n)) w (ownTo nm c') x := by
  unfold retD at he
  split at he
  · rename_i d ks q hd
    injection he with he; injection he with e1 e2; subst e1
    rw [hp] at e2
    simp only [Bool.and_eq_true, Bool.not_eq_true', List.contains_eq_mem, decide_eq_false_iff_not] at e2
    have hless : Less h (only n h) ks := ⟨(by intro m hm; rw [lk_only, if_neg (by intro e; exact e2.2 (e ▸ hm))]), fun m hm => by
      rw [lk_only] at hm
      split at hm
      · rename_i e; rw [e]; exact hm
      · cases hm⟩
    have := dem_ok hi hd e2.1 hless hc
    exact (this.ext (fun _ _ _ => rfl) (fun k _ hk => okR_of hn hk) (Nat.le_refl _)).weak
  · cases he

theorem retC_ok (hi : HInv cx ok w0 ρ h w) {n : Nat} (hn : ∀ b, ρ n = some b → (lk h n).isSome = true) {c c' : C} {p : Bool} {x : Value} (he : retC n h c = some (c', p)) (hp : p = true) (hc : RC cx ρ (okc ok w0.heap.size h ρ) w c x) (nm : Nat) :
    RC cx (one nm (ρ n)) (okR ok w0 (ρ n)) w (ownTo nm c') x := by
  unfold retC at he
  split at he
  · rename_i m t full off len
    split at he
    · rename_i e; subst e
      injection he with he; injection he with e1 e2; subst e1
      obtain ⟨A, cap, h1, h2, h3, h4⟩ := hc
      exact ⟨A, cap, h1, h2, h3, fun hc => by obtain ⟨b, h5, h6⟩ := h4 hc; exact ⟨b, by simp [one, h5], h6⟩⟩
    · exact retD_ok hi hn he hp hc nm
  · exact retD_ok hi hn he hp hc nm

theorem retL_ok (hi : HInv cx ok w0 ρ h w) {n : Nat} (hn : ∀ b, ρ n = some b → (lk h n).isSome = true) (nm : Nat) : ∀ (cs cs' : List C) (p : Bool) (vs : List Value), retL n h cs = some (cs', p) → p = true → RCs cx ρ (okc ok w0.heap.size h ρ) w cs vs →
    RCs cx (one nm (ρ n)) (okR ok w0 (ρ n)) w (cs'.map (ownTo nm)) vs
  | [], cs', p, vs, he, hp, hr => by
    simp only [retL] at he; injection he with he; injection he with e1 e2; subst e1
    exact ⟨hr.1, fun j hj => by simp at hj⟩
  | c :: cs, cs', p, vs, he, hp, hr => by
    obtain ⟨v, vs', rfl, h1, h2⟩ := RCs_inv hr
    simp only [retL] at he
    split at he
    · rename_i x p1 xs p2 g1 g2
      injection he with he; injection he with e1 e2; subst e1
      rw [hp] at e2; simp only [Bool.and_eq_true] at e2
      exact RCs_cons (retC_ok hi hn g1 e2.1 h1 nm) (retL_ok hi hn nm cs xs p2 vs' g2 e2.2 h2)
    · cases he

theorem retArgs_ok (hi : HInv cx ok w0 ρ h w) {n : Nat} (hn : ∀ b, ρ n = some b → (lk h n).isSome = true) (nm : Nat) : ∀ (as as' : List Arg) (p : Bool) (xs : List Value), retArgs n h as = some (as', p) → p = true → RAs cx ρ (okc ok w0.heap.size h ρ) w as xs →
    RAs cx (one nm (ρ n)) (okR ok w0 (ρ n)) w (nameVals nm as') xs
  | [], as', p, xs, he, hp, hr => by
    simp only [retArgs] at he; injection he with he; injection he with e1 e2; subst e1
    exact ⟨hr.1, fun j hj => by simp [nameVals] at hj⟩
  | (g, cs) :: as, as', p, xs, he, hp, hr => by
    cases xs with
    | nil => have := hr.1; simp at this
    | cons x xs' =>
      have hr' : RAs cx ρ (okc ok w0.heap.size h ρ) w as xs' := ⟨by have := hr.1; simpa using this, fun i hi => by simpa using hr.2 (i + 1) (by simpa using hi)⟩
      have hx : RA cx ρ (okc ok w0.heap.size h ρ) w (g, cs) x := hr.2 0 (by simp)
      simp only [retArgs] at he
      split at he
      · rename_i ys p1 zs p2 g1 g2
        injection he with he; injection he with e1 e2; subst e1
        rw [hp] at e2; simp only [Bool.and_eq_true] at e2
        have ih := retArgs_ok hi hn nm as zs p2 xs' g2 e2.2 hr'
        refine ⟨by have := ih.1; simp [nameVals] at this ⊢; exact this, fun j hj => ?_⟩
        cases j with
        | zero =>
          show RA cx _ _ w (g, ys.map (ownTo nm)) x
          obtain ⟨vs, e1, e2', e3⟩ := RA_cells hx
          rw [e3]
          have hL := retL_ok hi hn nm cs ys p1 vs g1 e2.1 e2'
          refine RA_mkv hL (fun hg => ?_)
          subst hg
          obtain ⟨c, hc, _⟩ := hx
          have h1 := hL.1
          have h2 := e2'.1
          rw [hc] at h2
          rw [← h1, h2]; rfl
        | succ j => simpa [nameVals] using ih.2 j (by simpa [nameVals] using hj)
      · cases he

theorem ret_vals (hi : HInv cx ok w0 ρ h w) {n : Nat} (hn : ∀ b, ρ n = some b → (lk h n).isSome = true) {rs vs : List Arg} {p : Bool} {x : Value} (he : retArgs n h rs = some (vs, p)) (hp : p = true) (hr : RV cx ρ (okc ok w0.heap.size h ρ) w (valOf rs) x) (nm : Nat) :
    RV cx (one nm (ρ n)) (okR ok w0 (ρ n)) w (valOf (nameVals nm vs)) x := by
  match rs, he, hr with
  | [], he, hr =>
    simp only [retArgs] at he; injection he with he; injection he with e1 e2; subst e1
    trivial
  | [(g, cs)], he, hr =>
    have := retArgs_ok hi hn nm [(g, cs)] vs p [x] he hp ⟨rfl, fun j hj => by
      have : j = 0 := by simp at hj; omega
      subst this; exact hr⟩
    have hl : vs.length = 1 := by have := this.1; simp [nameVals] at this; omega
    match vs, hl, this with
    | [(g', cs')], _, this => exact this.2 0 (by simp [nameVals])
  | g1 :: g2 :: r, he, hr =>
    obtain ⟨xs, e1, h1⟩ := hr
    have := retArgs_ok hi hn nm (g1 :: g2 :: r) vs p xs he hp h1
    have hl : vs.length = r.length + 2 := by have h2 := this.1; have h3 := h1.1; simp [nameVals] at h2 h3; omega
    match vs, hl, this with
    | v1 :: v2 :: vs, _, this => exact ⟨xs, e1, this⟩

theorem evR_ok {B : Code → Prop} {hd : Hd (Option Ret)} (hcx : CxOk P cx) (hga : GaOk P cx) (hH : HdOk P cx hd B) {fn : Func} {f : FuncId} {own : Bool} {das : List DArg} {r : Ret} (hB : ∀ c, fn.body = some c → ∀ p ∈ loopsOf c, B p) (he : evR cx hd none fn f own das some = some r) (hf : FnOk P f fn) (ok : Nat → Prop) (w : World) (xs : List Value)
    (hx : RAs cx (fun _ => none) ok w (liftA das) xs) : Calls P f xs.toArray w (After cx ok w r) := by
  obtain ⟨rs, h', h1, h2⟩ := fun_adq hcx hga hH hB he
  have h0 : HInv cx ok w (fun _ => none) [] w := ⟨fun n b hn => by simp [lk] at hn, fun n m b hn => by simp [lk] at hn, (by intro n b e; cases e), fun _ _ => rfl, Below.refl _ _⟩
  have hx' : RAs cx (fun _ => none) (okc ok w.heap.size [] (fun _ => none)) w (liftA das) xs := by
    refine hx.ext (N := 0) ⟨fun _ _ h => by omega, fun _ _ _ => rfl, fun k _ hk => ⟨.inl hk, fun n hn => by simp [lk] at hn⟩, fun _ _ => rfl, Nat.le_refl _⟩ (by intro n b e; cases e) (fun a ha c hc => ?_)
    simp only [liftA, List.mem_map] at ha
    obtain ⟨d, _, rfl⟩ := ha
    simp only [List.mem_map] at hc
    obtain ⟨y, _, rfl⟩ := hc
    trivial
  refine (h1 hf ok w (fun _ => none) w xs h0 hx').mono fun e w' ha => ?_
  obtain ⟨x, ρ', rfl, k1, k2, k3⟩ := ha
  split at h2
  · rename_i r0 hr0
    cases hok : r0.ok with
    | false => rw [hok] at h2; cases h2
    | true =>
      rw [hok] at h2
      injection h2 with h2; subst h2
      unfold retOf at hr0
      split at hr0
      · split at hr0
        · rename_i vs p hv
          injection hr0 with hr0; subst hr0
          have hnone : ρ' h'.length = none := k2.fresh _ (Nat.le_refl _)
          refine ⟨x, none, rfl, k2.below, (by intro b e; cases e), trivial, fun nm => ?_⟩
          have := ret_vals k2 (n := h'.length) (by intro b e; rw [hnone] at e; cases e) hv hok k3 nm
          rw [hnone] at this
          exact this
        · cases hr0
      · rename_i n0 hn0
        split at hr0
        · rename_i T t l vs p hk hv
          injection hr0 with hr0; subst hr0
          refine ⟨x, ρ' n0, rfl, k2.below, fun b e => k2.own n0 b e, ?_, fun nm => ret_vals k2 (fun _ _ => lkh hk) hv hok k3 nm⟩
          have hto : ∀ k, okc ok w.heap.size h' ρ' k → okR ok w (ρ' n0) k := fun k hk' => ⟨hk'.1, hk'.2 n0 (lkh hk)⟩
          show RB cx (one 0 (ρ' n0)) (okR ok w (ρ' n0)) w' 0 (.arr T t l)
          rcases k2.heap n0 _ hk with ⟨q1, q2⟩ | ⟨b, us, q1, q2, q3, q4⟩
          · exact .inl ⟨q1, by simp [one, q2]⟩
          · exact .inr ⟨b, us, by simp [one, q1], q2, q3, fun i j hi hj => (q4 i j hi hj).ext (fun _ _ _ => rfl) (fun k _ => hto k) (Nat.le_refl _)⟩
        · cases hr0
  · cases h2

/-- what is reckoned of a function is its contract -/
theorem ent_of_ev {B : Code → Prop} {hd : Hd (Option Ret)} (hcx : CxOk P cx) (hga : GaOk P cx) (hH : HdOk P cx hd B) {fn : Func} {f : FuncId} (hf : FnOk P f fn) (hB : ∀ c, fn.body = some c → ∀ p ∈ loopsOf c, B p) {G : List DArg → Option Ret}
    (h : ∀ das r, G das = some r → r.ok = true → ∃ own b, evR cx hd none fn f own das some = some ⟨b, r.row, r.vals⟩) : EntOk P cx (fun xs => callFunc f xs.toArray) G := by
  intro das r hG hr ok w xs hx
  obtain ⟨own, b, he⟩ := h das r hG hr
  exact ⟨f, xs.toArray, run_callFunc hf _, evR_ok hcx hga hH hB he hf ok w xs hx⟩

/-- the outcome of a loop, by cases -/
inductive Tree where
  | leaf (e : Ex) (st : St)
  | br (b : Bool) (x y : Tree)
  | bad
def Tree.run {R : Type} (K : Ex → St → R) (fail : R) : Tree → R
  | .leaf e st => K e st
  | .br b x y => cond b (x.run K fail) (y.run K fail)
  | .bad => fail
/-- loops by contract: by their first region's number -/
abbrev Loops := Nat → Option (St → Tree)
def hdOf {R : Type} (L : Loops) (fail : R) : Hd R :=
  { lp := fun _ body _ _ st K => match L (firstReg body) with
      | some T => (T st).run K fail
      | none => fail,
    cl := fun _ _ _ _ _ => fail }
def Tree.eval (t : Tree) : Option (Ex × St) := t.run (fun e st => some (e, st)) none
theorem Tree.run_eval {X : Type} {K : Ex → St → Option X} {x : X} : ∀ {t : Tree}, t.run K none = some x → ∃ e st, t.eval = some (e, st) ∧ K e st = some x
  | .leaf e st, h => ⟨e, st, rfl, h⟩
  | .br b p q, h => by
    cases b with
    | true => exact Tree.run_eval (t := p) h
    | false => exact Tree.run_eval (t := q) h
  | .bad, h => by cases h
/-- a loop's contract -/
def LoopOk (P : Program) (cx : Cx) (body : Code) (T : St → Tree) : Prop := ∀ st e st', (T st).eval = some (e, st') → Circles P cx body st e st'
theorem hdOf_ok {X : Type} {L : Loops} {B : Code → Prop} (h : ∀ body T, B body → L (firstReg body) = some T → LoopOk P cx body T) : HdOk (X := X) P cx (hdOf L none) B := by
  refine ⟨(by intro _ _ _ _ _ _ h; cases h), fun f body hs base st K x hB he => ?_⟩
  simp only [hdOf] at he
  split at he
  · rename_i T hT
    obtain ⟨e, st', h1, h2⟩ := Tree.run_eval he
    exact ⟨e, st', h body T hB hT st e st' h1, h2⟩
  · cases he

/-- one round of a loop: out of it, or at its head again -/
def round (cx : Cx) (hd : Hd (Option (Ex × St))) (f : FuncId) (body : Code) (hs : List Nat) (base : Nat) (st : St) : Option (Ex × St) :=
  evCode cx hd none f body st fun e st' => match e with
    | .normal => match backs (cx.hint f (firstReg body)).acc hs ⟨keepOnly (cx.hint f (firstReg body)).keep st'.env, st'.heap, st'.fb⟩ with
      | none => none
      | some st1 => match clean (cx.hint f (firstReg body)) base st1 with
        | none => none
        | some st2 => some (.normal, st2)
    | e => some (e, st')
theorem round_ok {B : Code → Prop} {hd : Hd (Option (Ex × St))} (hcx : CxOk P cx) (hga : GaOk P cx) (hH : HdOk P cx hd B) {f : FuncId} {body : Code} (hB : ∀ p ∈ loopsOf body, B p) {hs : List Nat} {base : Nat} {st : St} {e : Ex} {st' : St} (he : round cx hd f body hs base st = some (e, st')) :
    (e ≠ .normal → Circles P cx body st e st') ∧ (e = .normal → ∀ e2 st2, Circles P cx body st' e2 st2 → Circles P cx body st e2 st2) := by
  unfold round at he
  obtain ⟨e1, s1, h1, h2⟩ := code_adq hcx hga hH f body st _ _ hB he
  cases e1 with
  | exit id =>
    simp only [Option.some.injEq, Prod.mk.injEq] at h2
    obtain ⟨rfl, rfl⟩ := h2
    exact ⟨fun hn => h1.last hn, fun hn => by cases hn⟩
  | ret =>
    simp only [Option.some.injEq, Prod.mk.injEq] at h2
    obtain ⟨rfl, rfl⟩ := h2
    exact ⟨fun hn => h1.last hn, fun hn => by cases hn⟩
  | normal =>
    simp only at h2
    split at h2
    · cases h2
    · rename_i s2 hb
      split at h2
      · cases h2
      · rename_i s3 hc
        simp only [Option.some.injEq, Prod.mk.injEq] at h2
        obtain ⟨rfl, rfl⟩ := h2
        refine ⟨fun hn => absurd rfl hn, fun _ e2 st2 h3 => ?_⟩
        exact h1.circle (((turns_keep (cx := cx) (st := s1) _).trans (turns_backs _ _ _ _ hb)).trans (turns_clean hc)) h3
end
end Go.Eng
