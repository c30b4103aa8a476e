/- Loops and functions as they are reckoned by program: what a round comes to, what the rounds come to, what a function comes to. -/
import Derived.Test.YtnafjjkjogngjaaE36
set_option linter.unusedVariables false
set_option linter.unusedSimpArgs false
namespace Go.Eng
open Go Go.RowKit

section
variable {P : Program} {cx : Cx} {st st' : St}

theorem Circles.turns {c : Code} {s1 s2 s3 : St} {e : Ex} (y : Circles P cx c s1 e s2) (x : Turns cx s2 s3) : Circles P cx c s1 e s3 := by
  obtain ⟨y1, m, y2⟩ := y
  refine ⟨x.1.trans y1, m, fun ok w0 ρ a w Q hi hl hQ => ?_⟩
  refine y2 ok w0 ρ a w Q hi hl (fun ρ1 a1 w1 i1 g1 => ?_)
  have hl1 : s2.fb ≤ s2.heap.length := by rw [y1]; exact g1.grow.len hl
  obtain ⟨ρ2, i2, g2⟩ := x.2.2 ok w0 ρ1 a1 w1 i1 hl1
  rw [y1] at g2
  exact hQ ρ2 a1 w1 i2 (g1.trans g2)

/-- a round; behind it only some slots are looked at -/
def round2 (cx : Cx) (hd : Hd (Option (Ex × St))) (f : FuncId) (body : Code) (hs : List Nat) (base : Nat) (keepX : List Nat) (st : St) : Option (Ex × St) :=
  evCode cx hd none f body st fun e st' => match e with
    | .normal => match backs (cx.hint f (firstReg body)).acc hs ⟨keepOnly (cx.hint f (firstReg body)).keep st'.env, st'.heap, st'.fb⟩ with
      | none => none
      | some st1 => match clean (cx.hint f (firstReg body)) base st1 with
        | none => none
        | some st2 => some (.normal, st2)
    | e => some (e, ⟨keepOnly keepX st'.env, st'.heap, st'.fb⟩)
theorem round2_ok {B : Code → Prop} {hd : Hd (Option (Ex × St))} (hcx : CxOk P cx) (hga : GaOk P cx) (hH : HdOk P cx hd B) {f : FuncId} {body : Code} (hB : ∀ p ∈ loopsOf body, B p) {hs : List Nat} {base : Nat} {keepX : List Nat} {st : St} {e : Ex} {st' : St} (he : round2 cx hd f body hs base keepX st = some (e, st')) :
    (e ≠ .normal → Circles P cx body st e st') ∧ (e = .normal → ∀ e2 st2, Circles P cx body st' e2 st2 → Circles P cx body st e2 st2) := by
  unfold round2 at he
  obtain ⟨e1, s1, h1, h2⟩ := code_adq hcx hga hH f body st _ _ hB he
  cases e1 with
  | exit id =>
    simp only [Option.some.injEq, Prod.mk.injEq] at h2
    obtain ⟨rfl, rfl⟩ := h2
    exact ⟨fun hn => (h1.last hn).turns (turns_keep keepX), fun hn => by cases hn⟩
  | ret =>
    simp only [Option.some.injEq, Prod.mk.injEq] at h2
    obtain ⟨rfl, rfl⟩ := h2
    exact ⟨fun hn => (h1.last hn).turns (turns_keep keepX), fun hn => by cases hn⟩
  | normal =>
    simp only at h2
    split at h2
    · cases h2
    · rename_i s2 hb
      split at h2
      · cases h2
      · rename_i s3 hc
        simp only [Option.some.injEq, Prod.mk.injEq] at h2
        obtain ⟨rfl, rfl⟩ := h2
        refine ⟨fun hn => absurd rfl hn, fun _ e2 st2 h3 => ?_⟩
        exact h1.circle (((turns_keep (cx := cx) (st := s1) _).trans (turns_backs _ _ _ _ hb)).trans (turns_clean hc)) h3
end

section
variable {V : Type}
/-- so many rounds -/
def lpN (r : V → Option (Option Nat × V)) : Nat → V → Option (Nat × V)
  | 0, _ => none
  | n + 1, v => match r v with
    | none => none
    | some (none, v') => lpN r n v'
    | some (some j, v') => some (j, v')
theorem lpN_mono {r : V → Option (Option Nat × V)} : ∀ {n m : Nat} {v : V} {x : Nat × V}, n ≤ m → lpN r n v = some x → lpN r m v = some x
  | 0, _, _, _, _, h => by cases h
  | n + 1, 0, _, _, hle, _ => by omega
  | n + 1, m + 1, v, x, hle, h => by
    unfold lpN at h ⊢
    split at h
    · cases h
    · exact lpN_mono (by omega) h
    · exact h
open Classical in
/-- all rounds: where they end -/
noncomputable def Lp (r : V → Option (Option Nat × V)) (v : V) : Option (Nat × V) :=
  if h : ∃ n x, lpN r n v = some x then some (Classical.choose (Classical.choose_spec h)) else none
theorem Lp_of {r : V → Option (Option Nat × V)} {v : V} {n : Nat} {x : Nat × V} (h : lpN r n v = some x) : Lp r v = some x := by
  have hex : ∃ n x, lpN r n v = some x := ⟨n, x, h⟩
  unfold Lp
  rw [dif_pos hex]
  have h2 := Classical.choose_spec (Classical.choose_spec hex)
  have a := lpN_mono (Nat.le_max_left n (Classical.choose hex)) h
  have b := lpN_mono (Nat.le_max_right n (Classical.choose hex)) h2
  rw [a] at b
  exact b.symm
theorem Lp_ex {r : V → Option (Option Nat × V)} {v : V} {x : Nat × V} (h : Lp r v = some x) : ∃ n, lpN r n v = some x := by
  unfold Lp at h
  split at h
  · rename_i hex
    injection h with h
    exact ⟨_, h ▸ Classical.choose_spec (Classical.choose_spec hex)⟩
  · cases h
theorem Lp_eq (r : V → Option (Option Nat × V)) (v : V) : Lp r v = match r v with
    | none => none
    | some (none, v') => Lp r v'
    | some (some j, v') => some (j, v') := by
  split
  · rename_i h
    cases hl : Lp r v with
    | none => rfl
    | some x =>
      obtain ⟨n, hn⟩ := Lp_ex hl
      cases n with
      | zero => cases hn
      | succ n => unfold lpN at hn; rw [h] at hn; cases hn
  · rename_i v' h
    cases hl : Lp r v' with
    | none =>
      cases hl2 : Lp r v with
      | none => rfl
      | some x =>
        obtain ⟨n, hn⟩ := Lp_ex hl2
        cases n with
        | zero => cases hn
        | succ n =>
          unfold lpN at hn; rw [h] at hn
          rw [Lp_of hn] at hl; cases hl
    | some x =>
      obtain ⟨n, hn⟩ := Lp_ex hl
      exact Lp_of (n := n + 1) (by unfold lpN; rw [h]; exact hn)
  · rename_i j v' h
    exact Lp_of (n := 1) (by unfold lpN; rw [h])
theorem Lp_cont {r : V → Option (Option Nat × V)} {v v' : V} (h : r v = some (none, v')) : Lp r v = Lp r v' := by rw [Lp_eq, h]
theorem Lp_exit {r : V → Option (Option Nat × V)} {v v' : V} {j : Nat} (h : r v = some (some j, v')) : Lp r v = some (j, v') := by rw [Lp_eq, h]

noncomputable def Lp_j (r : V → Option (Option Nat × V)) (v : V) (j : Nat) : Bool := match Lp r v with
  | some (i, _) => i == j
  | none => false
noncomputable def Lp_v (r : V → Option (Option Nat × V)) (v : V) : V := match Lp r v with
  | some (_, x) => x
  | none => v
theorem Lp_j_of {r : V → Option (Option Nat × V)} {v v' : V} {i : Nat} (h : Lp r v = some (i, v')) (j : Nat) : Lp_j r v j = (i == j) := by simp only [Lp_j, h]
theorem Lp_v_of {r : V → Option (Option Nat × V)} {v v' : V} {i : Nat} (h : Lp r v = some (i, v')) : Lp_v r v = v' := by simp only [Lp_v, h]

/-- the ways out of a loop, by number -/
def exT (ex : Nat → Ex × St) (jb : Nat → Bool) : List Nat → Tree
  | [] => .bad
  | j :: js => .br (jb j) (.leaf (ex j).1 (ex j).2) (exT ex jb js)
theorem exT_eval {ex : Nat → Ex × St} {jb : Nat → Bool} : ∀ {js : List Nat} {e : Ex} {st : St}, (exT ex jb js).eval = some (e, st) → ∃ j, jb j = true ∧ ex j = (e, st)
  | [], e, st, h => by cases h
  | j :: js, e, st, h => by
    cases hj : jb j with
    | true =>
      simp only [exT, Tree.eval, Tree.run, hj, cond_true, Option.some.injEq] at h
      exact ⟨j, hj, h⟩
    | false =>
      simp only [exT, Tree.eval, Tree.run, hj, cond_false] at h
      exact exT_eval h

/-- what is reckoned, by cases -/
inductive DT (T : Type) where
  | leaf (t : T)
  | fail
  | br (c : Bool) (x y : DT T)
noncomputable def DT.go {T A : Type} (k : T → A) (t : DT T) : Option A := DT.rec (motive := fun _ => Option A) (fun t => some (k t)) none (fun c _ _ x y => cond c x y) t
noncomputable def DT.run {T : Type} (t : DT T) : Option T := DT.rec (motive := fun _ => Option T) (fun t => some t) none (fun c _ _ x y => cond c x y) t
theorem DT.go_run {T A : Type} (k : T → A) (t : DT T) : t.go k = t.run.map k := by
  induction t with
  | leaf t => rfl
  | fail => rfl
  | br c x y hx hy => cases c <;> assumption
theorem DT.run_leaf {T : Type} (t : T) : (DT.leaf t).run = some t := rfl
theorem DT.run_fail {T : Type} : (DT.fail : DT T).run = none := rfl
theorem DT.run_br {T : Type} (c : Bool) (x y : DT T) : (DT.br c x y).run = cond c x.run y.run := rfl

/-- what a round came to -/
def roundOut (mk : V → St) (ex : Nat → V → Ex × St) (p : Option Nat × V) : Ex × St := match p.1 with
  | none => (.normal, mk p.2)
  | some j => ex j p.2
def exOk : Ex → Bool
  | .normal => false
  | _ => true

theorem loop_win {P : Program} {cx : Cx} {B : Code → Prop} {hd : Hd (Option (Ex × St))} (hcx : CxOk P cx) (hga : GaOk P cx) (hH : HdOk P cx hd B) {f : FuncId} {body : Code} (hB : ∀ p ∈ loopsOf body, B p) {hs : List Nat} {base : Nat} {keepX : List Nat}
    {mk : V → St} {ex : Nat → V → Ex × St} {r : V → Option (Option Nat × V)} (h : ∀ v, round2 cx hd f body hs base keepX (mk v) = (r v).map (roundOut mk ex)) (hx : ∀ j v, exOk (ex j v).1 = true) :
    ∀ v j v', Lp r v = some (j, v') → Circles P cx body (mk v) (ex j v').1 (ex j v').2 := by
  intro v j v' hl
  obtain ⟨n, hn⟩ := Lp_ex hl
  clear hl
  induction n generalizing v with
  | zero => cases hn
  | succ n ih =>
    have hr := h v
    unfold lpN at hn
    split at hn
    · cases hn
    · rename_i v1 h1
      rw [h1] at hr
      exact (round2_ok hcx hga hH hB hr).2 rfl _ _ (ih v1 hn)
    · rename_i j1 v1 h1
      injection hn with hn; injection hn with e1 e2; subst e1; subst e2
      rw [h1] at hr
      refine (round2_ok hcx hga hH hB (e := (ex j1 v1).1) (st' := (ex j1 v1).2) hr).1 (fun hc => ?_)
      have := hx j1 v1
      rw [hc] at this; cases this

/-- a loop's contract, for the states of its form -/
theorem loop_tree {P : Program} {cx : Cx} {body : Code} {mk : V → St} {ex : Nat → V → Ex × St} {r : V → Option (Option Nat × V)} (h : ∀ v j v', Lp r v = some (j, v') → Circles P cx body (mk v) (ex j v').1 (ex j v').2) (v : V) (js : List Nat) (e : Ex) (st' : St)
    (he : (exT (fun j => ex j (Lp_v r v)) (Lp_j r v) js).eval = some (e, st')) : Circles P cx body (mk v) e st' := by
  obtain ⟨j, hj, hx⟩ := exT_eval he
  unfold Lp_j at hj
  split at hj
  · rename_i i x hl
    have : i = j := by simpa using hj
    subst this
    have := h v i x hl
    rw [Lp_v_of hl] at hx
    rw [hx] at this
    exact this
  · cases hj
end

/-- slots by number -/
def envOf (n : Nat) (l : List (Nat × V)) : List V := (List.range n).map fun t => (find l t).getD .any
def heapOf (n : Nat) (l : List (Nat × Option Blk)) : Heap := (List.range n).map fun t => (find l t).getD none
def okSt (n m fb : Nat) (hs : List Nat) (st : St) : Bool := decide (st.env.length = n) && decide (st.heap.length = m) && decide (st.fb = fb) && (List.range m).all fun k => hs.contains k || (lk st.heap k).isNone
theorem find_map {α : Type} (f : Nat → α) : ∀ (ks : List Nat) (t : Nat), find (ks.map fun k => (k, f k)) t = if ks.contains t then some (f t) else none
  | [], t => rfl
  | k :: ks, t => by
    simp only [List.map_cons, find, List.contains_cons]
    by_cases h : t = k
    · subst h; simp
    · rw [if_neg h, find_map f ks t]
      have : (t == k) = false := by simpa using h
      simp only [this, Bool.false_or]
theorem keep_eq {n m fb : Nat} {hs ks : List Nat} {st : St} (h : okSt n m fb hs st = true) : (⟨keepOnly ks st.env, st.heap, st.fb⟩ : St) = ⟨envOf n (ks.map fun k => (k, st.env.getD k .any)), heapOf m (hs.map fun k => (k, lk st.heap k)), fb⟩ := by
  unfold okSt at h
  simp only [Bool.and_eq_true, decide_eq_true_eq, List.all_eq_true, List.mem_range, Bool.or_eq_true] at h
  obtain ⟨⟨⟨h1, h2⟩, h3⟩, h4⟩ := h
  have e1 : keepOnly ks st.env = envOf n (ks.map fun k => (k, st.env.getD k .any)) := by
    unfold keepOnly envOf
    rw [h1]
    refine List.map_congr_left fun t _ => ?_
    rw [find_map (fun k => st.env.getD k .any)]
    split <;> rfl
  have e2 : st.heap = heapOf m (hs.map fun k => (k, lk st.heap k)) := by
    unfold heapOf
    refine List.ext_getElem (by simp [h2]) (fun i hi _ => ?_)
    simp only [List.getElem_map, List.getElem_range]
    rw [find_map (fun k => lk st.heap k)]
    have hl : lk st.heap i = st.heap[i] := by unfold lk; rw [List.getD_eq_getElem?_getD, List.getElem?_eq_getElem hi]; rfl
    split
    · rw [← hl]; rfl
    · rename_i hc
      rcases h4 i (by omega) with h5 | h5
      · exact absurd h5 (by simpa using hc)
      · rw [← hl]
        cases hx : lk st.heap i with
        | none => rfl
        | some b => rw [hx] at h5; cases h5
  rw [e1, ← e2, h3]
theorem circles_keep {P : Program} {cx : Cx} {body : Code} {n m fb : Nat} {hs ks : List Nat} {st : St} {e : Ex} {st' : St} (h : okSt n m fb hs st = true) (hc : Circles P cx body ⟨envOf n (ks.map fun k => (k, st.env.getD k .any)), heapOf m (hs.map fun k => (k, lk st.heap k)), fb⟩ e st') : Circles P cx body st e st' := by
  rw [← keep_eq h] at hc
  exact (turns_keep ks).circles hc

/-- loops by contract, calls entered in place so deep -/
abbrev Loops2 := Nat → Option (St → Tree)
def hdI {R : Type} (cx : Cx) (L : Loops2) (inls : List (Nat × Func)) (fail : R) : Nat → Hd R
  | 0 => {
    lp := fun _ body _ _ st K => match L (firstReg body) with
      | some T => (T st).run K fail
      | none => fail
    cl := fun _ _ _ _ _ => fail }
  | n + 1 => {
    lp := fun _ body _ _ st K => match L (firstReg body) with
      | some T => (T st).run K fail
      | none => fail
    cl := fun _ f as h K => match find inls f with
      | some fn => evFun cx (hdI cx L inls fail n) fail fn f as h K
      | none => fail }
theorem hdI_ok {X : Type} {P : Program} {cx : Cx} {L : Loops2} {inls : List (Nat × Func)} {B : Code → Prop} (hcx : CxOk P cx) (hga : GaOk P cx) (hi : ∀ p ∈ inls, FnOk P p.1 p.2 ∧ ∀ c, p.2.body = some c → ∀ b ∈ loopsOf c, B b)
    (h : ∀ body T, B body → L (firstReg body) = some T → LoopOk P cx body T) : ∀ n, HdOk (X := X) P cx (hdI cx L inls none n) B
  | 0 => ⟨(by intro _ _ _ _ _ _ h; cases h), fun f body hs base st K x hB he => by
      simp only [hdI] at he
      split at he
      · rename_i T hT
        obtain ⟨e, st', h1, h2⟩ := Tree.run_eval he
        exact ⟨e, st', h body T hB hT st e st' h1, h2⟩
      · cases he⟩
  | n + 1 => by
    refine ⟨fun fn f as hp K x he => ?_, fun f body hs base st K x hB he => ?_⟩
    · simp only [hdI] at he
      split at he
      · rename_i fn' hf
        obtain ⟨q1, q2⟩ := hi _ (find_mem _ _ _ hf)
        obtain ⟨rs, h', h1, h2⟩ := fun_adq hcx hga (hdI_ok hcx hga hi h n) q2 he
        refine ⟨rs, h', fun hfn => ?_, h2⟩
        have : fn = fn' := by have a := hfn.at_; rw [q1.at_] at a; injection a with a; exact a.symm
        subst this
        exact h1 hfn
      · cases he
    · simp only [hdI] at he
      split at he
      · rename_i T hT
        obtain ⟨e, st', h1, h2⟩ := Tree.run_eval he
        exact ⟨e, st', h body T hB hT st e st' h1, h2⟩
      · cases he

/-- a context, with functions that are entered in place -/
def mkCx2 (tab : List (Option TI)) (gas : List (Nat × Con)) (invs : List (String × Con)) (hints : List (Nat × Nat × Hint)) (inls : List (Nat × Func)) : Cx :=
  { tt := fun T => tab.getD T none, ga := find gas, inl := find inls, inv := findS invs,
    hint := fun f r => match hints.find? (fun h => h.1 == f && h.2.1 == r) with
      | some h => h.2.2
      | none => { keep := [], acc := [] } }
/-- what a function's proof goes by -/
structure Ready (P : Program) (tab : List (Option TI)) (gas : List (Nat × Con)) (invs : List (String × Con)) (inls : List (Nat × Func)) : Prop where
  ga : ∀ p ∈ gas, Stands P tab p.1 p.2
  inv : ∀ p ∈ invs, StandsI P tab p.1 p.2
  inl : ∀ p ∈ inls, FnOk P p.1 p.2
theorem Ready.gaOk {P : Program} {tab : List (Option TI)} {gas : List (Nat × Con)} {invs : List (String × Con)} {inls : List (Nat × Func)} {hints : List (Nat × Nat × Hint)} (h : Ready P tab gas invs inls) : GaOk P (mkCx2 tab gas invs hints inls) :=
  ⟨fun f G hG => EntOk.tt (cx := mkCx tab [] [] []) (cx' := mkCx2 tab gas invs hints inls) rfl (h.ga (f, G) (find_mem _ _ _ hG)), fun m G hG => EntOk.tt (cx := mkCx tab [] [] []) (cx' := mkCx2 tab gas invs hints inls) rfl (h.inv (m, G) (findS_mem _ _ _ hG)), fun f fn hf => h.inl (f, fn) (find_mem _ _ _ hf)⟩

/-- loops that are in functions that are entered, and in the function -/
def loopsIn (fn : Func) (inls : List (Nat × Func)) : List Code := (match fn.body with | some c => loopsOf c | none => []) ++ (inls.map fun p => match p.2.body with | some c => loopsOf c | none => []).flatten

theorem stands2 {P : Program} {tab : List (Option TI)} {gas : List (Nat × Con)} {invs : List (String × Con)} {hints : List (Nat × Nat × Hint)} {inls : List (Nat × Func)} {L : Loops2} {n : Nat} (hcx : CxOk P (mkCx2 tab gas invs hints inls)) (h : Ready P tab gas invs inls)
    {fn : Func} {f : FuncId} (hf : FnOk P f fn) {Bs : List Code} (hB : loopsIn fn inls = Bs) (hL : ∀ b ∈ Bs, ∀ T, L (firstReg b) = some T → LoopOk P (mkCx2 tab gas invs hints inls) b T) {G : Con}
    (hG : ∀ das r, G das = some r → r.ok = true → ∃ own b, evR (mkCx2 tab gas invs hints inls) (hdI (mkCx2 tab gas invs hints inls) L inls none n) none fn f own das some = some ⟨b, r.row, r.vals⟩) : Stands P tab f G := by
  refine EntOk.tt (cx := mkCx2 tab gas invs hints inls) (cx' := mkCx tab [] [] []) rfl (ent_of_ev (B := fun b => b ∈ Bs) hcx h.gaOk (hdI_ok hcx h.gaOk (fun p hp => ⟨h.inl p hp, fun c hc b hb => ?_⟩) (fun b T hb hT => hL b hb T hT) n) hf (fun c hc p hp => ?_) hG)
  · rw [← hB]
    refine List.mem_append.2 (.inr (List.mem_flatten.2 ⟨loopsOf c, ?_, hb⟩))
    refine List.mem_map.2 ⟨p, hp, ?_⟩
    rw [hc]
  · rw [← hB]
    refine List.mem_append.2 (.inl ?_)
    rw [hc]; exact hp

/-- the loops of a piece of code, those within loops too -/
def loopsAll : Code → List Code
  | .loop p => p :: loopsAll p
  | .seq a b | .cond _ a b => loopsAll a ++ loopsAll b
  | .block _ a | .scope a => loopsAll a
  | _ => []
def loopBy (fn : Func) (r : Nat) : Code := match fn.body with
  | some c => ((loopsAll c).find? fun b => firstReg b == r).getD .skip
  | none => .skip
def loopsInl (inls : List (Nat × Func)) : List Code := (inls.map fun p => match p.2.body with | some c => loopsOf c | none => []).flatten

theorem loop_ok2 {V : Type} {P : Program} {tab : List (Option TI)} {gas : List (Nat × Con)} {invs : List (String × Con)} {hints : List (Nat × Nat × Hint)} {inls : List (Nat × Func)} {L : Loops2} {n : Nat} (hcx : CxOk P (mkCx2 tab gas invs hints inls)) (h : Ready P tab gas invs inls)
    {f : FuncId} {body : Code} {Bs : List Code} (hB : loopsOf body ++ loopsInl inls = Bs) (hL : ∀ b ∈ Bs, ∀ T, L (firstReg b) = some T → LoopOk P (mkCx2 tab gas invs hints inls) b T)
    {hs : List Nat} {base : Nat} {keepX : List Nat} {mk : V → St} {ex : Nat → V → Ex × St} {r : V → Option (Option Nat × V)}
    (hr : ∀ v, round2 (mkCx2 tab gas invs hints inls) (hdI (mkCx2 tab gas invs hints inls) L inls none n) f body hs base keepX (mk v) = (r v).map (roundOut mk ex)) (hx : ∀ j v, exOk (ex j v).1 = true) :
    ∀ v j v', Lp r v = some (j, v') → Circles P (mkCx2 tab gas invs hints inls) body (mk v) (ex j v').1 (ex j v').2 := by
  refine loop_win hcx h.gaOk (hdI_ok (B := fun b => b ∈ Bs) hcx h.gaOk (fun p hp => ⟨h.inl p hp, fun c hc b hb => ?_⟩) (fun b T hb hT => hL b hb T hT) n) (fun p hp => ?_) hr hx
  · rw [← hB]
    refine List.mem_append.2 (.inr (List.mem_flatten.2 ⟨loopsOf c, ?_, hb⟩))
    refine List.mem_map.2 ⟨p, hp, ?_⟩
    rw [hc]
  · rw [← hB]
    exact List.mem_append.2 (.inl hp)

/-- a function's answer, if there is one -/
theorem win {T : Type} {o : Option T} {ret : Bool → T → Ret} {E : Option Ret} (d : T) (h : E = o.map (ret true)) (hok : o.isSome = true) : E = some (ret true (o.getD d)) := by
  cases o with
  | none => cases hok
  | some x => exact h

/-- contracts of one function for other arguments -/
def orC (G H : Con) : Con := fun das => match G das with
  | some r => some r
  | none => H das
theorem orC_ok {P : Program} {tab : List (Option TI)} {f : FuncId} {G H : Con} (h1 : Stands P tab f G) (h2 : Stands P tab f H) : Stands P tab f (orC G H) := by
  intro das r hG
  unfold orC at hG
  split at hG
  · rename_i r' he
    injection hG with hG; subst hG
    exact h1 das _ he
  · exact h2 das r hG

theorem noneI2 {P : Program} {tab : List (Option TI)} : ∀ p ∈ ([] : List (String × Con)), StandsI P tab p.1 p.2 := fun p hp => by cases hp
theorem noneG2 {P : Program} {tab : List (Option TI)} : ∀ p ∈ ([] : List (Nat × Con)), Stands P tab p.1 p.2 := fun p hp => by cases hp
theorem noneF2 {P : Program} : ∀ p ∈ ([] : List (Nat × Func)), FnOk P p.1 p.2 := fun p hp => by cases hp
theorem consG2 {P : Program} {tab : List (Option TI)} {f : Nat} {G : Con} {l : List (Nat × Con)} (h : Stands P tab f G) (hl : ∀ p ∈ l, Stands P tab p.1 p.2) : ∀ p ∈ (f, G) :: l, Stands P tab p.1 p.2 := fun p hp => by
  rcases List.mem_cons.1 hp with rfl | hp
  · exact h
  · exact hl p hp
theorem consI2 {P : Program} {tab : List (Option TI)} {f : String} {G : Con} {l : List (String × Con)} (h : StandsI P tab f G) (hl : ∀ p ∈ l, StandsI P tab p.1 p.2) : ∀ p ∈ (f, G) :: l, StandsI P tab p.1 p.2 := fun p hp => by
  rcases List.mem_cons.1 hp with rfl | hp
  · exact h
  · exact hl p hp
theorem consF2 {P : Program} {f : Nat} {fn : Func} {l : List (Nat × Func)} (h : FnOk P f fn) (hl : ∀ p ∈ l, FnOk P p.1 p.2) : ∀ p ∈ (f, fn) :: l, FnOk P p.1 p.2 := fun p hp => by
  rcases List.mem_cons.1 hp with rfl | hp
  · exact h
  · exact hl p hp
theorem nilB {P : Program} {cx : Cx} {L : Loops2} : ∀ b ∈ ([] : List Code), ∀ T, L (firstReg b) = some T → LoopOk P cx b T := fun b hb => by cases hb
theorem consB {P : Program} {cx : Cx} {L : Loops2} {b : Code} {l : List Code} (h : ∀ T, L (firstReg b) = some T → LoopOk P cx b T) (hl : ∀ b ∈ l, ∀ T, L (firstReg b) = some T → LoopOk P cx b T) : ∀ c ∈ b :: l, ∀ T, L (firstReg c) = some T → LoopOk P cx c T := fun c hc => by
  rcases List.mem_cons.1 hc with rfl | hc
  · exact h
  · exact hl c hc
end Go.Eng
