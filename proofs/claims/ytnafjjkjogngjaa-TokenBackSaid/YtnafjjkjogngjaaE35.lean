/- Contracts are gathered. -/
import Derived.Test.YtnafjjkjogngjaaE34
set_option linter.unusedVariables false
set_option linter.unusedSimpArgs false
namespace Go.Eng
open Go Go.RowKit

section
variable {P : Program} {cx cx' : Cx} {ok : Nat → Prop} {ρ : Rho} {w : World}

theorem RD.tt (h : cx.tt = cx'.tt) {d : D} {x : Value} (hd : RD cx ok w d x) : RD cx' ok w d x := by
  induction hd with
  | sc s => exact .sc s
  | nils => exact .nils
  | sl0 nl full t A cap h1 h2 h3 h4 => exact .sl0 nl full t A cap h1 h2 h3 h4
  | sl nl full t l b off cap vs h0 h1 h2 h3 h4 hc hr ih => exact .sl nl full t l b off cap vs h0 h1 h2 h3 h4 hc ih
  | fn f first caps a b h1 h2 ha hb iha ihb => exact .fn f first caps a b h1 h2 iha ihb
  | nilI => exact .nilI
  | nilf => exact .nilf
  | one T s h1 => exact .one T s (by unfold oneOk at h1 ⊢; rw [← h]; exact h1)
  | val T v h1 => exact .val T v (by unfold threeOk at h1 ⊢; rw [← h]; exact h1)
  | ref cs b off vs h1 hb hc hr ih => exact .ref cs b off vs h1 hb hc ih
theorem RC.tt (h : cx.tt = cx'.tt) {c : C} {x : Value} (hd : RC cx ρ ok w c x) : RC cx' ρ ok w c x := by
  cases c with
  | d y => exact RD.tt h hd
  | _ => exact hd
theorem RCs.tt (h : cx.tt = cx'.tt) {cs : List C} {vs : List Value} (hd : RCs cx ρ ok w cs vs) : RCs cx' ρ ok w cs vs := ⟨hd.1, fun j hj => (hd.2 j hj).tt h⟩
theorem RA.tt (h : cx.tt = cx'.tt) {g : Arg} {x : Value} (hd : RA cx ρ ok w g x) : RA cx' ρ ok w g x := by
  obtain ⟨g, cs⟩ := g
  cases g with
  | true => obtain ⟨vs, h1, h2⟩ := hd; exact ⟨vs, h1, h2.tt h⟩
  | false => obtain ⟨c, h1, h2⟩ := hd; exact ⟨c, h1, h2.tt h⟩
theorem RAs.tt (h : cx.tt = cx'.tt) {as : List Arg} {xs : List Value} (hd : RAs cx ρ ok w as xs) : RAs cx' ρ ok w as xs := ⟨hd.1, fun j hj => (hd.2 j hj).tt h⟩
theorem RV.tt (h : cx.tt = cx'.tt) {v : V} {x : Value} (hd : RV cx ρ ok w v x) : RV cx' ρ ok w v x := by
  cases v with
  | any => trivial
  | v g cs => exact RA.tt h hd
  | tup vs => obtain ⟨xs, h1, h2⟩ := hd; exact ⟨xs, h1, h2.tt h⟩
theorem RB.tt (h : cx.tt = cx'.tt) {n : Nat} {b : Blk} (hd : RB cx ρ ok w n b) : RB cx' ρ ok w n b := by
  cases b with
  | box T cs => obtain ⟨k, vs, h1, h2, h3⟩ := hd; exact ⟨k, vs, h1, h2, h3.tt h⟩
  | arr T t l =>
    rcases hd with h1 | ⟨k, vs, h1, h2, h3, h4⟩
    · exact .inl h1
    · exact .inr ⟨k, vs, h1, h2, h3, fun i j hi hj => (h4 i j hi hj).tt h⟩
theorem After.tt (h : cx.tt = cx'.tt) {r : Ret} {e : Ending} {w' : World} (ha : After cx ok w r e w') : After cx' ok w r e w' := by
  obtain ⟨x, ob, h1, h2, h3, h4, h5⟩ := ha
  refine ⟨x, ob, h1, h2, h3, ?_, fun nm => (h5 nm).tt h⟩
  rcases r with ⟨o, row, vals⟩
  rcases row with _ | ⟨T, t, l⟩
  · trivial
  · exact RB.tt (b := .arr T t l) h h4
theorem EntOk.tt (h : cx.tt = cx'.tt) {go : List Value → Sem Next} {G : List DArg → Option Ret} (he : EntOk P cx go G) : EntOk P cx' go G := fun das r hG hr ok w xs hx => by
  obtain ⟨f, ys, h1, h2⟩ := he das r hG hr ok w xs (hx.tt h.symm)
  exact ⟨f, ys, h1, h2.mono fun e w' ha => ha.tt h⟩
end

/-- what is found of a number in a list -/
def find {α : Type} : List (Nat × α) → Nat → Option α
  | [], _ => none
  | (k, a) :: r, n => if n = k then some a else find r n
def findS {α : Type} : List (String × α) → String → Option α
  | [], _ => none
  | (k, a) :: r, n => if n = k then some a else findS r n
theorem find_mem {α : Type} : ∀ (l : List (Nat × α)) (n : Nat) (a : α), find l n = some a → (n, a) ∈ l
  | [], _, _, h => by cases h
  | (k, b) :: r, n, a, h => by
    unfold find at h
    split at h
    · rename_i e; injection h with h; subst e; subst h; exact List.mem_cons_self
    · exact List.mem_cons_of_mem _ (find_mem r n a h)
theorem findS_mem {α : Type} : ∀ (l : List (String × α)) (n : String) (a : α), findS l n = some a → (n, a) ∈ l
  | [], _, _, h => by cases h
  | (k, b) :: r, n, a, h => by
    unfold findS at h
    split at h
    · rename_i e; injection h with h; subst e; subst h; exact List.mem_cons_self
    · exact List.mem_cons_of_mem _ (findS_mem r n a h)

abbrev Con := List DArg → Option Ret
/-- a context -/
def mkCx (tab : List (Option TI)) (gas : List (Nat × Con)) (invs : List (String × Con)) (hints : List (Nat × Nat × Hint)) : Cx :=
  { tt := fun T => tab.getD T none, ga := find gas, inl := fun _ => none, inv := findS invs,
    hint := fun f r => match hints.find? (fun h => h.1 == f && h.2.1 == r) with
      | some h => h.2.2
      | none => { keep := [], acc := [] } }
/-- a contract stands -/
def Stands (P : Program) (tab : List (Option TI)) (f : FuncId) (G : Con) : Prop := EntOk P (mkCx tab [] [] []) (fun xs => callFunc f xs.toArray) G
def StandsI (P : Program) (tab : List (Option TI)) (m : String) (G : Con) : Prop := EntOk P (mkCx tab [] [] []) (fun xs => invoke (.fn (.method m) #[]) xs.toArray) G

theorem gaOk {P : Program} {tab : List (Option TI)} {gas : List (Nat × Con)} {invs : List (String × Con)} {hints : List (Nat × Nat × Hint)} (h : ∀ p ∈ gas, Stands P tab p.1 p.2) (hi : ∀ p ∈ invs, StandsI P tab p.1 p.2) : GaOk P (mkCx tab gas invs hints) :=
  ⟨fun f G hG => EntOk.tt (cx := mkCx tab [] [] []) (cx' := mkCx tab gas invs hints) rfl (h (f, G) (find_mem _ _ _ hG)), fun m G hG => EntOk.tt (cx := mkCx tab [] [] []) (cx' := mkCx tab gas invs hints) rfl (hi (m, G) (findS_mem _ _ _ hG)), fun f fn hf => by cases hf⟩

/-- the step by which a contract is won -/
theorem stands {P : Program} {tab : List (Option TI)} {gas : List (Nat × Con)} {invs : List (String × Con)} {hints : List (Nat × Nat × Hint)} {L : Loops} (hcx : CxOk P (mkCx tab gas invs hints)) (h : ∀ p ∈ gas, Stands P tab p.1 p.2) (hi : ∀ p ∈ invs, StandsI P tab p.1 p.2)
    {fn : Func} {f : FuncId} (hf : FnOk P f fn) {Bs : List Code} (hB : fn.body.map loopsOf = some Bs) (hL : ∀ b ∈ Bs, ∀ T, L (firstReg b) = some T → LoopOk P (mkCx tab gas invs hints) b T) {G : Con}
    (hG : ∀ das r, G das = some r → r.ok = true → ∃ own b, evR (mkCx tab gas invs hints) (hdOf L none) none fn f own das some = some ⟨b, r.row, r.vals⟩) : Stands P tab f G := by
  refine EntOk.tt (cx := mkCx tab gas invs hints) (cx' := mkCx tab [] [] []) rfl (ent_of_ev (B := fun b => b ∈ Bs) hcx (gaOk h hi) (hdOf_ok fun b T hb hT => hL b hb T hT) hf (fun c hc p hp => ?_) hG)
  rw [hc] at hB
  injection hB with hB
  rw [← hB]; exact hp
end Go.Eng
