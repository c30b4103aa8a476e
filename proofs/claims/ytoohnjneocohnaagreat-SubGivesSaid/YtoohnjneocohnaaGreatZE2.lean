/- The evaluator, part 2: the texts E18, E19, E20, E21, E22, E23, E24, E25, E26, E27, E28, E29, E30, E31, E32, E33, E34, E35, E36, E37 in one file. -/
import Derived.Test.YtoohnjneocohnaaGreatZE1
import Derived.RangeFuncRecord
import Derived.RangeFuncSeq
import Derived.LoopN
import Derived.Scope
import Derived.LoopNIn
/- Calls by contract. -/
set_option linter.unusedVariables false
set_option linter.unusedSimpArgs false
namespace Go.Eng
open Go Go.RowKit

def Sim (P : Program) (cx : Cx) (ok : Nat → Prop) (w0 : World) (ρ : Rho) (st : St) (a : Act) (w : World) (nm : Nat) (o : Oper) (v : V) (h' : Heap) : Prop :=
 ∀ (next : Act → World → Prop) (Q : Exit → Act → World → Prop), (∀ ρ' w' x, (∀ n, n ≠ nm → ρ' n = ρ n) → (∀ N, Ext N (okc ok w0.heap.size st.heap ρ) (okc ok w0.heap.size h' ρ') ρ ρ' w w') → HInv cx ok w0 ρ' h' w' →
  RV cx ρ' (okc ok w0.heap.size h' ρ') w' v x → next (a.put o.dst x) w') → o.wp P a w next Q

def one (nm : Nat) (ob : Option Nat) : Rho := fun n => if n = nm then ob else none

def okR (ok : Nat → Prop) (w : World) (ob : Option Nat) (k : Nat) : Prop := (ok k ∨ w.heap.size ≤ k) ∧ ob ≠ some k

def nameVals (nm : Nat) (vs : List Arg) : List Arg := vs.map fun (g, cs) => (g, cs.map (ownTo nm))

def RowIs (cx : Cx) (ok : Nat → Prop) (w : World) (ob : Option Nat) : Option (TypeId × (t : ET) × List (Ty t)) → Prop
 | none => True
 | some (T, ⟨t, l⟩) => RB cx (one 0 ob) ok w 0 (.arr T t l)
def After (cx : Cx) (ok : Nat → Prop) (w : World) (r : Ret) (e : Ending) (w' : World) : Prop :=
 ∃ x ob, e = .returned x ∧ Below w.heap.size w w' ∧ (∀ b, ob = some b → w.heap.size ≤ b ∧ b < w'.heap.size) ∧ RowIs cx (okR ok w ob) w' ob r.row ∧ ∀ nm, RV cx (one nm ob) (okR ok w ob) w' (valOf (nameVals nm r.vals)) x

def EntOk (P : Program) (cx : Cx) (go : List Value → Sem Next) (G : List DArg → Option Ret) : Prop :=
 ∀ das r, G das = some r → r.ok = true → ∀ ok w xs, RAs cx (fun _ => none) ok w (liftA das) xs → ∃ f xs', (go xs).run P w = .ok (.enter f xs') w ∧ Calls P f xs' w (After cx ok w r)

structure FnOk (P : Program) (f : FuncId) (fn : Func) : Prop where
 at_ : P.funcs[f]? = some fn
 name : (fn.name == "runtime.NumGoroutine") = false
 body : fn.body.isNone = false

structure GaOk (P : Program) (cx : Cx) : Prop where
 ga : ∀ f G, cx.ga f = some G → EntOk P cx (fun xs => callFunc f xs.toArray) G
 inv : ∀ m G, cx.inv m = some G → EntOk P cx (fun xs => invoke (.fn (.method m) #[]) xs.toArray) G
 inl : ∀ f fn, cx.inl f = some fn → FnOk P f fn

section
variable {P : Program} {cx : Cx} {ok : Nat → Prop} {w0 : World} {ρ : Rho} {st : St} {a : Act} {w : World} {h : Heap}

theorem Does.sim {nm : Nat} {o : Oper} {v : V} {h' : Heap} (hd : Does P cx ok w0 ρ st a w nm o v h') : Sim P cx ok w0 ρ st a w nm o v h' := by
 obtain ⟨ρ', w', nx, x, h1, h2, h3, h4, h5, h6⟩ := hd
 intro next Q K
 have := K ρ' w' x h3 h4 h5 h6
 unfold Oper.wp
 rw [h1]
 rcases h2 with rfl | ⟨rfl, rfl⟩
 ·exact this
 ·exact this
theorem Gives.does (hi : Inv cx ok w0 ρ st a w) {nm : Nat} {o : Oper} {v : V} (hg : Gives P cx ok w0 ρ st a w o v) : Does P cx ok w0 ρ st a w nm o v st.heap := by
 obtain ⟨x, h1, h2⟩ := hg
 exact ⟨ρ, w, _, x, h1, .inl rfl, fun _ _ => rfl, fun N => Ext.refl N _ _ _, hi.hv, h2⟩

theorem run_callFunc {f : FuncId} {fn : Func} (hf : FnOk P f fn) (xs : Array Value) : (callFunc f xs).run P w = .ok (.enter f xs) w := by
 obtain ⟨h1, h2, h3⟩ := hf
 have h3' : fn.body ≠ none := by intro e; rw [e] at h3; cases h3
 have h2' : fn.name ≠ "runtime.NumGoroutine" := by simpa using h2
 simp [callFunc, h1, h2', h3']

theorem kill_less (ks : List Nat) (h : Heap) : Less h (kill h ks) ks :=
 ⟨fun n hn => by rw [lk_kill, if_pos hn], fun n hn => by
  rw [lk_kill] at hn
  split at hn
  ·cases hn
  ·exact hn⟩

def callHeap (h : Heap) (ks : List Nat) (nm : Nat) : Option (TypeId × (t : ET) × List (Ty t)) → Heap
 | none => kill h ks
 | some (e, ⟨t, l⟩) => (kill h ks).set nm (some (.arr e t l))

theorem one_sub {nm : Nat} {ob : Option Nat} {n b : Nat} (h : one nm ob n = some b) : n = nm ∧ ob = some b := by
 unfold one at h
 split at h
 ·exact ⟨‹_›, h⟩
 ·cases h

theorem after_ok (hi : HInv cx ok w0 ρ h w) {nm : Nat} (hρ : ρ nm = none) (hl : nm < h.length) (hk : lk h nm = none) {ks : List Nat} {r : Ret} {w' : World} {x : Value} {ob : Option Nat}
    (hb : Below w.heap.size w w') (ho : ∀ b, ob = some b → w.heap.size ≤ b ∧ b < w'.heap.size) (hrow : RowIs cx (okR (okc ok w0.heap.size (kill h ks) ρ) w ob) w' ob r.row) (hv : ∀ nm, RV cx (one nm ob) (okR (okc ok w0.heap.size (kill h ks) ρ) w ob) w' (valOf (nameVals nm r.vals)) x) :
    (∀ N, Ext N (okc ok w0.heap.size h ρ) (okc ok w0.heap.size (callHeap h ks nm r.row) (upd ρ nm ob)) ρ (upd ρ nm ob) w w') ∧ HInv cx ok w0 (upd ρ nm ob) (callHeap h ks nm r.row) w' ∧
     RV cx (upd ρ nm ob) (okc ok w0.heap.size (callHeap h ks nm r.row) (upd ρ nm ob)) w' (valOf (nameVals nm r.vals)) x := by
 have hless := kill_less ks h
 have live : ∀ n, (lk (callHeap h ks nm r.row) n).isSome = true → n ≠ nm → (lk (kill h ks) n).isSome = true := fun n hn hne => by
  unfold callHeap at hn
  split at hn
  ·exact hn
  ·rwa [lk_set_ne hne] at hn
 have hsz : w0.heap.size ≤ w.heap.size := hi.below.size
 have hsz' : w.heap.size ≤ w'.heap.size := hb.size
 -- what the callee's data may lie in is what the caller's may
 have okto : ∀ k, okR (okc ok w0.heap.size (kill h ks) ρ) w ob k → okc ok w0.heap.size (callHeap h ks nm r.row) (upd ρ nm ob) k := fun k hkk => ⟨by
  rcases hkk.1 with h1 | h1
  ·exact h1.1
  ·exact .inr (by omega), fun n hn e => by
  by_cases hne : n = nm
  ·subst hne; rw [upd_same] at e; exact hkk.2 e
  ·rw [upd_ne hne] at e
   rcases hkk.1 with h1 | h1
   ·exact h1.2 n (live n hn hne) e
   ·have := (hi.own n k e).2; omega⟩
 have hx : ∀ N, Ext N (okc ok w0.heap.size h ρ) (okc ok w0.heap.size (callHeap h ks nm r.row) (upd ρ nm ob)) ρ (upd ρ nm ob) w w' := fun N => by
  refine ⟨fun n b _ e => ?_, fun k hk _ => hb.block k hk, fun k hk hok => ⟨hok.1, fun n hn e => ?_⟩, fun k hk => roomOf_eq (hb.block k hk), hsz'⟩
  ·have : n ≠ nm := fun e2 => by rw [e2, hρ] at e; cases e
   rw [upd_ne this]; exact e
  ·by_cases hne : n = nm
   ·subst hne; rw [upd_same] at e; have := (ho k e).1; omega
   ·rw [upd_ne hne] at e; exact hok.2 n (hless.live n (live n hn hne)) e
 have hself : ∀ N, Ext N (okR (okc ok w0.heap.size (kill h ks) ρ) w ob) (okc ok w0.heap.size (callHeap h ks nm r.row) (upd ρ nm ob)) (one nm ob) (upd ρ nm ob) w' w' := fun N =>
  ⟨fun n b _ e => by obtain ⟨rfl, e2⟩ := one_sub e; rw [upd_same]; exact e2, fun _ _ _ => rfl, fun k _ hk => okto k hk, fun _ _ => rfl, Nat.le_refl _⟩
 refine ⟨hx, ⟨fun n c hn => ?_, fun n m k hn hm e1 e2 => ?_, fun n k e => ?_, fun n hn => ?_, hi.below.trans (hb.mono hsz)⟩, Ext.all_V hself (fun n b e => (ho b (one_sub e).2).2) (hv nm)⟩
 ·by_cases hne : n = nm
  ·subst hne
   unfold callHeap at hn hx okto
   split at hn
   ·rename_i hr
    have := hless.live n (lk_some hn)
    rw [hk] at this; cases this
   ·rename_i T t l hr
    rw [lk_set_same (by rw [kill_length]; exact hl)] at hn
    injection hn with hn; subst hn
    rw [hr] at hrow
    have hrow' : RB cx (one 0 ob) (okR (okc ok w0.heap.size (kill h ks) ρ) w ob) w' 0 (.arr T t l) := hrow
    rcases hrow' with ⟨q1, q2⟩ | ⟨b, vs, q1, q2, q3, q4⟩
    ·exact .inl ⟨q1, by rw [upd_same]; exact q2⟩
    ·refine .inr ⟨b, vs, by rw [upd_same]; exact (one_sub q1).2, q2, q3, fun i j hi' hj => (q4 i j hi' hj).ext (fun _ _ _ => rfl) (fun k _ hk => ?_) (Nat.le_refl _)⟩
     exact okto k hk
  ·have hn' : lk h n = some c := by
     have h1 := live n (lk_some hn) hne
     have e1 : lk (kill h ks) n = some c := by
      unfold callHeap at hn
      split at hn
      ·exact hn
      ·rwa [lk_set_ne hne] at hn
     rw [lk_kill] at e1
     split at e1
     ·cases e1
     ·exact e1
   exact Ext.all_B hx hi.lt (fun k hk => hb.block k (hi.lt n k hk)) (fun h0 => by rw [upd_ne hne]; exact h0) (hi.heap n c hn')
 ·by_cases h1 : n = nm <;> by_cases h2 : m = nm
  ·rw [h1, h2]
  ·rw [h1, upd_same] at e1; rw [upd_ne h2] at e2; have := (ho k e1).1; have := (hi.own m k e2).2; omega
  ·rw [h2, upd_same] at e2; rw [upd_ne h1] at e1; have := (ho k e2).1; have := (hi.own n k e1).2; omega
  ·rw [upd_ne h1] at e1; rw [upd_ne h2] at e2
   exact hi.inj n m k (hless.live n (live n hn h1)) (hless.live m (live m hm h2)) e1 e2
 ·by_cases hne : n = nm
  ·subst hne; rw [upd_same] at e; have := ho k e; exact ⟨by omega, this.2⟩
  ·rw [upd_ne hne] at e; have := hi.own n k e; exact ⟨this.1, by omega⟩
 ·have e : (callHeap h ks nm r.row).length = h.length := by
    unfold callHeap
    split <;> simp [kill_length]
  have : n ≠ nm := by omega
  rw [upd_ne this]; exact hi.fresh n (by omega)

theorem lend_rc {ok1 ok2 : Nat → Prop} {w : World} {c : C} {x : Value} (hc : lendC c = true) (h : RC cx ρ ok1 w c x) : RC cx ρ ok2 w c x := by
 cases c with
 | d y =>
  cases y with
  | sc s =>
   have h : RD cx ok1 w (.sc s) x := h
   cases h
   exact RD.sc s
  | th y =>
   have h : RD cx ok1 w (.th y) x := h
   cases h with
   | nilI => exact RD.nilI
   | one T s h1 => exact RD.one T s h1
   | val T v h1 => exact RD.val T v h1
  | sl _ _ _ _ => cases hc
  | nils => cases hc
  | fn _ _ _ => cases hc
  | ref _ => cases hc
  | nilf => cases hc
 | own n t full off len => exact h
 | ptr _ _ => cases hc
 | ep _ _ _ _ => cases hc
 | clo _ _ _ => cases hc
 | yld _ => cases hc
theorem lend_ra {ok1 ok2 : Nat → Prop} {w : World} {a : Arg} {x : Value} (hc : a.2.all lendC = true) (h : RA cx ρ ok1 w a x) : RA cx ρ ok2 w a x := by
 obtain ⟨g, cs⟩ := a
 cases g with
 | true =>
  obtain ⟨vs, h1, h2⟩ := h
  exact ⟨vs, h1, h2.1, fun j hj => lend_rc (List.all_eq_true.1 hc _ (getD_mem hj)) (h2.2 j hj)⟩
 | false =>
  obtain ⟨c, h1, h2⟩ := h
  refine ⟨c, h1, lend_rc (List.all_eq_true.1 hc _ ?_) h2⟩
  rw [h1]; exact List.mem_singleton.2 rfl
theorem lend_own {nm : Nat} {c : C} (h : lendC c = true) : lendC (ownTo nm c) = true := by
 cases c with
 | own _ _ _ _ _ => rfl
 | d _ => exact h
 | ptr _ _ => exact h
 | ep _ _ _ _ => exact h
 | clo _ _ _ => exact h
 | yld _ => exact h
theorem lend_rv {ok1 ok2 : Nat → Prop} {w : World} {nm : Nat} {vals : List Arg} {x : Value} (hc : (vals.all fun a => a.2.all lendC) = true) (h : RV cx ρ ok1 w (valOf (nameVals nm vals)) x) : RV cx ρ ok2 w (valOf (nameVals nm vals)) x := by
 have key : ∀ a ∈ nameVals nm vals, a.2.all lendC = true := fun a ha => by
  simp only [nameVals, List.mem_map] at ha
  obtain ⟨⟨g, cs⟩, hg, rfl⟩ := ha
  have := List.all_eq_true.1 hc _ hg
  simp only [List.all_map, List.all_eq_true] at this ⊢
  exact fun c hcc => lend_own (this c hcc)
 generalize nameVals nm vals = vs at h key
 match vs, h with
 | [], _ => trivial
 | [(g, cs)], h => exact lend_ra (a := (g, cs)) (key _ (List.mem_singleton.2 rfl)) h
 | g1 :: g2 :: r, h =>
  obtain ⟨xs, e1, h1⟩ := h
  exact ⟨xs, e1, h1.1, fun j hj => lend_ra (key _ (getD_mem hj)) (h1.2 j hj)⟩
theorem flat_cell {ok1 ok2 : Nat → Prop} {w : World} {t : ET} (hf : t.flat = true) (y : Ty t) {j : Nat} (hj : j < width t) {x : Value} (h : RD cx ok1 w ((enc t y).getD j .nils) x) : RD cx ok2 w ((enc t y).getD j .nils) x := by
 have hl : lendC (.d ((enc t y).getD j .nils)) = true := by
  have hall : ((enc t y).all fun d => lendC (.d d)) = true := by
   cases t <;> first | rfl | cases hf
  exact List.all_eq_true.1 hall _ (getD_mem (by rw [enc_length]; exact hj))
 exact lend_rc (ρ := fun _ => none) (c := .d _) hl h
theorem lend_row {ok1 ok2 : Nat → Prop} {w : World} {n : Nat} {T : TypeId} {t : ET} {l : List (Ty t)} (hf : t.flat = true) (h : RB cx ρ ok1 w n (.arr T t l)) : RB cx ρ ok2 w n (.arr T t l) := by
 rcases h with h1 | ⟨b, vs, h1, h2, h3, h4⟩
 ·exact .inl h1
 ·exact .inr ⟨b, vs, h1, h2, h3, fun i j hi hj => flat_cell hf _ hj (h4 i j hi hj)⟩

theorem sim_gam (hi : Inv cx ok w0 ρ st a w) {nm : Nat} (hρ : ρ nm = none) (hl : nm < st.heap.length) (hk : lk st.heap nm = none) {o : Oper} {go : List Value → Sem Next} {G : List DArg → Option Ret} (hG : EntOk P cx go G) {as : List Arg} {xs : List Value}
    (hxs : RAs cx ρ (okc ok w0.heap.size st.heap ρ) w as xs) (hrun : ∀ f ys, (go xs).run P w = .ok (.enter f ys) w → (execOp a.eval o).run P w = .ok (.enter f ys) w) {e : Eff} (he : callG G nm st.heap as = some e) (hok : e.ok = true) : Sim P cx ok w0 ρ st a w nm o e.val e.heap := by
 unfold callG at he
 split at he
 ·cases he
 ·rename_i ds ks p hd
  split at he
  ·cases he
  ·rename_i r hr
   injection he with he; subst he
   simp only [Bool.and_eq_true] at hok
   have hargs := demArgs_ok hi.hv (h' := kill st.heap ks) as ds ks p xs hd hok.1 (kill_less ks st.heap) hxs (fun _ => none)
   obtain ⟨f, ys, h1, h2⟩ := hG ds r hr hok.2 _ w xs hargs
   intro next Q K
   have h3 := hrun f ys h1
   unfold Oper.wp
   rw [h3, Oper.upon_enter]
   refine h2.mono fun e w' ha => ?_
   obtain ⟨x, ob, rfl, hb, ho, hrow, hv⟩ := ha
   cases hle : r.lends with
   | false =>
    obtain ⟨k1, k2, k3⟩ := after_ok hi.hv hρ hl hk hb ho hrow hv
    rcases r with ⟨ro, row, vals⟩
    simp only [lentOf, hle] at K
    rcases row with _ | ⟨T, t, l⟩
    ·exact K (upd ρ nm ob) w' x (fun n hn => upd_ne hn) k1 k2 k3
    ·exact K (upd ρ nm ob) w' x (fun n hn => upd_ne hn) k1 k2 k3
   | true =>
    rcases r with ⟨ro, row, vals⟩
    simp only [Ret.lends, Bool.and_eq_true] at hle
    have hlents : Ret.lends ⟨ro, row, vals⟩ = true := by simp only [Ret.lends, Bool.and_eq_true]; exact hle
    simp only [lentOf, hlents, if_true] at K
    have hv2 : ∀ nm, RV cx (one nm ob) (okR (okc ok w0.heap.size (kill st.heap []) ρ) w ob) w' (valOf (nameVals nm vals)) x := fun nm => lend_rv hle.1 (hv nm)
    rcases row with _ | ⟨T, t, l⟩
    ·obtain ⟨k1, k2, k3⟩ := after_ok (ks := []) (r := ⟨ro, none, vals⟩) hi.hv hρ hl hk hb ho trivial hv2
     exact K (upd ρ nm ob) w' x (fun n hn => upd_ne hn) k1 k2 k3
    ·have hrow2 : RowIs cx (okR (okc ok w0.heap.size (kill st.heap []) ρ) w ob) w' ob (some (T, ⟨t, l⟩)) := lend_row (cx := cx) hle.2 hrow
     obtain ⟨k1, k2, k3⟩ := after_ok (ks := []) (r := ⟨ro, some (T, ⟨t, l⟩), vals⟩) hi.hv hρ hl hk hb ho hrow2 hv2
     exact K (upd ρ nm ob) w' x (fun n hn => upd_ne hn) k1 k2 k3
end
end Go.Eng
/- Each operation comes to what the evaluator says. -/
set_option linter.unusedVariables false
set_option linter.unusedSimpArgs false
namespace Go.Eng
open Go Go.RowKit

section
variable {P : Program} {cx : Cx} {ok : Nat → Prop} {w0 : World} {ρ : Rho} {st : St} {a : Act} {w : World} {h : Heap}

theorem argsOf_ok (hi : Inv cx ok w0 ρ st a w) : ∀ (xs : List Operand) (ts : List TypeId) (as : List Arg), argsOf cx st.env xs ts = some as → RAs cx ρ (okc ok w0.heap.size st.heap ρ) w as (xs.map a.eval)
 | [], _, as, h => by
  simp only [argsOf, Option.some.injEq] at h
  subst h
  exact ⟨rfl, fun j hj => by simp at hj⟩
 | x :: xs, ts, as, h => by
  simp only [argsOf] at h
  split at h
  ·rename_i g cs r h1 h2
   injection h with h; subst h
   have ih := argsOf_ok hi xs ts.tail r h2
   have hx := RV_norm (T := ts.headD 0) (RV_op hi x)
   rw [h1] at hx
   refine ⟨by simp [ih.1], fun j hj => ?_⟩
   cases j with
   | zero => exact hx
   | succ j => simpa using ih.2 j (by simpa using hj)
  ·cases h

theorem RAs_append {as bs : List Arg} {xs ys : List Value} (h1 : RAs cx ρ ok w as xs) (h2 : RAs cx ρ ok w bs ys) : RAs cx ρ ok w (as ++ bs) (xs ++ ys) := by
 refine ⟨by simp [h1.1, h2.1], fun j hj => ?_⟩
 simp only [List.getD_eq_getElem?_getD, List.getElem?_append]
 have hl := h1.1
 by_cases hlt : j < as.length
 ·rw [if_pos hlt, if_pos (by omega)]
  have := h1.2 j hlt
  simpa [List.getD_eq_getElem?_getD] using this
 ·rw [if_neg hlt, if_neg (by omega), hl]
  have := h2.2 (j - as.length) (by simp at hj; omega)
  simpa [List.getD_eq_getElem?_getD] using this

theorem RAs_refs {rs : List (List D)} {us : List Value} (hl : us.length = rs.length) (h : ∀ i, i < rs.length → RD cx ok w (.ref (rs.getD i [])) (us.getD i undef)) : RAs cx ρ ok w (rs.map fun r => (false, [C.d (.ref r)])) us := by
 refine ⟨by simpa using hl, fun j hj => ?_⟩
 have hj' : j < rs.length := by simpa using hj
 have := h j hj'
 have e : (rs.map fun r => ((false, [C.d (.ref r)]) : Arg)).getD j (false, []) = (false, [C.d (.ref (rs.getD j []))]) := by simp [List.getD_eq_getElem?_getD, hj']
 rw [e]
 exact ⟨_, rfl, this⟩
theorem RAs_ptrs {ns : List Nat} {us : List Value} (h : ptrsTo ρ ns us) : RAs cx ρ ok w (ns.map fun n => (false, [C.ptr n 0])) us := by
 refine ⟨by simpa using h.1, fun j hj => ?_⟩
 have hj' : j < ns.length := by simpa using hj
 obtain ⟨b, h1, h2⟩ := h.2 j hj'
 have e : (ns.map fun n => ((false, [C.ptr n 0]) : Arg)).getD j (false, []) = (false, [C.ptr (ns.getD j 0) 0]) := by simp [List.getD_eq_getElem?_getD, hj']
 rw [e]
 exact ⟨_, rfl, b, h1, h2⟩

def goOf (c : Call) (o : Oper) (ρ : Operand → Value) : Sem Next := do
 let d ← resolve ρ c o.type
 invoke d.target d.args

theorem exec_call {o : Oper} {cl : Call} (ho : o.op = .call cl) (r : Operand → Value) : execOp r o = goOf cl o r := by
 simp [execOp, ho, goOf]

theorem wayOf_gam (hga : GaOk P cx) (hi : Inv cx ok w0 ρ st a w) {o : Oper} {cl : Call} (ho : o.op = .call cl) {G : List DArg → Option Ret} {as : List Arg} (hw : wayOf cx st.env cl = some (.gam G as)) :
    ∃ go xs, EntOk P cx go G ∧ RAs cx ρ (okc ok w0.heap.size st.heap ρ) w as xs ∧ ∀ f ys, (go xs).run P w = .ok (.enter f ys) w → (execOp a.eval o).run P w = .ok (.enter f ys) w := by
 unfold wayOf at hw
 split at hw
 ·cases hw
 ·rename_i as0 has
  have hargs := argsOf_ok hi _ _ _ has
  split at hw
  ·rename_i f hf
   split at hw
   ·rename_i g fs ks hop
    simp only at hw
    split at hw
    ·rename_i G' hG
     injection hw with hw; injection hw with e1 e2; subst e1; subst e2
     have hv := op_c hi hop
     generalize hfe : a.eval f = fe at hv
     cases hv with
     | fn _ _ _ u v h1 h2 ha hb =>
      refine ⟨_, u ++ cl.args.toList.map a.eval ++ v, hga.ga _ _ hG, RAs_append (RAs_append (RAs_refs h1 ha) hargs) (RAs_refs h2 hb), fun f' ys hr => ?_⟩
      rw [exec_call ho]
      have e : (u.toArray ++ cl.args.map a.eval) ++ v.toArray = (u ++ cl.args.toList.map a.eval ++ v).toArray := by
       apply Array.toList_inj.1; simp
      simp only [goOf, resolve, hf, hfe, Deferred.ofValue, Sem.run_bind, Sem.run_pure, Result.andThen_ok, invoke]
      rw [e]
      exact hr
    ·split at hw <;> cases hw
   ·split at hw <;> cases hw
   ·cases hw
  ·rename_i x m hc
   split at hw
   ·rename_i G' y hG hop
    injection hw with hw; injection hw with e1 e2; subst e1; subst e2
    have hv := op_c hi hop
    refine ⟨_, a.eval x :: cl.args.toList.map a.eval, hga.inv _ _ hG, ⟨by simp [hargs.1], fun j hj => ?_⟩, fun f' ys hr => ?_⟩
    ·cases j with
     | zero => exact ⟨_, rfl, hv⟩
     | succ j => simpa using hargs.2 j (by simpa using hj)
    ·rw [exec_call ho]
     have e : #[a.eval x] ++ cl.args.map a.eval = (a.eval x :: cl.args.toList.map a.eval).toArray := by
      apply Array.toList_inj.1; simp
     simp only [goOf, resolve, hc, Sem.run_bind, Sem.run_pure, Result.andThen_ok]
     rw [e]
     exact hr
   ·cases hw
  ·cases hw

theorem wayOf_inl (hga : GaOk P cx) (hi : Inv cx ok w0 ρ st a w) {o : Oper} {cl : Call} (ho : o.op = .call cl) {fn : Func} {f : FuncId} {as : List Arg} (hw : wayOf cx st.env cl = some (.inl fn f as)) :
    ∃ xs, FnOk P f fn ∧ RAs cx ρ (okc ok w0.heap.size st.heap ρ) w as xs ∧ (execOp a.eval o).run P w = .ok (.enter f xs.toArray) w := by
 unfold wayOf at hw
 split at hw
 ·cases hw
 ·rename_i as0 has
  have hargs := argsOf_ok hi _ _ _ has
  split at hw
  ·rename_i fv hf
   split at hw
   ·rename_i g fs ks hop
    simp only at hw
    split at hw
    ·cases hw
    ·split at hw
     ·rename_i fn' hfn
      injection hw with hw; injection hw with e1 e2 e3; subst e1; subst e2; subst e3
      have hv := op_c hi hop
      generalize hfe : a.eval fv = fe at hv
      have hok := hga.inl _ _ hfn
      cases hv with
      | fn _ _ _ u v h1 h2 ha hb =>
       refine ⟨u ++ cl.args.toList.map a.eval ++ v, hok, RAs_append (RAs_append (RAs_refs h1 ha) hargs) (RAs_refs h2 hb), ?_⟩
       rw [exec_call ho]
       have e : (u.toArray ++ cl.args.map a.eval) ++ v.toArray = (u ++ cl.args.toList.map a.eval ++ v).toArray := by
        apply Array.toList_inj.1; simp
       simp only [goOf, resolve, hf, hfe, Deferred.ofValue, Sem.run_bind, Sem.run_pure, Result.andThen_ok, invoke]
       rw [e]
       exact run_callFunc hok _
     ·cases hw
   ·rename_i g fs ks hop
    split at hw
    ·rename_i fn' hfn
     injection hw with hw; injection hw with e1 e2 e3; subst e1; subst e2; subst e3
     obtain ⟨u, v, hfe, h1, h2⟩ := op_c hi hop
     have hok := hga.inl _ _ hfn
     refine ⟨u ++ cl.args.toList.map a.eval ++ v, hok, RAs_append (RAs_append (RAs_ptrs h1) hargs) (RAs_ptrs h2), ?_⟩
     rw [exec_call ho]
     have e : (u.toArray ++ cl.args.map a.eval) ++ v.toArray = (u ++ cl.args.toList.map a.eval ++ v).toArray := by
      apply Array.toList_inj.1; simp
     simp only [goOf, resolve, hf, hfe, Deferred.ofValue, Sem.run_bind, Sem.run_pure, Result.andThen_ok, invoke]
     rw [e]
     exact run_callFunc hok _
    ·cases hw
   ·cases hw
  ·split at hw <;> cases hw
  ·cases hw

theorem pure1_eq {v : V} {e : Eff} (he : pure1 h v = some e) : e.val = v ∧ e.heap = h ∧ e.ok = true ∧ e.rd = [] ∧ e.wr = [] := by
 unfold pure1 at he
 injection he with he; subst he
 exact ⟨rfl, rfl, rfl, rfl, rfl⟩

theorem list_two {α β : Type} {f : α → β} {l : List α} {x y : β} (h : l.map f = [x, y]) : ∃ p q, l = [p, q] ∧ f p = x ∧ f q = y := by
 match l, h with
 | [p, q], h => simp only [List.map_cons, List.map_nil, List.cons.injEq, and_true] at h; exact ⟨p, q, rfl, h.1, h.2⟩
theorem list_one {α β : Type} {f : α → β} {l : List α} {x : β} (h : l.map f = [x]) : ∃ p, l = [p] ∧ f p = x := by
 match l, h with
 | [p], h => simp only [List.map_cons, List.map_nil, List.cons.injEq, and_true] at h; exact ⟨p, rfl, h⟩

theorem blt_does (hcx : CxOk P cx) (hi : Inv cx ok w0 ρ st a w) {nm : Nat} (hρ : ρ nm = none) (hl : nm < st.heap.length) (hk : lk st.heap nm = none) {o : Oper} {cl : Call} {b : Builtin} (ho : o.op = .call cl) (hb : cl.callee = .builtin b) {e : Eff}
    (he : bltE cx b nm st.heap (cl.args.toList.map (opv st.env)) cl.argTypes.toList = some e) (hok : e.ok = true) : Does P cx ok w0 ρ st a w nm o e.val e.heap := by
 have fin : ∀ v, pure1 st.heap v = some e → Gives P cx ok w0 ρ st a w o v → Does P cx ok w0 ρ st a w nm o e.val e.heap := fun v h1 h2 => by
  obtain ⟨r1, r2, _⟩ := pure1_eq h1
  rw [r1, r2]
  exact h2.does hi
 unfold bltE at he
 split at he
 ·rename_i c T ts hvs hts
  obtain ⟨x, hx, hxv⟩ := list_one hvs
  split at he
  ·rename_i s1 h1 h2 n s hT hn
   exact fin _ he (gives_len hcx hi ho hb hx hts hxv hn (.inl ⟨_, _, _, hT, _, rfl⟩))
  ·cases he
  ·rename_i h0 hT hns hn
   exact fin _ he (gives_len hcx hi ho hb hx hts hxv (by first | exact hn | exact hns) (.inr ⟨_, _, _, _, _, hT, fun s hs => by first | exact hns s hs | exact hn s hs⟩))
  ·cases he
 ·rename_i s x T T2 hvs hts
  obtain ⟨X, Y, hx, h1, h2⟩ := list_two hvs
  split at he
  ·rename_i hT2
   exact does_append hcx hi hρ hl hk ho hb hx hts h1 h2 hT2 he hok
  ·cases he
 ·rename_i s x T T2 hvs hts
  obtain ⟨X, Y, hx, h1, h2⟩ := list_two hvs
  split at he
  ·rename_i hT
   exact does_copy hcx hi ho hb hx hts h1 h2 hT he hok
  ·cases he
 ·rename_i s T hvs hts
  obtain ⟨X, hx, h1⟩ := list_one hvs
  split at he
  ·rename_i hT
   exact does_clear hcx hi ho hb hx hts h1 hT he hok
  ·cases he
 ·rename_i k p k' q hvs
  obtain ⟨X, Y, hx, h1, h2⟩ := list_two hvs
  split at he
  ·rename_i hkk; subst hkk
   exact fin _ he (gives_max hi ho hb hx h1 h2)
  ·cases he
 ·rename_i k p k' q hvs
  obtain ⟨X, Y, hx, h1, h2⟩ := list_two hvs
  split at he
  ·rename_i hkk; subst hkk
   exact fin _ he (gives_min hi ho hb hx h1 h2)
  ·cases he
 ·cases he
end
end Go.Eng
/- Each operation comes to what the evaluator says: all of them. -/
set_option linter.unusedVariables false
set_option linter.unusedSimpArgs false
namespace Go.Eng
open Go Go.RowKit

section
variable {P : Program} {cx : Cx} {ok : Nat → Prop} {w0 : World} {ρ : Rho} {st : St} {a : Act} {w : World} {h : Heap}

theorem op_sim (hcx : CxOk P cx) (hga : GaOk P cx) (hi : Inv cx ok w0 ρ st a w) {nm : Nat} (hρ : ρ nm = none) (hl : nm < st.heap.length) (hk : lk st.heap nm = none) {o : Oper} {e : Eff} (he : opE cx nm st.env st.heap o = some e) (hok : e.ok = true) :
    Sim P cx ok w0 ρ st a w nm o e.val e.heap := by
 have fin : ∀ v, pure1 st.heap v = some e → Gives P cx ok w0 ρ st a w o v → Sim P cx ok w0 ρ st a w nm o e.val e.heap := fun v h1 h2 => by
  obtain ⟨r1, r2, _⟩ := pure1_eq h1
  rw [r1, r2]
  exact (h2.does hi).sim
 have plain : ∀ v, e.val = v → e.heap = st.heap → Gives P cx ok w0 ρ st a w o v → Sim P cx ok w0 ρ st a w nm o e.val e.heap := fun v r1 r2 h2 => by
  rw [r1, r2]
  exact (h2.does hi).sim
 cases hop : o.op <;> simp only [opE, hop] at he
 case move x => exact fin _ he (gives_move hi (.inl hop))
 case assign x => exact fin _ he (gives_move hi (.inr hop))
 case pick c x y =>
  split at he
  ·rename_i t hc
   exact fin _ he (gives_pick hi hop hc)
  ·cases he
 case alloc T =>
  split at he
  ·rename_i i hT
   injection he with he; subst he
   exact (does_alloc hcx hi hρ hl hk hop hT).sim
  ·cases he
 case box T x =>
  split at he
  ·rename_i i g cs hT hx
   split at he
   ·injection he with he; subst he
    exact (does_box hcx hi hρ hl hk hop hx).sim
   ·cases he
  ·cases he
 case build T parts =>
  split at he
  ·rename_i fs n z es hT
   split at he
   ·rename_i cs hf
    exact fin _ he (gives_build hcx hi hop hT hf)
   ·cases he
  ·rename_i m F n z es hT
   split at he
   ·rename_i fi hF
    split at he
    ·rename_i cs hf
     exact fin _ he (gives_buildA hcx hi hop hT hF hf)
    ·cases he
   ·cases he
  ·cases he
 case buildSlice T n parts =>
  split at he
  ·rename_i e' t n' z es hT
   split at he
   ·rename_i l ks p hr
    split at he
    ·rename_i hn
     injection he with he; subst he
     exact (does_buildSlice hcx hi hρ hl hk hop hT hr hok hn).sim
    ·cases he
   ·cases he
  ·cases he
 case load T x =>
  obtain ⟨h1, h2⟩ := gives_load hcx.ty hi hop he hok
  exact plain _ rfl h2 h1
 case store T x y => exact (does_store hcx hi hop he hok).sim
 case nilCheck x =>
  split at he
  ·rename_i c v hv
   injection he with he; subst he
   exact plain _ rfl rfl (gives_nilCheck hi hop hv hok)
  ·cases he
 case binOp op T x y Y =>
  split at he
  ·rename_i c v hv
   injection he with he; subst he
   exact plain _ rfl rfl (gives_bin hcx hi hop hv hok)
  ·cases he
 case unOp op T x =>
  split at he
  ·rename_i b hx
   exact fin _ he (gives_not hi hop hx)
  ·rename_i k n hx
   exact fin _ he (gives_neg hi hop hx)
  ·cases he
 case convert S T x =>
  split at he
  ·rename_i hS hT hx
   exact fin _ he (gives_convert hcx hi hop hS hT hx)
  ·cases he
 case makeInterface T x =>
  split at he
  ·rename_i v hv
   exact fin _ he (gives_iface hcx hi hop hv)
  ·cases he
 case makeFunc fn first caps =>
  split at he
  ·rename_i f
   have e1 : e = { ok := true, val := e.val, heap := st.heap } := by
    revert he
    simp only [pure1]
    split
    ·intro he; injection he with he; subst he; rfl
    ·split
     ·intro he; injection he with he; subst he; rfl
     ·split
      ·intro he; injection he with he; subst he; rfl
      ·intro he; cases he
   have h2 := gives_makeFunc (P := P) (v := e.val) hi hop (he.trans (congrArg some e1))
   rw [show e.heap = st.heap from by rw [e1]]
   exact (h2.does hi).sim
  ·cases he
 case makeSlice T x y =>
  split at he
  ·rename_i e' t n' z es n m hT hx hy
   injection he with he; subst he
   simp only [Bool.and_eq_true, decide_eq_true_eq, beq_iff_eq] at hok
   exact (does_makeSlice hcx hi hρ hl hk hop hT hx hy hok.1.1 hok.1.2 hok.2).sim
  ·cases he
 case slice T x lo hi' mx =>
  split at he
  ·rename_i lo1 hi1 s n z es hlo hhi hmx hx hT
   generalize hc : cut s.size lo1 hi1 none = q at he
   obtain ⟨c, p, q, f⟩ := q
   injection he with he; subst he
   obtain rfl : c = true := hok
   have hmx' : mx = none := by
    cases mx with
    | none => rfl
    | some x =>
     simp only [bnd] at hmx
     split at hmx <;> cases hmx
   subst hmx'
   exact plain _ rfl rfl (gives_sliceS hcx hi hop hlo hhi hx hT hc)
  ·rename_i lo1 hi1 mx1 nl full t l e' t' n z es hlo hhi hmx hx hT
   split at he
   ·rename_i htt; subst htt
    generalize hc : cut l.length lo1 hi1 mx1 = q at he
    obtain ⟨c, p, q, f⟩ := q
    injection he with he; subst he
    obtain rfl : c = true := hok
    exact plain _ rfl rfl (gives_sliceD hcx hi hop hlo hhi hmx hx hT hc)
   ·cases he
  ·rename_i lo1 hi1 mx1 k t full off len e' t' n z es hlo hhi hmx hx hT
   split at he
   ·rename_i htt; subst htt
    generalize hc : cut len lo1 hi1 mx1 = q at he
    obtain ⟨c, p, q, f⟩ := q
    injection he with he; subst he
    obtain rfl : c = true := hok
    exact plain _ rfl rfl (gives_sliceO hcx hi hop hlo hhi hmx hx hT hc)
   ·cases he
  ·cases he
 case fieldAddr S x f =>
  split at he
  ·rename_i off F hf
   split at he
   ·cases he
   ·rename_i hF
    obtain ⟨h1, h2, h3⟩ := gives_fieldAddr hcx hi hop hf hF he
    exact plain _ rfl h2 h1
  ·cases he
 case field S x f =>
  split at he
  ·rename_i off F cs hf hx
   split at he
   ·rename_i i hF
    split at he
    ·rename_i hle
     exact fin _ he (gives_field hcx hi hop hf hx hF hle)
    ·cases he
   ·cases he
  ·cases he
 case indexAddr T x i =>
  split at he
  ·rename_i e' t' n1 z es nl full t l k n hT hx hy
   split at he
   ·rename_i htt; subst htt
    injection he with he; subst he
    simp only [Bool.and_eq_true, decide_eq_true_eq] at hok
    exact plain _ rfl rfl (gives_indexD hcx hi hop hT hx hy hok.1 hok.2)
   ·cases he
  ·rename_i e' t' n1 z es m t full off len k n hT hx hy
   split at he
   ·rename_i htt; subst htt
    injection he with he; subst he
    simp only [Bool.and_eq_true, decide_eq_true_eq] at hok
    exact plain _ rfl rfl (gives_indexO hcx hi hop hT hx hy hok.1 hok.2)
   ·cases he
  ·rename_i m e' n1 z es q k n hT hx hy
   split at he
   ·rename_i i' hE
    injection he with he; subst he
    simp only [Bool.and_eq_true, decide_eq_true_eq] at hok
    exact plain _ rfl rfl (gives_indexA hcx hi hop hT hx hy hE hok.1 hok.2)
   ·cases he
  ·cases he
 case index T x i =>
  split at he
  ·rename_i n1 z es s k n hT hx hy
   injection he with he; subst he
   simp only [Bool.and_eq_true, decide_eq_true_eq] at hok
   exact plain _ rfl rfl (gives_indexS hcx hi hop hT hx hy hok.1 hok.2)
  ·cases he
 case typeAssert x X T commaOk =>
  split at he
  ·rename_i y hx
   split at he
   ·rename_i c v hv
    injection he with he; subst he
    exact plain _ rfl rfl (gives_assert hcx hi hop hx hv hok)
   ·cases he
  ·cases he
 case extract x i =>
  split at he
  ·rename_i vs hx
   split at he
   ·rename_i g cs hg
    exact fin _ he (gives_extract hi hop hx hg)
   ·cases he
  ·cases he
 case call c =>
  split at he
  ·rename_i b hb
   exact (blt_does hcx hi hρ hl hk hop hb he hok).sim
  ·split at he
   ·rename_i G as hw
    obtain ⟨go, xs, h1, h2, h3⟩ := wayOf_gam hga hi hop hw
    exact sim_gam hi hρ hl hk h1 h2 h3 he hok
   ·cases he
 all_goals cases he
end
end Go.Eng
/- What an operation looks at, and what it changes. -/
set_option linter.unusedVariables false
set_option linter.unusedSimpArgs false
namespace Go.Eng
open Go Go.RowKit

section
variable {cx : Cx} {env env' : List V} {h h' : Heap}

theorem argsOf_env : ∀ (xs : List Operand) (ts : List TypeId), (∀ x ∈ xs, opv env' x = opv env x) → argsOf cx env' xs ts = argsOf cx env xs ts
 | [], _, _ => rfl
 | x :: xs, ts, hx => by
  simp only [argsOf]
  rw [hx x (List.mem_cons_self), argsOf_env xs ts.tail (fun y hy => hx y (List.mem_cons_of_mem _ hy))]

theorem wayOf_env {c : Call} (hx : ∀ x ∈ c.operands, opv env' x = opv env x) : wayOf cx env' c = wayOf cx env c := by
 unfold wayOf
 rw [argsOf_env c.args.toList c.argTypes.toList (fun x hm => hx x (by simp [Call.operands, Array.mem_toList_iff.1 hm]))]
 cases hc : c.callee with
 | value f => simp only [hx f (by simp [Call.operands, hc])]
 | invoke r m => simp only [hx r (by simp [Call.operands, hc])]
 | builtin b => rfl

theorem yldE_env {c : Call} (hx : ∀ x ∈ c.operands, opv env' x = opv env x) : yldE cx env' c = yldE cx env c := by
 unfold yldE
 rw [argsOf_env c.args.toList c.argTypes.toList (fun x hm => hx x (by simp [Call.operands, Array.mem_toList_iff.1 hm]))]
 cases hc : c.callee with
 | value f => simp only [hx f (by simp [Call.operands, hc])]
 | invoke r m => rfl
 | builtin b => rfl

theorem inlE_env {o : Oper} (hx : ∀ x ∈ o.op.operands, opv env' x = opv env x) : inlE cx env' o = inlE cx env o := by
 unfold inlE
 cases ho : o.op <;> simp only [ho, Op.operands] at hx ⊢
 rename_i c
 rw [wayOf_env hx, yldE_env hx]

theorem fillB_env {T : TypeId} : ∀ (ps : List (Nat × Operand)) (cs : List C), (∀ p ∈ ps, opv env' p.2 = opv env p.2) → fillB cx T env' ps cs = fillB cx T env ps cs
 | [], _, _ => rfl
 | (i, x) :: r, cs, hx => by
  have e1 : opv env' x = opv env x := hx (i, x) List.mem_cons_self
  have ih := fun cs => fillB_env (T := T) r cs (fun p hp => hx p (List.mem_cons_of_mem _ hp))
  simp only [fillB, e1, ih]
theorem fillA_env {F : TypeId} {fi : TI} : ∀ (ps : List (Nat × Operand)) (cs : List C), (∀ p ∈ ps, opv env' p.2 = opv env p.2) → fillA cx F fi env' ps cs = fillA cx F fi env ps cs
 | [], _, _ => rfl
 | (i, x) :: r, cs, hx => by
  have e1 : opv env' x = opv env x := hx (i, x) List.mem_cons_self
  have ih := fun cs => fillA_env (F := F) (fi := fi) r cs (fun p hp => hx p (List.mem_cons_of_mem _ hp))
  simp only [fillA, e1, ih]
theorem rowsB_env {e : TypeId} {t : ET} : ∀ (ps : List (Nat × Operand)) (l : List (Ty t)) (ks : List Nat) (p : Bool), (∀ p ∈ ps, opv env' p.2 = opv env p.2) → rowsB cx e t env' h ps l ks p = rowsB cx e t env h ps l ks p
 | [], _, _, _, _ => rfl
 | (i, x) :: r, l, ks, p, hx => by
  have e1 : opv env' x = opv env x := hx (i, x) List.mem_cons_self
  have ih := fun l ks p => rowsB_env (e := e) (t := t) r l ks p (fun p hp => hx p (List.mem_cons_of_mem _ hp))
  simp only [rowsB, e1, ih]
theorem bnd_env {x : Option Operand} (hx : ∀ y, x = some y → opv env' y = opv env y) : bnd env' x = bnd env x := by
 cases x with
 | none => rfl
 | some y => simp only [bnd, hx y rfl]
theorem map_env {xs : List Operand} (hx : ∀ x ∈ xs, opv env' x = opv env x) : xs.map (opv env') = xs.map (opv env) := List.map_congr_left hx

theorem opE_env {nm : Nat} {o : Oper} (hx : ∀ x ∈ o.op.operands, opv env' x = opv env x) : opE cx nm env' h o = opE cx nm env h o := by
 cases ho : o.op <;> simp only [ho, Op.operands] at hx <;> simp only [opE, ho]
 case build T ps =>
  have ih := fun cs => fillB_env (cx := cx) (T := T) ps.toList cs (fun p hp => hx p.2 (by simpa using ⟨p.1, Array.mem_toList_iff.1 hp⟩))
  have ih2 := fun F fi cs => fillA_env (cx := cx) (F := F) (fi := fi) ps.toList cs (fun p hp => hx p.2 (by simpa using ⟨p.1, Array.mem_toList_iff.1 hp⟩))
  simp only [ih, ih2]
 case buildSlice T n ps =>
  have ih := fun e t l ks p => rowsB_env (cx := cx) (h := h) (e := e) (t := t) ps.toList l ks p (fun p hp => hx p.2 (by simpa using ⟨p.1, Array.mem_toList_iff.1 hp⟩))
  simp only [ih]
 case load T x => simp only [loadE, hx x (by simp)]
 case store T x y => simp only [storeE, hx x (by simp), hx y (by simp)]
 case makeFunc fn first caps =>
  rw [map_env (xs := first.toList) (fun x hm => hx x (by simp [Array.mem_toList_iff.1 hm])), map_env (xs := caps.toList) (fun x hm => hx x (by simp [Array.mem_toList_iff.1 hm]))]
 case call c =>
  rw [wayOf_env hx, map_env (xs := c.args.toList) (fun x hm => hx x (by simp [Call.operands, Array.mem_toList_iff.1 hm]))]
 case slice T x lo hi mx =>
  rw [hx x (by simp), bnd_env (x := lo) (fun y hy => hx y (by simp [hy])), bnd_env (x := hi) (fun y hy => hx y (by simp [hy])), bnd_env (x := mx) (fun y hy => hx y (by simp [hy]))]
 all_goals first
  | rfl
  | (simp_all; done)
  | skip
end
end Go.Eng
/- What an operation reads of the heap, and what it changes there. -/
set_option linter.unusedVariables false
set_option linter.unusedSimpArgs false
namespace Go.Eng
open Go Go.RowKit

def patch (h : Heap) : List (Nat × Option Blk) → Heap
 | [] => h
 | p :: ps => patch (h.set p.1 p.2) ps

theorem kill_patch : ∀ (ks : List Nat) (h : Heap), kill h ks = patch h (ks.map fun k => (k, none))
 | [], _ => rfl
 | k :: ks, h => by rw [kill, kill_patch ks]; rfl
theorem patch_append : ∀ (a b : List (Nat × Option Blk)) (h : Heap), patch h (a ++ b) = patch (patch h a) b
 | [], _, _ => rfl
 | p :: a, b, h => patch_append a b (h.set p.1 p.2)
theorem patch_length : ∀ (a : List (Nat × Option Blk)) (h : Heap), (patch h a).length = h.length
 | [], _ => rfl
 | p :: a, h => by rw [patch, patch_length a]; simp
theorem lk_patch : ∀ (a : List (Nat × Option Blk)) (h : Heap) (n : Nat), (∀ p ∈ a, p.1 ≠ n) → lk (patch h a) n = lk h n
 | [], _, _, _ => rfl
 | p :: a, h, n, hn => by
  rw [patch, lk_patch a _ n (fun q hq => hn q (List.mem_cons_of_mem _ hq)), lk_set_ne (fun e => hn p List.mem_cons_self e.symm)]

def Loc (F : Heap → Option Eff) (nm : Nat) (h : Heap) (e : Eff) : Prop :=
 ∃ dl, e.heap = patch h dl ∧ (∀ p ∈ dl, p.1 ∈ e.wr ∧ (p.2 = none ∨ p.1 = nm ∨ (lk h p.1).isSome = true)) ∧ ∀ h', (∀ n ∈ e.rd, lk h' n = lk h n) → F h' = some ⟨e.ok, e.val, patch h' dl, e.rd, e.wr⟩

section
variable {cx : Cx} {env : List V} {h h' : Heap}

theorem Loc.quiet {F : Heap → Option Eff} {nm : Nat} {e : Eff} (he : F h = some e) (hF : ∀ h1 h2, F h2 = (F h1).map fun e => ⟨e.ok, e.val, h2, e.rd, e.wr⟩) : Loc F nm h e := by
 refine ⟨[], ?_, fun p hp => by simp at hp, fun h' _ => by rw [hF h h', he]; rfl⟩
 have := hF h h
 rw [he] at this
 injection this with this
 rw [this]; rfl

theorem dem0_local {c : C} {d : D} {ks : List Nat} {p : Bool} (he : dem0 h c = some (d, ks, p)) (hh : ∀ n ∈ ks, lk h' n = lk h n) : dem0 h' c = some (d, ks, p) := by
 unfold dem0 at he ⊢
 cases c with
 | own n t full off len =>
  simp only at he ⊢
  have hn : n ∈ ks := by
   split at he
   ·split at he
    ·injection he with he; injection he with _ he; injection he with he _; rw [← he]; exact List.mem_singleton.2 rfl
    ·cases he
   ·cases he
  rw [hh n hn]; exact he
 | _ => exact he
theorem demL0_local : ∀ (cs : List C) (ds : List D) (ks : List Nat) (p : Bool), demL0 h cs = some (ds, ks, p) → (∀ n ∈ ks, lk h' n = lk h n) → demL0 h' cs = some (ds, ks, p)
 | [], _, _, _, he, _ => he
 | c :: cs, ds, ks, p, he, hh => by
  simp only [demL0] at he ⊢
  split at he
  ·rename_i x a p1 xs b p2 h1 h2
   injection he with he; injection he with e1 he; injection he with e2 e3; subst e1; subst e2; subst e3
   rw [dem0_local h1 (fun n hn => hh n (List.mem_append.2 (.inl hn))), demL0_local cs _ _ _ h2 (fun n hn => hh n (List.mem_append.2 (.inr hn)))]
  ·cases he
theorem demBoxes_local : ∀ (ns : List Nat) (rs : List (List D)) (ks : List Nat) (p : Bool), demBoxes h ns = some (rs, ks, p) → (∀ n ∈ ks, lk h' n = lk h n) → demBoxes h' ns = some (rs, ks, p)
 | [], _, _, _, he, _ => he
 | n :: ns, rs, ks, p, he, hh => by
  simp only [demBoxes] at he ⊢
  split at he
  ·rename_i B cs hk
   split at he
   ·rename_i xs a p1 r b p2 h1 h2
    injection he with he; injection he with e1 he; injection he with e2 e3; subst e1; subst e2; subst e3
    rw [hh n List.mem_cons_self, hk]
    simp only
    rw [demL0_local cs _ _ _ h1 (fun m hm => hh m (List.mem_cons_of_mem _ (List.mem_append.2 (.inl hm)))), demBoxes_local ns _ _ _ h2 (fun m hm => hh m (List.mem_cons_of_mem _ (List.mem_append.2 (.inr hm))))]
   ·cases he
  ·cases he
theorem dem_local {c : C} {d : D} {ks : List Nat} {p : Bool} (he : dem h c = some (d, ks, p)) (hh : ∀ n ∈ ks, lk h' n = lk h n) : dem h' c = some (d, ks, p) := by
 unfold dem at he ⊢
 split at he
 ·rename_i f first caps
  split at he
  ·rename_i a x1 p1 b y p2 h1 h2
   injection he with he; injection he with e1 he; injection he with e2 e3; subst e1; subst e2; subst e3
   rw [demBoxes_local first _ _ _ h1 (fun n hn => hh n (List.mem_append.2 (.inl hn))), demBoxes_local caps _ _ _ h2 (fun n hn => hh n (List.mem_append.2 (.inr hn)))]
  ·cases he
 ·exact dem0_local he hh
theorem demL_local : ∀ (cs : List C) (ds : List D) (ks : List Nat) (p : Bool), demL h cs = some (ds, ks, p) → (∀ n ∈ ks, lk h' n = lk h n) → demL h' cs = some (ds, ks, p)
 | [], _, _, _, he, _ => he
 | c :: cs, ds, ks, p, he, hh => by
  simp only [demL] at he ⊢
  split at he
  ·rename_i x a p1 xs b p2 h1 h2
   injection he with he; injection he with e1 he; injection he with e2 e3; subst e1; subst e2; subst e3
   rw [dem_local h1 (fun n hn => hh n (List.mem_append.2 (.inl hn))), demL_local cs _ _ _ h2 (fun n hn => hh n (List.mem_append.2 (.inr hn)))]
  ·cases he
theorem demArgs_local : ∀ (as : List Arg) (ds : List DArg) (ks : List Nat) (p : Bool), demArgs h as = some (ds, ks, p) → (∀ n ∈ ks, lk h' n = lk h n) → demArgs h' as = some (ds, ks, p)
 | [], _, _, _, he, _ => he
 | (g, cs) :: as, ds, ks, p, he, hh => by
  simp only [demArgs] at he ⊢
  split at he
  ·rename_i x a p1 xs b p2 h1 h2
   injection he with he; injection he with e1 he; injection he with e2 e3; subst e1; subst e2; subst e3
   rw [demL_local cs _ _ _ h1 (fun n hn => hh n (List.mem_append.2 (.inl hn))), demArgs_local as _ _ _ h2 (fun n hn => hh n (List.mem_append.2 (.inr hn)))]
  ·cases he

theorem rowsB_mono {e : TypeId} {t : ET} : ∀ (ps : List (Nat × Operand)) (l l' : List (Ty t)) (ks ks' : List Nat) (p p' : Bool), rowsB cx e t env h ps l ks p = some (l', ks', p') → ∀ n ∈ ks, n ∈ ks'
 | [], l, l', ks, ks', p, p', he, n, hn => by
  simp only [rowsB] at he
  injection he with he; injection he with _ he; injection he with he _; rw [← he]; exact hn
 | (i, x) :: r, l, l', ks, ks', p, p', he, n, hn => by
  simp only [rowsB] at he
  split at he
  ·split at he
   ·split at he
    ·split at he
     ·exact rowsB_mono r _ _ _ _ _ _ he n (List.mem_append.2 (.inl hn))
     ·cases he
    ·cases he
   ·cases he
  ·cases he
theorem rowsB_local {e : TypeId} {t : ET} : ∀ (ps : List (Nat × Operand)) (l l' : List (Ty t)) (ks ks' : List Nat) (p p' : Bool), rowsB cx e t env h ps l ks p = some (l', ks', p') → (∀ n ∈ ks', lk h' n = lk h n) → rowsB cx e t env h' ps l ks p = some (l', ks', p')
 | [], l, l', ks, ks', p, p', he, _ => he
 | (i, x) :: r, l, l', ks, ks', p, p', he, hh => by
  simp only [rowsB] at he ⊢
  split at he
  ·rename_i g ys hy
   split at he
   ·rename_i ds k q hd
    split at he
    ·rename_i y hdec
     split at he
     ·rename_i hlt
      have hm := rowsB_mono r _ _ _ _ _ _ he
      rw [demL_local ys _ _ _ hd (fun n hn => hh n (hm n (List.mem_append.2 (.inr hn))))]
      simp only [hdec, if_pos hlt]
      exact rowsB_local r _ _ _ _ _ _ he hh
     ·cases he
    ·cases he
   ·cases he
  ·cases he

theorem slOf_local {c : C} {s : Sl} (he : slOf h c = some s) (hh : ∀ n ∈ s.rd, lk h' n = lk h n) : slOf h' c = some s := by
 unfold slOf at he ⊢
 cases c with
 | own n t full off len =>
  simp only at he ⊢
  have hn : n ∈ s.rd := by
   split at he
   ·split at he
    ·injection he with he; rw [← he]; exact List.mem_singleton.2 rfl
    ·cases he
   ·cases he
  rw [hh n hn]; exact he
 | d x => cases x <;> exact he
 | _ => cases he
end
end Go.Eng
/- What an operation reads of the heap, and what it changes there: all operations. -/
set_option linter.unusedVariables false
set_option linter.unusedSimpArgs false
namespace Go.Eng
open Go Go.RowKit

section
variable {cx : Cx} {env : List V} {h h' : Heap}

theorem lkh {n : Nat} {b : Blk} (hk : lk h n = some b) : (lk h n).isSome = true := by rw [hk]; rfl

theorem load_local {nm : Nat} {T : TypeId} {x : Operand} {e : Eff} (he : loadE cx T env h x = some e) : Loc (fun h' => loadE cx T env h' x) nm h e := by
 unfold loadE at he
 split at he
 ·cases he
 ·rename_i i hT
  split at he
  ·rename_i n off hx
   split at he
   ·rename_i B cs hk
    split at he
    ·rename_i hle
     injection he with he; subst he
     refine ⟨[], rfl, fun p hp => by simp at hp, fun h' hh => ?_⟩
     have := hh n (List.mem_singleton.2 rfl)
     simp only [loadE, hT, hx, this, hk, if_pos hle]; rfl
    ·cases he
   ·cases he
  ·rename_i n t k j hx
   split at he
   ·rename_i B t' l hk
    split at he
    ·rename_i ett; subst ett
     split at he
     ·rename_i hle
      injection he with he; subst he
      refine ⟨[], rfl, fun p hp => by simp at hp, fun h' hh => ?_⟩
      have := hh n (List.mem_singleton.2 rfl)
      simp only [loadE, hT, hx, this, hk, if_pos hle, dite_true]; rfl
     ·cases he
    ·cases he
   ·cases he
  ·rename_i cs hx
   split at he
   ·rename_i hle
    simp only [pure1] at he
    injection he with he; subst he
    refine ⟨[], rfl, fun p hp => by simp at hp, fun h' hh => ?_⟩
    simp only [loadE, hT, hx, if_pos hle, pure1]; rfl
   ·cases he
  ·cases he

theorem store_local {nm : Nat} {T : TypeId} {x y : Operand} {e : Eff} (he : storeE cx T env h x y = some e) : Loc (fun h' => storeE cx T env h' x y) nm h e := by
 unfold storeE at he
 split at he
 ·cases he
 ·rename_i i hT
  split at he
  ·rename_i g ys hy
   split at he
   ·rename_i hlen
    split at he
    ·rename_i n off hx
     split at he
     ·rename_i B cs hk
      split at he
      ·rename_i hle
       injection he with he; subst he
       refine ⟨[(n, some (.box B (putL cs off ys)))], rfl, fun p hp => ?_, fun h' hh => ?_⟩
       ·obtain rfl := List.mem_singleton.1 hp
        exact ⟨List.mem_singleton.2 rfl, .inr (.inr (lkh hk))⟩
       ·have := hh n (List.mem_singleton.2 rfl)
        simp only [storeE, hT, hy, if_pos hlen, hx, this, hk, if_pos hle]; rfl
      ·cases he
     ·cases he
    ·rename_i n t k j hx
     split at he
     ·rename_i B t' l ds hk hds
      split at he
      ·rename_i ett; subst ett
       split at he
       ·rename_i hle
        split at he
        ·rename_i z hz
         injection he with he; subst he
         refine ⟨[(n, _)], rfl, fun p hp => ?_, fun h' hh => ?_⟩
         ·obtain rfl := List.mem_singleton.1 hp
          exact ⟨List.mem_singleton.2 rfl, .inr (.inr (lkh hk))⟩
         ·have := hh n (List.mem_singleton.2 rfl)
          simp only [storeE, hT, hy, if_pos hlen, hx, this, hk, hds, if_pos hle, dite_true, hz]; rfl
        ·cases he
       ·cases he
      ·cases he
     ·cases he
    ·cases he
   ·cases he
  ·cases he

theorem append_local {nm : Nat} {T : TypeId} {s x : C} {e : Eff} (he : appendE cx T nm h s x = some e) : Loc (fun h' => appendE cx T nm h' s x) nm h e := by
 unfold appendE at he
 split at he
 ·rename_i E t n1 z1 es1 hT
  split at he
  ·cases he
  ·rename_i t2 l2 f2 r2 p hsl
   split at he
   ·rename_i e2; subst e2
    split at he
    ·injection he with he; subst he
     refine ⟨[(nm, _)], rfl, fun p hp => ?_, fun h' hh => ?_⟩
     ·obtain rfl := List.mem_singleton.1 hp
      exact ⟨List.mem_singleton.2 rfl, .inr (.inl rfl)⟩
     ·have := slOf_local hsl (h' := h') hh
      simp only [appendE, hT, this, dite_true]; rfl
    ·rename_i nl full t' l
     split at he
     ·rename_i e1; subst e1
      injection he with he; subst he
      refine ⟨[(nm, _)], rfl, fun p hp => ?_, fun h' hh => ?_⟩
      ·obtain rfl := List.mem_singleton.1 hp
       exact ⟨List.mem_singleton.2 rfl, .inr (.inl rfl)⟩
      ·have := slOf_local hsl (h' := h') hh
       simp only [appendE, hT, this, dite_true]; rfl
     ·cases he
    ·rename_i n t' full len
     split at he
     ·rename_i e' t'' l hk
      split at he
      ·rename_i e1; subst e1
       split at he
       ·rename_i hc
        injection he with he; subst he
        refine ⟨[(n, none), (nm, _)], rfl, fun p hp => ?_, fun h' hh => ?_⟩
        ·rcases List.mem_cons.1 hp with rfl | hp
         ·exact ⟨List.mem_cons_self, .inl rfl⟩
         ·obtain rfl := List.mem_singleton.1 hp
          exact ⟨List.mem_cons_of_mem _ (List.mem_singleton.2 rfl), .inr (.inl rfl)⟩
        ·have h1 := slOf_local hsl (h' := h') (fun m hm => hh m (List.mem_cons_of_mem _ hm))
         have h2 := hh n List.mem_cons_self
         simp only [appendE, hT, h1, h2, hk, dite_true, if_pos hc]; rfl
       ·cases he
      ·cases he
     ·cases he
    ·cases he
   ·cases he
 ·cases he

theorem copy_local {nm : Nat} {E : TypeId} {t : ET} {s x : C} {e : Eff} (he : copyE E t h s x = some e) : Loc (fun h' => copyE E t h' s x) nm h e := by
 unfold copyE at he
 split at he
 ·rename_i n tn full off len
  split at he
  ·rename_i htn
   split at he
   ·rename_i B t' l t2 l2 f2 r2 p hk hsl
    split at he
    ·rename_i e1; subst e1
     split at he
     ·rename_i e2; subst e2
      split at he
      ·rename_i hc
       injection he with he; subst he
       refine ⟨[(n, _)], rfl, fun p hp => ?_, fun h' hh => ?_⟩
       ·obtain rfl := List.mem_singleton.1 hp
        exact ⟨List.mem_singleton.2 rfl, .inr (.inr (lkh hk))⟩
       ·have h1 := slOf_local hsl (h' := h') (fun m hm => hh m (List.mem_cons_of_mem _ hm))
        have h2 := hh n List.mem_cons_self
        simp only [copyE, htn, h1, h2, hk, dite_true, if_pos hc, if_true]; rfl
      ·cases he
     ·cases he
    ·cases he
   ·cases he
  ·cases he
 ·cases he

theorem clear_local {nm : Nat} {E : TypeId} {t : ET} {s : C} {e : Eff} (he : clearE E t h s = some e) : Loc (fun h' => clearE E t h' s) nm h e := by
 unfold clearE at he
 split at he
 ·rename_i n tn full off len
  split at he
  ·rename_i htn
   split at he
   ·rename_i B t' l hk
    split at he
    ·rename_i e1; subst e1
     injection he with he; subst he
     refine ⟨[(n, _)], rfl, fun p hp => ?_, fun h' hh => ?_⟩
     ·obtain rfl := List.mem_singleton.1 hp
      exact ⟨List.mem_singleton.2 rfl, .inr (.inr (lkh hk))⟩
     ·have h2 := hh n (List.mem_singleton.2 rfl)
      simp only [clearE, htn, h2, hk, dite_true, if_true]; rfl
    ·cases he
   ·cases he
  ·cases he
 ·cases he

theorem callG_local {nm : Nat} {G : List DArg → Option Ret} {as : List Arg} {e : Eff} (he : callG G nm h as = some e) : Loc (fun h' => callG G nm h' as) nm h e := by
 unfold callG at he
 split at he
 ·cases he
 ·rename_i ds ks p hd
  split at he
  ·cases he
  ·rename_i r hr
   injection he with he; subst he
   rcases r with ⟨ro, row, vals⟩
   rcases row with _ | ⟨T, t, l⟩
   ·refine ⟨(lentOf (Ret.lends ⟨ro, none, vals⟩) ks).map fun k => (k, none), kill_patch _ h, fun p hp => ?_, fun h' hh => ?_⟩
    ·obtain ⟨k, hk, rfl⟩ := List.mem_map.1 hp
     exact ⟨List.mem_cons_of_mem _ hk, .inl rfl⟩
    ·simp only [callG, demArgs_local as _ _ _ hd hh, hr, kill_patch]
   ·refine ⟨((lentOf (Ret.lends ⟨ro, some (T, ⟨t, l⟩), vals⟩) ks).map fun k => (k, none)) ++ [(nm, some (.arr T t l))], ?_, fun p hp => ?_, fun h' hh => ?_⟩
    ·rw [patch_append]; simp only [kill_patch]; rfl
    ·rcases List.mem_append.1 hp with hp | hp
     ·obtain ⟨k, hk, rfl⟩ := List.mem_map.1 hp
      exact ⟨List.mem_cons_of_mem _ hk, .inl rfl⟩
     ·obtain rfl := List.mem_singleton.1 hp
      exact ⟨List.mem_cons_self, .inr (.inl rfl)⟩
    ·simp only [callG, demArgs_local as _ _ _ hd hh, hr, kill_patch, patch_append]; rfl

theorem blt_local {b : Builtin} {nm : Nat} {vs : List V} {ts : List TypeId} {e : Eff} (he : bltE cx b nm h vs ts = some e) : Loc (fun h' => bltE cx b nm h' vs ts) nm h e := by
 have quiet : (∀ h1 h2, bltE cx b nm h2 vs ts = (bltE cx b nm h1 vs ts).map fun e => ⟨e.ok, e.val, h2, e.rd, e.wr⟩) → Loc (fun h' => bltE cx b nm h' vs ts) nm h e := fun hq => Loc.quiet he hq
 have he0 := he
 unfold bltE at he
 split at he
 ·refine quiet fun h1 h2 => ?_
  simp only [bltE, pure1]
  split <;> simp_all
 ·rename_i s x T T2
  split at he
  ·rename_i hT2
   obtain ⟨dl, h1, h2, h3⟩ := append_local he
   exact ⟨dl, h1, h2, fun h' hh => by simp only [bltE, hT2]; exact h3 h' hh⟩
  ·cases he
 ·rename_i s x T T2
  split at he
  ·rename_i hT
   obtain ⟨dl, h1, h2, h3⟩ := copy_local (nm := nm) he
   exact ⟨dl, h1, h2, fun h' hh => by simp only [bltE, hT]; exact h3 h' hh⟩
  ·cases he
 ·rename_i s T
  split at he
  ·rename_i hT
   obtain ⟨dl, h1, h2, h3⟩ := clear_local (nm := nm) he
   exact ⟨dl, h1, h2, fun h' hh => by simp only [bltE, hT]; exact h3 h' hh⟩
  ·cases he
 ·refine quiet fun h1 h2 => ?_
  simp only [bltE, pure1]
  split <;> simp_all
 ·refine quiet fun h1 h2 => ?_
  simp only [bltE, pure1]
  split <;> simp_all
 ·cases he

theorem opE_local {nm : Nat} {o : Oper} {e : Eff} (he : opE cx nm env h o = some e) : Loc (fun h' => opE cx nm env h' o) nm h e := by
 cases hop : o.op
 case load T x =>
  simp only [opE, hop] at he ⊢
  exact load_local he
 case store T x y =>
  simp only [opE, hop] at he ⊢
  exact store_local he
 case alloc T =>
  simp only [opE, hop] at he ⊢
  split at he
  ·injection he with he; subst he
   exact ⟨[(nm, _)], rfl, fun p hp => by obtain rfl := List.mem_singleton.1 hp; exact ⟨List.mem_singleton.2 rfl, .inr (.inl rfl)⟩, fun h' _ => rfl⟩
  ·cases he
 case box T x =>
  simp only [opE, hop] at he ⊢
  split at he
  ·rename_i i g cs hT hx
   split at he
   ·rename_i hc
    injection he with he; subst he
    exact ⟨[(nm, _)], rfl, fun p hp => by obtain rfl := List.mem_singleton.1 hp; exact ⟨List.mem_singleton.2 rfl, .inr (.inl rfl)⟩, fun h' _ => by simp only [hT, hx, if_pos hc]; rfl⟩
   ·cases he
  ·cases he
 case makeSlice T x y =>
  simp only [opE, hop] at he ⊢
  split at he
  ·injection he with he; subst he
   exact ⟨[(nm, _)], rfl, fun p hp => by obtain rfl := List.mem_singleton.1 hp; exact ⟨List.mem_singleton.2 rfl, .inr (.inl rfl)⟩, fun h' _ => rfl⟩
  ·cases he
 case buildSlice T n ps =>
  simp only [opE, hop] at he ⊢
  split at he
  ·rename_i E t n1 z1 es1 hT
   split at he
   ·rename_i l ks p hr
    split at he
    ·rename_i hn
     injection he with he; subst he
     refine ⟨(ks.map fun k => (k, none)) ++ [(nm, some (.arr E t l))], ?_, fun p hp => ?_, fun h' hh => ?_⟩
     ·rw [patch_append]; simp only [kill_patch]; rfl
     ·rcases List.mem_append.1 hp with hp | hp
      ·obtain ⟨k, hk, rfl⟩ := List.mem_map.1 hp
       exact ⟨List.mem_cons_of_mem _ hk, .inl rfl⟩
      ·obtain rfl := List.mem_singleton.1 hp
       exact ⟨List.mem_cons_self, .inr (.inl rfl)⟩
     ·simp only [rowsB_local ps.toList _ _ _ _ _ _ hr hh, if_pos hn, kill_patch, patch_append]; rfl
    ·cases he
   ·cases he
  ·cases he
 case call c =>
  simp only [opE, hop] at he ⊢
  split at he
  ·exact blt_local he
  ·split at he
   ·rename_i G as hw
    obtain ⟨dl, h1, h2, h3⟩ := callG_local he
    exact ⟨dl, h1, h2, fun h' hh => by simp only [hw]; exact h3 h' hh⟩
   ·cases he
 case makeFunc fn first caps =>
  refine Loc.quiet he fun h1 h2 => ?_
  simp only [opE, hop, pure1]
  cases fn
  case func f =>
   simp only
   generalize first.toList.map (opv env) = A
   generalize caps.toList.map (opv env) = B
   rcases A with _ | ⟨a, A⟩ <;> rcases B with _ | ⟨b, B⟩ <;> simp only
   ·rfl
   all_goals
    generalize ptrs _ = p1
    generalize ptrs _ = p2
    generalize refs _ = q1
    generalize refs _ = q2
    cases p1 <;> cases p2 <;> cases q1 <;> cases q2 <;> rfl
  all_goals rfl
 case build T ps =>
  refine Loc.quiet he fun h1 h2 => ?_
  simp only [opE, hop, pure1]
  generalize cx.tt T = q
  rcases q with _ | ⟨kd, n, z, e⟩
  ·rfl
  ·cases kd
   case struct fs =>
    simp only
    generalize fillB cx T env ps.toList (z.map .d) = r
    cases r <;> rfl
   case array m F =>
    simp only
    generalize cx.tt F = q2
    rcases q2 with _ | fi
    ·rfl
    ·simp only
     generalize fillA cx F fi env ps.toList (z.map .d) = r
     cases r <;> rfl
   all_goals rfl
 case fieldAddr S x f =>
  refine Loc.quiet he fun h1 h2 => ?_
  simp only [opE, hop, pure1]
  generalize fieldOf cx S f = p
  rcases p with _ | ⟨off, F⟩
  ·rfl
  ·simp only
   split
   ·rfl
   ·split <;> simp_all
 all_goals
  refine Loc.quiet he fun h1 h2 => ?_
  simp only [opE, hop, pure1]
  first
   | rfl
   | (split <;> first | rfl | (simp_all; done) | (split <;> simp_all; done))
   | skip
end
end Go.Eng
/- A region's operations, done one behind the other; two that do not meddle may change places. -/
set_option linter.unusedVariables false
set_option linter.unusedSimpArgs false
namespace Go.Eng
open Go Go.RowKit

abbrev CL := Func → FuncId → List Arg → Heap → List Arg → Heap → Prop

def guardV (ops : Array Oper) (env : List V) (o : Oper) : Option Bool :=
 match o.guard with
 | none => some true
 | some (j, want) => match (ops[j]?).bind (·.dst) with
  | none => none
  | some d => match env.getD d .any with
   | .v false [.d (.sc (.bool b))] => some (b == want)
   | .tup [] => some false
   | _ => none

inductive Done (cx : Cx) (cl : CL) (base i : Nat) (o : Oper) (env : List V) (h : Heap) : V → Heap → Note → Prop where
 | op (e : Eff) (h1 : inlE cx env o = none) (h2 : opE cx (base + i) env h o = some e) (h3 : e.ok = true) : Done cx cl base i o env h e.val e.heap ⟨i, e.rd, e.wr, false⟩
 | inl (fn : Func) (f : FuncId) (as rs : List Arg) (h' : Heap) (h1 : inlE cx env o = some (fn, f, as)) (h2 : cl fn f as h rs h') : Done cx cl base i o env h (valOf rs) h' ⟨i, [], [], true⟩

inductive Step1 (cx : Cx) (cl : CL) (ops : Array Oper) (base i : Nat) (st : St) : St → List Note → Prop where
 | run (o : Oper) (v : V) (h' : Heap) (n : Note) (h1 : ops[i]? = some o) (h2 : guardV ops st.env o = some true) (h3 : Done cx cl base i o st.env st.heap v h' n) : Step1 cx cl ops base i st ⟨putV st.env o.dst v, h', st.fb⟩ [n]
 | skip (o : Oper) (h1 : ops[i]? = some o) (h2 : guardV ops st.env o = some false) : Step1 cx cl ops base i st ⟨putV st.env o.dst (.tup []), st.heap, st.fb⟩ []

inductive Exec (cx : Cx) (cl : CL) (ops : Array Oper) (base : Nat) : List Nat → St → St → List Note → Prop where
 | nil (st : St) : Exec cx cl ops base [] st st []
 | cons {i : Nat} {is : List Nat} {st st1 st2 : St} {n1 n2 : List Note} (h1 : Step1 cx cl ops base i st st1 n1) (h2 : Exec cx cl ops base is st1 st2 n2) : Exec cx cl ops base (i :: is) st st2 (n1 ++ n2)

theorem env_set_self {env : List V} {d : Nat} {v : V} (h : env.getD d .any = v) (hv : v ≠ .any) : env.set d v = env := by
 apply List.ext_getElem?
 intro m
 rw [List.getElem?_set]
 by_cases e : d = m
 ·subst e
  by_cases hl : d < env.length
  ·simp only [if_true, hl]
   rw [← h, List.getD_eq_getElem?_getD, List.getElem?_eq_getElem hl]; rfl
  ·rw [List.getD_eq_getElem?_getD, List.getElem?_eq_none (Nat.le_of_not_lt hl)] at h
   exact absurd h.symm hv
 ·rw [if_neg e]

theorem evOps_adq {X : Type} {cx : Cx} {cl : CL} {hd : Hd (Option X)} (hcl : ∀ fn f as h K (x : X), hd.cl fn f as h K = some x → ∃ rs h', cl fn f as h rs h' ∧ K rs h' = some x) {ops : Array Oper} {base : Nat} :
    ∀ (is : List Nat) (st : St) (lg : List Note) (K : St → List Note → Option X) (x : X), evOps cx hd none ops base is st lg K = some x → ∃ st' ns, Exec cx cl ops base is st st' ns ∧ K st' (ns.reverse ++ lg) = some x
 | [], st, lg, K, x, h => ⟨st, [], .nil st, h⟩
 | i :: rest, st, lg, K, x, h => by
  have ih := evOps_adq (X := X) (cx := cx) hcl (ops := ops) (base := base) rest
  unfold evOps at h
  cases ho : ops[i]? with
  | none => rw [ho] at h; cases h
  | some o =>
   rw [ho] at h
   simp only at h
   have skip : guardV ops st.env o = some false → evOps cx hd none ops base rest ⟨putV st.env o.dst (.tup []), st.heap, st.fb⟩ lg K = some x → ∃ st' ns, Exec cx cl ops base (i :: rest) st st' ns ∧ K st' (ns.reverse ++ lg) = some x := fun hg he => by
    obtain ⟨st', ns, h1, h2⟩ := ih _ _ _ _ he
    exact ⟨st', _, .cons (.skip o ho hg) h1, h2⟩
   have go : guardV ops st.env o = some true → (match inlE cx st.env o with
    | some (fn, f, as) => hd.cl fn f as st.heap fun rs h => evOps cx hd none ops base rest ⟨putV st.env o.dst (valOf rs), h, st.fb⟩ (⟨i, [], [], true⟩ :: lg) K
    | none => match opE cx (base + i) st.env st.heap o with
     | none => none
     | some e => cond e.ok (evOps cx hd none ops base rest ⟨putV st.env o.dst e.val, e.heap, st.fb⟩ (⟨i, e.rd, e.wr, false⟩ :: lg) K) none) = some x → ∃ st' ns, Exec cx cl ops base (i :: rest) st st' ns ∧ K st' (ns.reverse ++ lg) = some x := fun hg he => by
    split at he
    ·rename_i fn f as hin
     obtain ⟨rs, h', h1, h2⟩ := hcl _ _ _ _ _ _ he
     obtain ⟨st', ns, h3, h4⟩ := ih _ _ _ _ h2
     refine ⟨st', _, .cons (.run o _ _ _ ho hg (.inl fn f as rs h' hin h1)) h3, ?_⟩
     simpa using h4
    ·rename_i hin
     split at he
     ·cases he
     ·rename_i e hop
      cases hok : e.ok with
      | false => rw [hok] at he; cases he
      | true =>
       rw [hok] at he
       obtain ⟨st', ns, h3, h4⟩ := ih _ _ _ _ he
       refine ⟨st', _, .cons (.run o _ _ _ ho hg (.op e hin hop hok)) h3, ?_⟩
       simpa using h4
   cases hgd : o.guard with
   | none =>
    rw [hgd] at h
    exact go (by simp [guardV, hgd]) h
   | some gw =>
    obtain ⟨j, want⟩ := gw
    rw [hgd] at h
    simp only at h
    split at h
    ·cases h
    ·rename_i d hd'
     split at h
     ·rename_i b hb
      have hset : ∀ t, b = t → st.env.set d (.b t) = st.env := fun t e => by subst e; exact env_set_self hb (by simp)
      cases b with
      | true =>
       rw [hset true rfl] at h
       cases want with
       | true => exact go (by unfold guardV; rw [hgd]; simp only [hd', hb]; rfl) h
       | false => exact skip (by unfold guardV; rw [hgd]; simp only [hd', hb]; rfl) h
      | false =>
       rw [hset false rfl] at h
       cases want with
       | true => exact skip (by unfold guardV; rw [hgd]; simp only [hd', hb]; rfl) h
       | false => exact go (by unfold guardV; rw [hgd]; simp only [hd', hb]; rfl) h
     ·rename_i hb
      exact skip (by unfold guardV; rw [hgd]; simp only [hd', hb]) h
     ·cases h

section
variable {cx : Cx} {cl : CL} {ops : Array Oper} {base : Nat}

theorem opv_put {env : List V} {dst : Option Tmp} {v : V} {x : Operand} (h : ∀ d, dst = some d → x ≠ .tmp d) : opv (putV env dst v) x = opv env x := by
 cases dst with
 | none => rfl
 | some d =>
  cases x with
  | tmp t =>
   have hne : d ≠ t := fun e => h d rfl (e ▸ rfl)
   simp [opv, putV, List.getD_eq_getElem?_getD, List.getElem?_set, hne]
  | _ => rfl

theorem opv_apart {env : List V} {v : V} {x y : Oper} (h : ∀ d, x.dst = some d → d ∉ y.looksAt ops) : ∀ z ∈ y.op.operands, opv (putV env x.dst v) z = opv env z := fun z hz =>
 opv_put fun d hd hzd => h d hd (by
  subst hzd
  exact List.mem_append_left _ (List.mem_filterMap.2 ⟨.tmp d, by simpa using hz, rfl⟩))

theorem guardV_apart {env : List V} {v : V} {x y : Oper} (h : ∀ d, x.dst = some d → d ∉ y.looksAt ops) : guardV ops (putV env x.dst v) y = guardV ops env y := by
 cases hx : x.dst with
 | none => rfl
 | some d =>
  unfold guardV
  cases hg : y.guard with
  | none => rfl
  | some gw =>
   obtain ⟨g, want⟩ := gw
   simp only
   cases ht : (ops[g]?).bind (·.dst) with
   | none => rfl
   | some t =>
    have hne : d ≠ t := fun e => h d hx (by subst e; simp [Oper.looksAt, hg, ht])
    simp [putV, List.getD_eq_getElem?_getD, List.getElem?_set, hne]

theorem putV_comm {env : List V} {d e : Option Tmp} {v u : V} (h : ∀ t, d = some t → e ≠ some t) : putV (putV env d v) e u = putV (putV env e u) d v := by
 cases d with
 | none => rfl
 | some d =>
  cases e with
  | none => rfl
  | some e =>
   have hne : d ≠ e := fun he => h d rfl (he ▸ rfl)
   exact List.set_comm _ _ hne

theorem patch_set {n : Nat} {b : Option Blk} : ∀ (dl : List (Nat × Option Blk)) (h : Heap), (∀ p ∈ dl, p.1 ≠ n) → patch (h.set n b) dl = (patch h dl).set n b
 | [], _, _ => rfl
 | p :: dl, h, hn => by
  rw [patch, patch, List.set_comm _ _ (fun e => hn p List.mem_cons_self e.symm), patch_set dl _ (fun q hq => hn q (List.mem_cons_of_mem _ hq))]
theorem patch_comm : ∀ (d1 d2 : List (Nat × Option Blk)) (h : Heap), (∀ p ∈ d1, ∀ q ∈ d2, p.1 ≠ q.1) → patch (patch h d1) d2 = patch (patch h d2) d1
 | [], _, _, _ => rfl
 | p :: d1, d2, h, hn => by
  rw [patch, patch_comm d1 d2 _ (fun q hq => hn q (List.mem_cons_of_mem _ hq)), patch_set d2 h (fun q hq e => hn p List.mem_cons_self q hq e.symm), patch]

theorem meddle_wr {x y : Note} (h : meddle x y = false) : (∀ n ∈ x.wr, n ∉ y.rd ∧ n ∉ y.wr) ∧ (∀ n ∈ y.wr, n ∉ x.rd ∧ n ∉ x.wr) := by
 simp only [meddle, Bool.or_eq_false_iff] at h
 obtain ⟨⟨_, h1⟩, h2⟩ := h
 have k1 : ∀ n ∈ x.wr, n ∉ y.rd ∧ n ∉ y.wr := fun n hn => by
  have := List.any_eq_false.1 h1 n hn
  simpa using this
 refine ⟨k1, fun n hn => ⟨?_, fun hx => (k1 n hx).2 hn⟩⟩
 have := List.any_eq_false.1 h2 n hn
 simpa using this
theorem meddle_all {x y : Note} (h : meddle x y = false) (hx : x.all = true) : y.all = false ∧ y.rd = [] ∧ y.wr = [] := by
 simp only [meddle, Bool.or_eq_false_iff, hx, Bool.true_and] at h
 obtain ⟨⟨⟨h0, _⟩, _⟩, _⟩ := h
 simp at h0
 exact ⟨h0.1.1, h0.1.2, h0.2⟩
theorem meddle_comm (x y : Note) : meddle x y = meddle y x := by
 have key : ∀ x y : Note, meddle x y = false → meddle y x = false := fun x y h => by
  have hw := meddle_wr h
  have ha : (y.all && (x.all || !x.rd.isEmpty || !x.wr.isEmpty)) = false ∧ (x.all && (!y.rd.isEmpty || !y.wr.isEmpty)) = false := by
   simp only [meddle, Bool.or_eq_false_iff] at h
   obtain ⟨⟨⟨h0, h3⟩, _⟩, _⟩ := h
   cases hx : x.all <;> cases hy : y.all <;> simp [hx, hy] at h0 h3 ⊢ <;> first | exact h3 | exact h0
  simp only [meddle, Bool.or_eq_false_iff]
  refine ⟨⟨ha, List.any_eq_false.2 fun n hn => ?_⟩, List.any_eq_false.2 fun n hn => ?_⟩
  ·have := hw.2 n hn; simpa using this
  ·have := (hw.1 n hn).1; simpa using this
 cases h : meddle x y with
 | false => exact (key x y h).symm
 | true =>
  cases h2 : meddle y x with
  | true => rfl
  | false => rw [key y x h2] at h; cases h

theorem swap {i j : Nat} {oi oj : Oper} (hi : ops[i]? = some oi) (hj : ops[j]? = some oj) (ha : oi.apart ops oj = true) {st st1 st2 : St} {n1 n2 : List Note} (h1 : Step1 cx cl ops base i st st1 n1) (h2 : Step1 cx cl ops base j st1 st2 n2)
    (hm : ∀ x ∈ n1, ∀ y ∈ n2, meddle x y = false) : ∃ st1', Step1 cx cl ops base j st st1' n2 ∧ Step1 cx cl ops base i st1' st2 n1 := by
 obtain ⟨a1, a2, a3⟩ := Oper.apart_spec ha
 cases h1 with
 | skip o g1 g2 =>
  rw [hi] at g1; injection g1 with g1; subst g1
  cases h2 with
  | skip o k1 k2 =>
   rw [hj] at k1; injection k1 with k1; subst k1
   refine ⟨_, .skip oj hj ((guardV_apart a1).symm.trans k2), ?_⟩
   have := Step1.skip (cx := cx) (cl := cl) (base := base) (st := ⟨putV st.env oj.dst (.tup []), st.heap, st.fb⟩) oi hi ((guardV_apart a3).trans g2)
   rw [show putV (putV st.env oi.dst (.tup [])) oj.dst (.tup []) = putV (putV st.env oj.dst (.tup [])) oi.dst (.tup []) from putV_comm a2]
   exact this
  | run o v h' n k1 k2 k3 =>
   rw [hj] at k1; injection k1 with k1; subst k1
   have k3' : Done cx cl base j oj st.env st.heap v h' n := by
    cases k3 with
    | op e q1 q2 q3 => exact .op e ((inlE_env (opv_apart a1)).symm.trans q1) ((opE_env (opv_apart a1)).symm.trans q2) q3
    | inl fn f as rs h' q1 q2 => exact .inl fn f as rs h' ((inlE_env (opv_apart a1)).symm.trans q1) q2
   refine ⟨_, .run oj v h' n hj ((guardV_apart a1).symm.trans k2) k3', ?_⟩
   have := Step1.skip (cx := cx) (cl := cl) (base := base) (st := ⟨putV st.env oj.dst v, h', st.fb⟩) oi hi ((guardV_apart a3).trans g2)
   rw [show putV (putV st.env oi.dst (.tup [])) oj.dst v = putV (putV st.env oj.dst v) oi.dst (.tup []) from putV_comm a2]
   exact this
 | run o v h' n g1 g2 g3 =>
  rw [hi] at g1; injection g1 with g1; subst g1
  cases h2 with
  | skip o k1 k2 =>
   rw [hj] at k1; injection k1 with k1; subst k1
   refine ⟨_, .skip oj hj ((guardV_apart a1).symm.trans k2), ?_⟩
   have g3' : Done cx cl base i oi (putV st.env oj.dst (.tup [])) st.heap v h' n := by
    cases g3 with
    | op e q1 q2 q3 => exact .op e ((inlE_env (opv_apart a3)).trans q1) ((opE_env (opv_apart a3)).trans q2) q3
    | inl fn f as rs h' q1 q2 => exact .inl fn f as rs h' ((inlE_env (opv_apart a3)).trans q1) q2
   have := Step1.run (st := ⟨putV st.env oj.dst (.tup []), st.heap, st.fb⟩) oi v h' n hi ((guardV_apart a3).trans g2) g3'
   rw [show putV (putV st.env oi.dst v) oj.dst (.tup []) = putV (putV st.env oj.dst (.tup [])) oi.dst v from putV_comm a2]
   exact this
  | run o u h'' m k1 k2 k3 =>
   rw [hj] at k1; injection k1 with k1; subst k1
   have hnm := hm n (List.mem_singleton.2 rfl) m (List.mem_singleton.2 rfl)
   have hmn : meddle m n = false := by rw [meddle_comm]; exact hnm
   have fin : ∀ hx, Done cx cl base j oj st.env st.heap u hx m → Done cx cl base i oi (putV st.env oj.dst u) hx v h'' n → ∃ st1', Step1 cx cl ops base j st st1' [m] ∧ Step1 cx cl ops base i st1' ⟨putV (putV st.env oi.dst v) oj.dst u, h'', st.fb⟩ [n] := fun hx d1 d2 => by
    refine ⟨_, .run oj u hx m hj ((guardV_apart a1).symm.trans k2) d1, ?_⟩
    have := Step1.run (st := ⟨putV st.env oj.dst u, hx, st.fb⟩) oi v h'' n hi ((guardV_apart a3).trans g2) d2
    rw [show putV (putV st.env oi.dst v) oj.dst u = putV (putV st.env oj.dst u) oi.dst v from putV_comm a2]
    exact this
   cases g3 with
   | op e q1 q2 q3 =>
    obtain ⟨dl, l1, l2, l3⟩ := opE_local q2
    have d2 : ∀ hx, (∀ n ∈ e.rd, lk hx n = lk st.heap n) → Done cx cl base i oi (putV st.env oj.dst u) hx e.val (patch hx dl) ⟨i, e.rd, e.wr, false⟩ := fun hx hh =>
     Done.op (cx := cx) (cl := cl) (base := base) (i := i) (o := oi) (env := putV st.env oj.dst u) (h := hx) ⟨e.ok, e.val, patch hx dl, e.rd, e.wr⟩ ((inlE_env (opv_apart a3)).trans q1) ((opE_env (opv_apart a3)).trans (l3 hx hh)) q3
    cases k3 with
    | op e2 r1 r2 r3 =>
     have r2' := (opE_env (opv_apart a1)).symm.trans r2
     obtain ⟨dl2, m1, m2, m3⟩ := opE_local r2'
     have hw := meddle_wr hnm
     have e1 := m3 st.heap (fun n hn => by
      simp only [l1]
      exact (lk_patch dl st.heap n (fun p hp e => (hw.1 p.1 (l2 p hp).1).1 (e ▸ hn))).symm)
     refine fin (patch st.heap dl2) ?_ ?_
     ·exact Done.op (cx := cx) (cl := cl) (base := base) (i := j) (o := oj) (env := st.env) (h := st.heap) ⟨e2.ok, e2.val, patch st.heap dl2, e2.rd, e2.wr⟩ ((inlE_env (opv_apart a1)).symm.trans r1) e1 r3
     ·have := d2 (patch st.heap dl2) (fun n hn => lk_patch dl2 st.heap n (fun p hp e => (hw.2 p.1 (m2 p hp).1).1 (e ▸ hn)))
      rw [show e2.heap = patch (patch st.heap dl2) dl from by
       rw [m1]
       simp only [l1]
       exact patch_comm dl dl2 st.heap (fun p hp q hq e => (hw.1 p.1 (l2 p hp).1).2 (e ▸ (m2 q hq).1))]
      exact this
    | inl fn f as rs h' r1 r2 =>
     obtain ⟨_, hr, hwr⟩ := meddle_all hmn rfl
     simp only at hr hwr
     have hdl : dl = [] := by
      cases dl with
      | nil => rfl
      | cons p dl => have := (l2 p List.mem_cons_self).1; rw [hwr] at this; cases this
     subst hdl
     have hh : e.heap = st.heap := l1
     simp only [hh] at r2
     have := d2 h'' (fun n hn => by rw [hr] at hn; cases hn)
     exact fin h'' (.inl fn f as rs h'' ((inlE_env (opv_apart a1)).symm.trans r1) r2) this
   | inl fn f as rs h0 q1 q2 =>
    obtain ⟨hall, hr, hwr⟩ := meddle_all hnm rfl
    cases k3 with
    | inl fn2 f2 as2 rs2 h2 r1 r2 => cases hall
    | op e2 r1 r2 r3 =>
     have r2' := (opE_env (opv_apart a1)).symm.trans r2
     obtain ⟨dl2, m1, m2, m3⟩ := opE_local r2'
     simp only at hr hwr
     have hdl : dl2 = [] := by
      cases dl2 with
      | nil => rfl
      | cons p dl => have := (m2 p List.mem_cons_self).1; rw [hwr] at this; cases this
     subst hdl
     have e1 := m3 st.heap (fun n hn => by rw [hr] at hn; cases hn)
     have hh : e2.heap = h' := m1
     refine fin st.heap ?_ ?_
     ·exact Done.op (cx := cx) (cl := cl) (base := base) (i := j) (o := oj) (env := st.env) (h := st.heap) ⟨e2.ok, e2.val, st.heap, e2.rd, e2.wr⟩ ((inlE_env (opv_apart a1)).symm.trans r1) e1 r3
     ·rw [hh]
      exact .inl fn f as rs h' ((inlE_env (opv_apart a3)).trans q1) q2
end
end Go.Eng
/- A region's operations in any order that its edges leave free. -/
set_option linter.unusedVariables false
set_option linter.unusedSimpArgs false
namespace Go.Eng
open Go Go.RowKit

def bit (bs : Array Nat) (a b : Nat) : Bool := (bs.getD a 0).testBit b

def Topo (bs : Array Nat) (l : List Nat) : Prop := l.Pairwise fun a b => ¬ (b < a ∧ bit bs a b = true)

def Free (bs : Array Nat) (i j : Nat) : Prop := bit bs (max i j) (min i j) = false

structure Sound (bs : Array Nat) (ops : Array Oper) (ns : List Note) : Prop where
 notes : ∀ x ∈ ns, ∀ y ∈ ns, x.i ≠ y.i → Free bs x.i y.i → meddle x y = false
 apart : ∀ i j oi oj, ops[i]? = some oi → ops[j]? = some oj → i ≠ j → Free bs i j → oi.apart ops oj = true

section
variable {cx : Cx} {cl : CL} {ops : Array Oper} {base : Nat} {bs : Array Nat}

theorem Step1.notes {i : Nat} {st st' : St} {ns : List Note} (h : Step1 cx cl ops base i st st' ns) : ∀ x ∈ ns, x.i = i := by
 cases h with
 | skip => intro x hx; cases hx
 | run o v h' n h1 h2 h3 =>
  intro x hx
  obtain rfl := List.mem_singleton.1 hx
  cases h3 <;> rfl
theorem Step1.at_ {i : Nat} {st st' : St} {ns : List Note} (h : Step1 cx cl ops base i st st' ns) : ∃ o, ops[i]? = some o := by
 cases h with
 | skip o h1 => exact ⟨o, h1⟩
 | run o v h' n h1 => exact ⟨o, h1⟩

theorem Free.symm {i j : Nat} (h : Free bs i j) : Free bs j i := by unfold Free at *; rwa [Nat.max_comm, Nat.min_comm]

theorem front {j : Nat} {l2 : List Nat} : ∀ (l1 : List Nat) (st st' : St) (ns : List Note), Exec cx cl ops base (l1 ++ j :: l2) st st' ns → Sound bs ops ns → (∀ i ∈ l1, i ≠ j ∧ Free bs i j) →
    ∃ st1 n1 n2, Step1 cx cl ops base j st st1 n1 ∧ Exec cx cl ops base (l1 ++ l2) st1 st' n2 ∧ ∀ x, x ∈ n1 ++ n2 ↔ x ∈ ns
 | [], st, st', ns, h, _, _ => by
  cases h with
  | cons h1 h2 => exact ⟨_, _, _, h1, h2, fun x => Iff.rfl⟩
 | i :: l1, st, st', ns, h, hs, hf => by
  cases h with
  | cons h1 h2 =>
   rename_i stm n1 n2
   obtain ⟨st1, m1, m2, k1, k2, k3⟩ := front l1 _ _ _ h2 ⟨fun x hx y hy => hs.notes x (List.mem_append.2 (.inr hx)) y (List.mem_append.2 (.inr hy)), hs.apart⟩ (fun q hq => hf q (List.mem_cons_of_mem _ hq))
   obtain ⟨hne, hfr⟩ := hf i List.mem_cons_self
   obtain ⟨oi, hoi⟩ := h1.at_
   obtain ⟨oj, hoj⟩ := k1.at_
   obtain ⟨sw, s1, s2⟩ := swap hoi hoj (hs.apart i j oi oj hoi hoj hne hfr) h1 k1 (fun x hx y hy => by
    have ex := h1.notes x hx
    have ey := k1.notes y hy
    exact hs.notes x (List.mem_append.2 (.inl hx)) y (List.mem_append.2 (.inr ((k3 y).1 (List.mem_append.2 (.inl hy))))) (by rw [ex, ey]; exact hne) (by rw [ex, ey]; exact hfr))
   refine ⟨sw, m1, n1 ++ m2, s1, .cons s2 k2, fun x => ?_⟩
   have := k3 x
   simp only [List.mem_append] at this ⊢
   constructor
   ·rintro (h | h | h)
    ·exact .inr (this.1 (.inl h))
    ·exact .inl h
    ·exact .inr (this.1 (.inr h))
   ·rintro (h | h)
    ·exact .inr (.inl h)
    ·rcases this.2 h with h | h
     ·exact .inl h
     ·exact .inr (.inr h)

theorem reorder : ∀ (σ l : List Nat) (st st' : St) (ns : List Note), Exec cx cl ops base l st st' ns → Sound bs ops ns → l.Nodup → σ.Nodup → (∀ x, x ∈ σ ↔ x ∈ l) → Topo bs l → Topo bs σ →
    ∃ ns', Exec cx cl ops base σ st st' ns' ∧ ∀ x, x ∈ ns' ↔ x ∈ ns
 | [], l, st, st', ns, h, _, _, _, hm, _, _ => by
  have : l = [] := by
   cases l with
   | nil => rfl
   | cons x l => have := (hm x).2 List.mem_cons_self; cases this
  subst this
  exact ⟨ns, h, fun _ => Iff.rfl⟩
 | j :: σ, l, st, st', ns, h, hs, hl, hσ, hm, tl, tσ => by
  obtain ⟨l1, l2, rfl⟩ := List.append_of_mem ((hm j).1 List.mem_cons_self)
  have hnd := List.nodup_append.1 hl
  have hj1 : ∀ i ∈ l1, i ≠ j := fun i hi => hnd.2.2 i hi j List.mem_cons_self
  have hj2 : ∀ i ∈ l2, i ≠ j := fun i hi e => (List.nodup_cons.1 hnd.2.1).1 (e ▸ hi)
  have hjσ := List.nodup_cons.1 hσ
  have hpl := List.pairwise_append.1 tl
  have hpσ := List.pairwise_cons.1 tσ
  have hmem : ∀ x, x ∈ σ ↔ x ∈ l1 ++ l2 := fun x => by
   have := hm x
   simp only [List.mem_cons, List.mem_append] at this ⊢
   constructor
   ·intro hx
    have hne : x ≠ j := fun e => hjσ.1 (e ▸ hx)
    rcases this.1 (.inr hx) with h | h | h
    ·exact .inl h
    ·exact absurd h hne
    ·exact .inr h
   ·intro hx
    have hne : x ≠ j := by rcases hx with h | h
                           ·exact hj1 x h
                           ·exact hj2 x h
    rcases this.2 (by rcases hx with h | h
                      ·exact .inl h
                      ·exact .inr (.inr h)) with h | h
    ·exact absurd h hne
    ·exact h
  obtain ⟨st1, n1, n2, k1, k2, k3⟩ := front l1 _ _ _ h hs (fun i hi => by
   refine ⟨hj1 i hi, ?_⟩
   have h1 := hpl.2.2 i hi j List.mem_cons_self
   have h2 := hpσ.1 i ((hmem i).2 (List.mem_append.2 (.inl hi)))
   unfold Free
   rcases Nat.lt_or_ge i j with h | h
   ·rw [Nat.max_eq_right (Nat.le_of_lt h), Nat.min_eq_left (Nat.le_of_lt h)]
    cases hb : bit bs j i with
    | false => rfl
    | true => exact absurd ⟨h, hb⟩ h2
   ·have h' : j < i := Nat.lt_of_le_of_ne h (Ne.symm (hj1 i hi))
    rw [Nat.max_eq_left h, Nat.min_eq_right h]
    cases hb : bit bs i j with
    | false => rfl
    | true => exact absurd ⟨h', hb⟩ h1)
  have hsub : (l1 ++ l2).Sublist (l1 ++ j :: l2) := List.Sublist.append (List.Sublist.refl _) (List.sublist_cons_self _ _)
  obtain ⟨ns', q1, q2⟩ := reorder σ (l1 ++ l2) st1 st' n2 k2 ⟨fun x hx y hy => hs.notes x ((k3 x).1 (List.mem_append.2 (.inr hx))) y ((k3 y).1 (List.mem_append.2 (.inr hy))), hs.apart⟩ (hl.sublist hsub) hjσ.2 hmem (tl.sublist hsub) hpσ.2
  refine ⟨n1 ++ ns', .cons k1 q1, fun x => ?_⟩
  rw [← k3 x]
  simp only [List.mem_append, q2 x]
end

theorem notes_sound {bs : Array Nat} : ∀ (ns : List Note), notesOk bs ns = true → ∀ x ∈ ns, ∀ y ∈ ns, x.i ≠ y.i → Free bs x.i y.i → meddle x y = false
 | [], _, x, hx, _, _, _, _ => by cases hx
 | z :: r, h, x, hx, y, hy, hne, hf => by
  simp only [notesOk, Bool.and_eq_true, List.all_eq_true, Bool.or_eq_true, Bool.not_eq_true'] at h
  have one : ∀ y ∈ r, Free bs z.i y.i → meddle z y = false := fun y hy hf => by
   rcases h.1 y hy with h1 | h1
   ·unfold Free bit at hf; rw [hf] at h1; cases h1
   ·exact h1
  rcases List.mem_cons.1 hx with e1 | hx' <;> rcases List.mem_cons.1 hy with e2 | hy'
  ·exact absurd (by rw [e1, e2]) hne
  ·rw [e1] at hf ⊢; exact one y hy' hf
  ·rw [e2] at hf ⊢; rw [meddle_comm]; exact one x hx' hf.symm
  ·exact notes_sound r h.2 x hx' y hy' hne hf
end Go.Eng
/- The orders in which a drawn region's operations may go. -/
set_option linter.unusedVariables false
set_option linter.unusedSimpArgs false
namespace Go.Eng
open Go Go.RowKit

theorem pushes (f : Array Nat → Oper → Nat) : ∀ (l : List Oper) (acc : Array Nat),
    (∀ k, k < acc.size → (l.foldl (fun a o => a.push (f a o)) acc).getD k 0 = acc.getD k 0) ∧ (l.foldl (fun a o => a.push (f a o)) acc).size = acc.size + l.length ∧
     ∀ k o, l[k]? = some o → ∃ a : Array Nat, a.size = acc.size + k ∧ (∀ m, m < a.size → a.getD m 0 = (l.foldl (fun a o => a.push (f a o)) acc).getD m 0) ∧ (l.foldl (fun a o => a.push (f a o)) acc).getD (acc.size + k) 0 = f a o
 | [], acc => ⟨fun _ _ => rfl, rfl, fun k o h => by cases h⟩
 | x :: l, acc => by
  obtain ⟨h1, h2, h3⟩ := pushes f l (acc.push (f acc x))
  simp only [List.foldl_cons]
  have h0 : ∀ k, k < acc.size → (acc.push (f acc x)).getD k 0 = acc.getD k 0 := fun k hk => by
   simp [hk, Nat.lt_succ_of_lt hk, Array.getElem_push]
  refine ⟨fun k hk => (h1 k (by simp; omega)).trans (h0 k hk), by rw [h2]; simp; omega, fun k o hk => ?_⟩
  cases k with
  | zero =>
   simp only [List.getElem?_cons_zero, Option.some.injEq] at hk
   subst hk
   refine ⟨acc, rfl, fun m hm => ((h1 m (by simp; omega)).trans (h0 m hm)).symm, ?_⟩
   rw [Nat.add_zero, h1 acc.size (by simp)]
   simp
  | succ k =>
   obtain ⟨a, g1, g2, g3⟩ := h3 k o (by simpa using hk)
   refine ⟨a, by rw [g1]; simp; omega, g2, ?_⟩
   rw [← g3]; congr 1; simp; omega

theorem bits_fold (acc : Array Nat) : ∀ (es : List Edge) (s b : Nat), (es.foldl (fun s e => if Region.binds .any e then s ||| 2 ^ e.on ||| acc.getD e.on 0 else s) s).testBit b = true →
    s.testBit b = true ∨ ∃ e ∈ es, Region.binds .any e = true ∧ (b = e.on ∨ (acc.getD e.on 0).testBit b = true)
 | [], s, b, h => .inl h
 | e :: es, s, b, h => by
  simp only [List.foldl_cons] at h
  rcases bits_fold acc es _ b h with h1 | ⟨e', h2, h3⟩
  ·by_cases hb : Region.binds .any e = true
   ·rw [if_pos hb, Nat.testBit_or, Nat.testBit_or, Nat.testBit_two_pow] at h1
    simp only [Bool.or_eq_true, decide_eq_true_eq] at h1
    rcases h1 with (h1 | h1) | h1
    ·exact .inl h1
    ·exact .inr ⟨e, List.mem_cons_self, hb, .inl h1.symm⟩
    ·exact .inr ⟨e, List.mem_cons_self, hb, .inr h1⟩
   ·rw [if_neg hb] at h1; exact .inl h1
  ·exact .inr ⟨e', List.mem_cons_of_mem _ h2, h3⟩

theorem before_bits {ops : Array Oper} {i b : Nat} {o : Oper} (ho : ops[i]? = some o) (hb : bit (Region.before ops) i b = true) :
    ∃ e ∈ o.after, Region.binds .any e = true ∧ (b = e.on ∨ (e.on < i ∧ bit (Region.before ops) e.on b = true)) := by
 unfold bit at hb
 unfold Region.before at hb ⊢
 rw [← Array.foldl_toList] at hb ⊢
 obtain ⟨_, _, h3⟩ := pushes (fun acc o => o.after.foldl (fun s e => if Region.binds .any e then s ||| 2 ^ e.on ||| acc.getD e.on 0 else s) 0) ops.toList #[]
 obtain ⟨a, g1, g2, g3⟩ := h3 i o (by simpa using ho)
 simp only [List.size_toArray, List.length_nil, Nat.zero_add] at g1 g3
 rw [g3, ← Array.foldl_toList] at hb
 rcases bits_fold a o.after.toList 0 b hb with h | ⟨e, he, hbe, h⟩
 ·simp at h
 ·refine ⟨e, Array.mem_toList_iff.1 he, hbe, ?_⟩
  rcases h with h | h
  ·exact .inl h
  ·right
   have hlt : e.on < i := by
    rcases Nat.lt_or_ge e.on i with h1 | h1
    ·exact h1
    ·have : a.getD e.on 0 = 0 := by simp [show ¬ e.on < a.size by omega]
     rw [this] at h; simp at h
   refine ⟨hlt, ?_⟩
   unfold bit
   rw [← g2 e.on (by omega)]
   exact h

section
variable {ops : Array Oper}

def Edges (ops : Array Oper) : Prop := ∀ i o, ops[i]? = some o → ∀ e ∈ o.after, Region.binds .any e = true → e.on < i

def Closed (ops : Array Oper) (listed : Array Bool) : Prop := ∀ a b, listed.getD a false = true → bit (Region.before ops) a b = true → listed.getD b false = true

theorem linearised (hE : Edges ops) : ∀ (fuel t : Nat) (listed : Array Bool), listed.size = ops.size → Closed ops listed → (List.range ops.size).countP (fun x => !listed.getD x true) ≤ fuel →
    (Region.linearise.go .any ops fuel t listed []).Nodup ∧ (∀ x, x ∈ Region.linearise.go .any ops fuel t listed [] ↔ x < ops.size ∧ listed.getD x true = false) ∧ Topo (Region.before ops) (Region.linearise.go .any ops fuel t listed [])
 | 0, t, listed, hn, hc, hf => by
  simp only [Region.linearise.go, List.reverse_nil]
  refine ⟨List.nodup_nil, fun x => ⟨(by intro h; cases h), fun ⟨h1, h2⟩ => ?_⟩, List.Pairwise.nil⟩
  have := List.countP_eq_zero.1 (Nat.le_zero.1 hf) x (List.mem_range.2 h1)
  rw [h2] at this; simp at this
 | fuel + 1, t, listed, hn, hc, hf => by
  simp only [Region.linearise.go]
  change (match (Region.ready .any ops listed)[t % (Region.ready .any ops listed).length]? with
   | some i => Region.linearise.go .any ops fuel (t / (Region.ready .any ops listed).length) (listed.setIfInBounds i true) [i]
   | none => [].reverse).Nodup ∧ _ ∧ _
  change _ ∧ (∀ x, x ∈ (match (Region.ready .any ops listed)[t % (Region.ready .any ops listed).length]? with
   | some i => Region.linearise.go .any ops fuel (t / (Region.ready .any ops listed).length) (listed.setIfInBounds i true) [i]
   | none => [].reverse) ↔ _) ∧ Topo _ (match (Region.ready .any ops listed)[t % (Region.ready .any ops listed).length]? with
   | some i => Region.linearise.go .any ops fuel (t / (Region.ready .any ops listed).length) (listed.setIfInBounds i true) [i]
   | none => [].reverse)
  cases hi : (Region.ready .any ops listed)[t % (Region.ready .any ops listed).length]? with
  | none =>
   have hnil : Region.ready .any ops listed = [] := by
    cases hr : Region.ready .any ops listed with
    | nil => rfl
    | cons x xs =>
     rw [hr] at hi
     have hlt : t % (x :: xs).length < (x :: xs).length := Nat.mod_lt _ (by simp)
     rw [List.getElem?_eq_getElem hlt] at hi
     cases hi
   have all : ∀ x, x < ops.size → listed.getD x true = true := by
    intro x
    induction x using Nat.strongRecOn with
    | _ x ih =>
     intro hx
     cases hl : listed.getD x true with
     | true => rfl
     | false =>
      have hrd : x ∈ Region.ready .any ops listed := mem_ready.2 ⟨hl, ops[x], Array.getElem?_eq_getElem hx, fun e he hb => by
       have hlt := hE x _ (Array.getElem?_eq_getElem hx) e he hb
       have := ih e.on hlt (by omega)
       have hlt2 : e.on < listed.size := by omega
       simpa [hlt2] using this⟩
      rw [hnil] at hrd; cases hrd
   refine ⟨List.nodup_nil, fun x => ⟨(by intro h; simp at h), fun ⟨h1, h2⟩ => ?_⟩, List.Pairwise.nil⟩
   rw [all x h1] at h2; cases h2
  | some i =>
   simp only []
   rw [linearise_go_acc, List.reverse_singleton, List.singleton_append]
   have hrd : i ∈ Region.ready .any ops listed := List.mem_of_getElem? hi
   obtain ⟨hun, o, ho, hall⟩ := mem_ready.1 hrd
   have hlt : i < ops.size := (Array.getElem?_eq_some_iff.1 ho).1
   have anc : ∀ b, bit (Region.before ops) i b = true → listed.getD b false = true := fun b hb => by
    obtain ⟨e, he, hbe, h | ⟨_, h⟩⟩ := before_bits ho hb
    ·rw [h]; exact hall e he hbe
    ·exact hc _ _ (hall e he hbe) h
   have hc' : Closed ops (listed.setIfInBounds i true) := fun a b ha hb => by
    by_cases h : a = i
    ·subst h; exact getD_set_true (anc b hb)
    ·rw [getD_set_ne false (Ne.symm h)] at ha
     exact getD_set_true (hc a b ha hb)
   have hcnt : (List.range ops.size).countP (fun x => !(listed.setIfInBounds i true).getD x true) ≤ fuel := by
    have hsplit : (List.range ops.size).countP (fun x => !(listed.setIfInBounds i true).getD x true) < (List.range ops.size).countP (fun x => !listed.getD x true) := by
     have key : ∀ l : List Nat, l.Nodup → i ∈ l → l.countP (fun x => !(listed.setIfInBounds i true).getD x true) < l.countP (fun x => !listed.getD x true) := by
      intro l
      induction l with
      | nil => intro _ h; cases h
      | cons x l ih =>
       intro hnd hmem
       have hnd' := List.nodup_cons.1 hnd
       have le : ∀ l : List Nat, l.countP (fun x => !(listed.setIfInBounds i true).getD x true) ≤ l.countP (fun x => !listed.getD x true) := fun l => by
        refine List.countP_mono_left (fun x _ hx => ?_)
        by_cases h : x = i
        ·subst h; rw [hun]; rfl
        ·rw [getD_set_ne true (Ne.symm h)] at hx; exact hx
       by_cases h : x = i
       ·subst h
        rw [List.countP_cons_of_neg, List.countP_cons_of_pos]
        ·exact Nat.lt_succ_of_le (le l)
        ·rw [hun]; rfl
        ·simp [show x < listed.size by omega]
       ·have hm : i ∈ l := by
          rcases List.mem_cons.1 hmem with h' | h'
          ·exact absurd h'.symm h
          ·exact h'
        have := ih hnd'.2 hm
        simp only [List.countP_cons, getD_set_ne true (Ne.symm h)]
        omega
     exact key _ List.nodup_range (List.mem_range.2 hlt)
    omega
   obtain ⟨k1, k2, k3⟩ := linearised hE fuel (t / (Region.ready .any ops listed).length) (listed.setIfInBounds i true) (by simpa using hn) hc' hcnt
   refine ⟨List.nodup_cons.2 ⟨fun h => ?_, k1⟩, fun x => ?_, List.pairwise_cons.2 ⟨fun x hx h => ?_, k3⟩⟩
   ·have := ((k2 i).1 h).2
    simp [show i < listed.size by omega] at this
   ·rw [List.mem_cons, k2 x]
    by_cases h : x = i
    ·subst h; simp [hlt, hun]
    ·rw [getD_set_ne true (Ne.symm h)]; simp [h]
   ·have h1 := ((k2 x).1 hx).2
    have h2 := getD_set_true (i := i) (anc x h.2)
    have hlt2 : x < listed.size := by have := ((k2 x).1 hx).1; omega
    have : (listed.setIfInBounds i true).getD x true = (listed.setIfInBounds i true).getD x false := by simp [hlt2]
    rw [this, h2] at h1; cases h1

theorem orderOk_spec {bs : Array Nat} (h : orderOk ops bs = true) : Edges ops ∧ ∀ i j oi oj, ops[i]? = some oi → ops[j]? = some oj → i ≠ j → Free bs i j → oi.apart ops oj = true := by
 have one : ∀ j oj, ops[j]? = some oj → (∀ e ∈ oj.after, Region.binds .any e = true → e.on < j) ∧ ∀ i oi, ops[i]? = some oi → i < j → bit bs j i = false → oi.apart ops oj = true := fun j oj hj => by
  have hlt := (Array.getElem?_eq_some_iff.1 hj).1
  have h1 := List.all_eq_true.1 h j (List.mem_range.2 hlt)
  simp only [hj, Bool.and_eq_true, List.all_eq_true, Bool.or_eq_true, Bool.not_eq_true', decide_eq_true_eq] at h1
  refine ⟨fun e he hb => ?_, fun i oi hi hij hb => ?_⟩
  ·rcases h1.1 e (Array.mem_toList_iff.2 he) with h2 | h2
   ·rw [h2] at hb; cases hb
   ·exact h2
  ·rcases h1.2 i (List.mem_range.2 hij) with h2 | h2
   ·unfold bit at hb; rw [h2] at hb; cases hb
   ·rw [hi] at h2; exact h2
 refine ⟨fun i o ho => (one i o ho).1, fun i j oi oj hi hj hne hf => ?_⟩
 rcases Nat.lt_or_ge i j with h1 | h1
 ·unfold Free at hf
  rw [Nat.max_eq_right (Nat.le_of_lt h1), Nat.min_eq_left (Nat.le_of_lt h1)] at hf
  exact (one j oj hj).2 i oi hi h1 hf
 ·have h' : j < i := Nat.lt_of_le_of_ne h1 (Ne.symm hne)
  unfold Free at hf
  rw [Nat.max_eq_left h1, Nat.min_eq_right h1] at hf
  have := (one i oi hi).2 j oj hj h' hf
  unfold Oper.apart at this ⊢
  obtain ⟨a1, a2, a3⟩ := Oper.apart_spec (x := oj) (y := oi) (ops := ops) (by unfold Oper.apart; exact this)
  cases hdi : oi.dst <;> cases hdj : oj.dst <;> simp
  ·exact a1 _ hdj
  ·exact a3 _ hdi
  ·rename_i d e
   exact ⟨⟨a3 _ hdi, fun he => a2 e hdj (by rw [hdi, he])⟩, a1 _ hdj⟩

theorem range_topo {bs : Array Nat} (hE : Edges ops) (hbs : bs = Region.before ops) : Topo bs (List.range ops.size) := by
 subst hbs
 refine List.Pairwise.imp (fun {a b} hab h => ?_) (List.pairwise_lt_range (n := ops.size))
 omega

theorem drawn {cx : Cx} {cl : CL} {base : Nat} {st st' : St} {ns : List Note} (h : Exec cx cl ops base (List.range ops.size) st st' ns) (hn : notesOk (Region.before ops) ns = true) (ho : orderOk ops (Region.before ops) = true) (t : Nat) :
    ∃ ns', Exec cx cl ops base (Region.schedule true ops t) st st' ns' ∧ (∀ x, x ∈ Region.schedule true ops t ↔ x < ops.size) ∧ (Region.schedule true ops t).Nodup := by
 obtain ⟨hE, hA⟩ := orderOk_spec ho
 obtain ⟨k1, k2, k3⟩ := linearised hE ops.size t (Array.replicate ops.size false) (by simp) (fun a b ha _ => by
  by_cases h : a < ops.size <;> simp [h] at ha) (by refine Nat.le_trans List.countP_le_length ?_; simp)
 have hs : Region.schedule true ops t = Region.linearise.go .any ops ops.size t (Array.replicate ops.size false) [] := by simp [Region.schedule, Region.linearise]
 have hm : ∀ x, x ∈ Region.schedule true ops t ↔ x < ops.size := fun x => by
  rw [hs, k2 x]
  constructor
  ·exact fun h => h.1
  ·exact fun h => ⟨h, by simp [h]⟩
 obtain ⟨ns', q1, _⟩ := reorder (Region.schedule true ops t) (List.range ops.size) st st' ns h ⟨notes_sound ns hn, hA⟩ List.nodup_range (by rw [hs]; exact k1) (fun x => by rw [hm x, List.mem_range]) (range_topo hE rfl) (by rw [hs]; exact k3)
 exact ⟨ns', q1, hm, by rw [hs]; exact k1⟩
end
end Go.Eng
/- A region as a whole. -/
set_option linter.unusedVariables false
set_option linter.unusedSimpArgs false
namespace Go.Eng
open Go Go.RowKit

structure Grow (fb : Nat) (ρ : Rho) (h : Heap) (ρ' : Rho) (h' : Heap) : Prop where
 rho : ∀ n, n < fb → ρ' n = ρ n
 dead : ∀ n, n < fb → lk h n = none → lk h' n = none
 len : fb ≤ h.length → fb ≤ h'.length

theorem Grow.refl (fb : Nat) (ρ : Rho) (h : Heap) : Grow fb ρ h ρ h := ⟨fun _ _ => rfl, fun _ _ h => h, id⟩
theorem Grow.trans {fb : Nat} {r1 r2 r3 : Rho} {h1 h2 h3 : Heap} (x : Grow fb r1 h1 r2 h2) (y : Grow fb r2 h2 r3 h3) : Grow fb r1 h1 r3 h3 :=
 ⟨fun n hn => (y.rho n hn).trans (x.rho n hn), fun n hn h => y.dead n hn (x.dead n hn h), fun h => y.len (x.len h)⟩
theorem Grow.mono {fb fb' : Nat} {ρ ρ' : Rho} {h h' : Heap} (g : Grow fb ρ h ρ' h') (hle : fb' ≤ fb) (hl : fb ≤ h.length) : Grow fb' ρ h ρ' h' :=
 ⟨fun n hn => g.rho n (Nat.lt_of_lt_of_le hn hle), fun n hn => g.dead n (Nat.lt_of_lt_of_le hn hle), fun _ => Nat.le_trans hle (g.len hl)⟩

structure Goes (ok : Nat → Prop) (B0 fb : Nat) (ρ : Rho) (h : Heap) (w : World) (ρ' : Rho) (h' : Heap) (w' : World) : Prop where
 ext : Ext fb (okc ok B0 h ρ) (okc ok B0 h' ρ') ρ ρ' w w'
 grow : Grow fb ρ h ρ' h'

theorem Goes.refl (ok : Nat → Prop) (B0 fb : Nat) (ρ : Rho) (h : Heap) (w : World) : Goes ok B0 fb ρ h w ρ h w := ⟨Ext.refl _ _ _ _, Grow.refl _ _ _⟩
theorem Goes.trans {ok : Nat → Prop} {B0 fb : Nat} {r1 r2 r3 : Rho} {h1 h2 h3 : Heap} {w1 w2 w3 : World} (x : Goes ok B0 fb r1 h1 w1 r2 h2 w2) (y : Goes ok B0 fb r2 h2 w2 r3 h3 w3) : Goes ok B0 fb r1 h1 w1 r3 h3 w3 :=
 ⟨x.ext.trans y.ext, x.grow.trans y.grow⟩

def FW (r : Option Nat) : Fence := { Fence.wide with round := r }
theorem calls_FW {r : Option Nat} {n : Nat} {P : Program} {f : FuncId} {args : Array Value} {w : World} {R : Ending → World → Prop} (h : Calls P f args w R) : CallsIn (FW r) n P f args w R := callsIn_wide (n := n).2 h
theorem FW_calls {r : Option Nat} {n : Nat} {P : Program} {f : FuncId} {args : Array Value} {w : World} {R : Ending → World → Prop} (h : CallsIn (FW r) n P f args w R) : Calls P f args w R := callsIn_wide (n := n).1 h
theorem rows_FW {r : Option Nat} {n : Nat} {P : Program} {row : String} {args : Array Value} {w : World} {R : Value → World → Prop} (h : Rows P row args w R) : RowsIn (FW r) n P row args w R :=
 fun c cs _ => let ⟨v, w', q, s⟩ := h c cs; ⟨v, w', q, stepsIn_wide.2 s⟩
theorem opIn_of {r : Option Nat} {n : Nat} {P : Program} {o : Oper} {a : Act} {w : World} {next : Act → World → Prop} {Q : Exit → Act → World → Prop} (hd : ∀ c, o.op ≠ .defer c) (h : o.wp P a w next Q) : o.wpIn (FW r) n P a w next Q := by
 refine ⟨fun _ _ => trivial, ?_⟩
 show Oper.uponIn (FW r) n P o a next Q (Sem.run P (Oper.semAt r a.eval o) w)
 rw [Oper.semAt_eq r a.eval o hd]
 unfold Oper.wp at h
 generalize (execOp a.eval o).run P w = res at h
 cases res with
 | ok nx w' =>
  cases nx with
  | value v => exact h
  | skip => exact h
  | defer d => exact h
  | enter f args => exact ⟨(by intro h; cases h), calls_FW h⟩
  | row row args => exact ⟨(by intro h; cases h), rows_FW h⟩
  | round => exact h.elim
  | _ => exact h
 | halt hl w' =>
  cases hl with
  | panic v => exact h
  | _ => exact h

def YlSem (P : Program) (cx : Cx) (n : Nat) (as : List Arg) (h : Heap) (rs : List Arg) (h' : Heap) : Prop := ∀ (ok : Nat → Prop) (w0 : World) (ρ : Rho) (w : World) (xs : List Value) (b : Nat), HInv cx ok w0 ρ h w → RAs cx ρ (okc ok w0.heap.size h ρ) w as xs → ρ n = some b →
 YieldAt Fence.wide 0 P b xs.toArray w fun e w' => ∃ x ρ', e = .returned x ∧ Goes ok w0.heap.size h.length ρ h w ρ' h' w' ∧ HInv cx ok w0 ρ' h' w' ∧ RV cx ρ' (okc ok w0.heap.size h' ρ') w' (valOf rs) x
def ClSem (P : Program) (cx : Cx) : CL := fun fn f as h rs h' => match fn.body with
 | none => YlSem P cx f as h rs h'
 | some _ => FnOk P f fn → ∀ (ok : Nat → Prop) (w0 : World) (ρ : Rho) (w : World) (xs : List Value), HInv cx ok w0 ρ h w → RAs cx ρ (okc ok w0.heap.size h ρ) w as xs →
  Calls P f xs.toArray w fun e w' => ∃ x ρ', e = .returned x ∧ Goes ok w0.heap.size h.length ρ h w ρ' h' w' ∧ HInv cx ok w0 ρ' h' w' ∧ RV cx ρ' (okc ok w0.heap.size h' ρ') w' (valOf rs) x
theorem ClSem.fn {P : Program} {cx : Cx} {fn : Func} {f : FuncId} {as rs : List Arg} {h h' : Heap} (q : ClSem P cx fn f as h rs h') (hf : FnOk P f fn) : ∀ (ok : Nat → Prop) (w0 : World) (ρ : Rho) (w : World) (xs : List Value), HInv cx ok w0 ρ h w → RAs cx ρ (okc ok w0.heap.size h ρ) w as xs →
    Calls P f xs.toArray w fun e w' => ∃ x ρ', e = .returned x ∧ Goes ok w0.heap.size h.length ρ h w ρ' h' w' ∧ HInv cx ok w0 ρ' h' w' ∧ RV cx ρ' (okc ok w0.heap.size h' ρ') w' (valOf rs) x := by
 unfold ClSem at q
 have hb := hf.body
 cases h : fn.body with
 | none => rw [h] at hb; cases hb
 | some c => rw [h] at q; exact q hf
theorem ClSem.of {P : Program} {cx : Cx} {fn : Func} {f : FuncId} {as rs : List Arg} {h h' : Heap} {c : Code} (hb : fn.body = some c) (q : FnOk P f fn → ∀ (ok : Nat → Prop) (w0 : World) (ρ : Rho) (w : World) (xs : List Value), HInv cx ok w0 ρ h w → RAs cx ρ (okc ok w0.heap.size h ρ) w as xs →
    Calls P f xs.toArray w fun e w' => ∃ x ρ', e = .returned x ∧ Goes ok w0.heap.size h.length ρ h w ρ' h' w' ∧ HInv cx ok w0 ρ' h' w' ∧ RV cx ρ' (okc ok w0.heap.size h' ρ') w' (valOf rs) x) : ClSem P cx fn f as h rs h' := by
 unfold ClSem; rw [hb]; exact q
theorem ClSem.yl {P : Program} {cx : Cx} {n : Nat} {as rs : List Arg} {h h' : Heap} (q : ClSem P cx yldFn n as h rs h') : YlSem P cx n as h rs h' := q

section
variable {P : Program} {cx : Cx} {ok : Nat → Prop} {w0 : World} {ops : Array Oper}

theorem put_defers (a : Act) (dst : Option Tmp) (v : Value) : (a.put dst v).defers = a.defers := by cases dst <;> rfl
theorem lk_patch_dead {n : Nat} : ∀ (dl : List (Nat × Option Blk)) (h : Heap), (∀ p ∈ dl, p.2 = none ∨ p.1 ≠ n) → lk h n = none → lk (patch h dl) n = none
 | [], _, _, h => h
 | p :: dl, h, hd, hn => by
  rw [patch]
  refine lk_patch_dead dl _ (fun q hq => hd q (List.mem_cons_of_mem _ hq)) ?_
  rw [lk_set]
  split
  ·rename_i hc
   rcases hd p List.mem_cons_self with h1 | h1
   ·exact h1
   ·exact absurd hc.1.symm h1
  ·exact hn

theorem wanted_of {ρ : Rho} {st : St} {a : Act} {w : World} (hi : Inv cx ok w0 ρ st a w) {o : Oper} {b : Bool} (hg : guardV ops st.env o = some b) : Region.wanted o (yielded ops a.tmps) = b := by
 unfold guardV at hg
 unfold Region.wanted
 cases ho : o.guard with
 | none => rw [ho] at hg; simp only at hg; injection hg
 | some gw =>
  obtain ⟨j, want⟩ := gw
  rw [ho] at hg
  simp only at hg ⊢
  cases hd : (ops[j]?).bind (·.dst) with
  | none => rw [hd] at hg; cases hg
  | some d =>
   rw [hd] at hg
   simp only at hg
   split at hg
   ·rename_i t ht
    injection hg with hg
    have hl : d < st.env.length := by
     rcases Nat.lt_or_ge d st.env.length with h1 | h1
     ·exact h1
     ·rw [List.getD_eq_getElem?_getD, List.getElem?_eq_none h1] at ht; cases ht
    have hv := hi.env d hl
    rw [ht] at hv
    have hv' := RV_sc hv
    have hsz : d < a.tmps.size := by rw [hi.size]; exact hl
    have hy : yielded ops a.tmps j = some t := by
     have : a.tmps[d]? = some (.bool t) := by
      have : a.tmps.getD d undef = .bool t := hv'
      simpa [hsz] using this
     unfold yielded
     simp [hd, this]
    rw [hy, ← hg]
    cases t <;> cases want <;> rfl
   ·rename_i ht
    injection hg with hg
    have hl : d < st.env.length := by
     rcases Nat.lt_or_ge d st.env.length with h1 | h1
     ·exact h1
     ·rw [List.getD_eq_getElem?_getD, List.getElem?_eq_none h1] at ht; cases ht
    have hv := hi.env d hl
    rw [ht] at hv
    obtain ⟨xs, hx, hr⟩ := hv
    have hsz : d < a.tmps.size := by rw [hi.size]; exact hl
    have hy : yielded ops a.tmps j = none := by
     have : a.tmps[d]? = some (.tuple xs.toArray) := by
      have : a.tmps.getD d undef = .tuple xs.toArray := hx
      simpa [hsz] using this
     unfold yielded
     simp [hd, this]
    rw [hy, ← hg]
    rfl
   ·cases hg

theorem yldE_run (hcx : CxOk P cx) {ρ : Rho} {st : St} {a : Act} {w : World} (hi : Inv cx ok w0 ρ st a w) {o : Oper} {cl : Call} (ho : o.op = .call cl) {n : Nat} {as : List Arg} (hw : yldE cx st.env cl = some (n, as)) :
    ∃ xs b, ρ n = some b ∧ RAs cx ρ (okc ok w0.heap.size st.heap ρ) w as xs ∧ ∀ fn tmps asg body, (Instr.yield b xs.toArray).run P w = .ok (.round b fn tmps asg body) w → (execOp a.eval o).run P w = .ok (.round b fn tmps asg body) w := by
 unfold yldE at hw
 split at hw
 ·rename_i f hf
  split at hw
  ·rename_i m hop
   split at hw
   ·rename_i as0 has
    injection hw with hw; injection hw with e1 e2; subst e1; subst e2
    have hargs := argsOf_ok hi _ _ _ has
    obtain ⟨b, h1, h2⟩ := op_c hi hop
    refine ⟨cl.args.toList.map a.eval, b, h1, hargs, fun fn tmps asg body hy => ?_⟩
    rw [exec_call ho]
    have e : (#[] ++ cl.args.map a.eval) = (cl.args.toList.map a.eval).toArray := by
     apply Array.toList_inj.1; simp
    simp only [goOf, resolve, hf, h2, Deferred.ofValue, Sem.run_bind, Sem.run_pure, Result.andThen_ok, invoke]
    rw [e]
    exact hy
   ·cases hw
  ·cases hw
 ·cases hw

theorem exec_wp (hcx : CxOk P cx) (hga : GaOk P cx) {base fb : Nat} (hfb : fb ≤ base) {r : Option Nat} {Q : Exit → Act → World → Prop} :
    ∀ (l : List Nat) (st st' : St) (ns : List Note), Exec cx (ClSem P cx) ops base l st st' ns → l.Nodup → ∀ (ρ : Rho) (a : Act) (w : World), Inv cx ok w0 ρ st a w → (∀ i ∈ l, ρ (base + i) = none ∧ lk st.heap (base + i) = none ∧ base + i < st.heap.length) →
     (∀ ρ' a' w', Inv cx ok w0 ρ' st' a' w' → Goes ok w0.heap.size fb ρ st.heap w ρ' st'.heap w' → a'.defers = a.defers → Q .normal a' w') → wpOpsIn (FW r) 0 P ops Q l a w
 | [], st, st', ns, h, _, ρ, a, w, hi, _, hQ => by
  cases h
  exact hQ ρ a w hi (Goes.refl _ _ _ _ _ _) rfl
 | i :: l, st, st', ns, h, hnd, ρ, a, w, hi, hs, hQ => by
  have hnd' := List.nodup_cons.1 hnd
  have hne : ∀ j ∈ l, j ≠ i := fun j hj e => hnd'.1 (e ▸ hj)
  cases h with
  | cons h1 h2 =>
   have ih := exec_wp hcx hga hfb (r := r) (Q := Q) l _ _ _ h2 hnd'.2
   cases h1 with
   | skip o g1 g2 =>
    simp only [wpOpsIn, g1, wanted_of hi g2, Bool.false_eq_true, if_false]
    exact ⟨fun _ _ => trivial, ih ρ _ w (hi.put ⟨[], rfl, rfl, fun j hj => absurd hj (Nat.not_lt_zero j)⟩) (fun j hj => hs j (List.mem_cons_of_mem _ hj)) (fun ρ' a' w' q1 q2 q3 => hQ ρ' a' w' q1 q2 (q3.trans (put_defers _ _ _)))⟩
   | run o v h' n g1 g2 g3 =>
    obtain ⟨s1, s2, s3⟩ := hs i List.mem_cons_self
    simp only [wpOpsIn, g1, wanted_of hi g2, if_true]
    cases g3 with
    | op e q1 q2 q3 =>
     refine opIn_of (fun c hc => by simp [opE, hc] at q2) ?_
     refine op_sim hcx hga hi s1 s3 s2 q2 q3 _ _ (fun ρ' w' x k1 k2 k3 k4 => ?_)
     obtain ⟨dl, l1, l2, _⟩ := opE_local q2
     have hlen : e.heap.length = st.heap.length := by rw [l1, patch_length]
     have hgo : Goes ok w0.heap.size fb ρ st.heap w ρ' e.heap w' := by
      refine ⟨k2 fb, ⟨fun n hn => k1 n (by omega), fun n hn hd => ?_, fun h => by rw [hlen]; exact h⟩⟩
      rw [l1]
      refine lk_patch_dead dl _ (fun p hp => ?_) hd
      rcases (l2 p hp).2 with h | h | h
      ·exact .inl h
      ·right; rw [h]; omega
      ·right; intro e2; rw [e2, hd] at h; cases h
     refine ih ρ' _ w' ((hi.go k2 k3).put k4) (fun j hj => ?_) (fun ρ'' a' w'' r1 r2 r3 => hQ ρ'' a' w'' r1 (hgo.trans r2) (r3.trans (put_defers _ _ _)))
     obtain ⟨t1, t2, t3⟩ := hs j (List.mem_cons_of_mem _ hj)
     have hj' := hne j hj
     refine ⟨by rw [k1 _ (by omega)]; exact t1, ?_, by show base + j < e.heap.length; rw [hlen]; exact t3⟩
     show lk e.heap (base + j) = none
     rw [l1]
     refine lk_patch_dead dl _ (fun p hp => ?_) t2
     rcases (l2 p hp).2 with h | h | h
     ·exact .inl h
     ·right; rw [h]; omega
     ·right; intro e2; rw [e2, t2] at h; cases h
    | inl fn f as rs h' q1 q2 =>
     have fin : ∀ x w' ρ', Goes ok w0.heap.size st.heap.length ρ st.heap w ρ' h' w' → HInv cx ok w0 ρ' h' w' → RV cx ρ' (okc ok w0.heap.size h' ρ') w' (valOf rs) x → wpOpsIn (FW r) 0 P ops Q l (a.put o.dst x) w' := fun x w' ρ' k1 k2 k3 => by
      have hrho : ∀ n b, ρ n = some b → ρ' n = some b := fun n b e => by
       have hn : n < st.heap.length := by
        rcases Nat.lt_or_ge n st.heap.length with h | h
        ·exact h
        ·rw [hi.fresh n h] at e; cases e
       rw [k1.grow.rho n hn]; exact e
      have hext : ∀ N, Ext N (okc ok w0.heap.size st.heap ρ) (okc ok w0.heap.size h' ρ') ρ ρ' w w' := fun N => ⟨fun n b _ e => hrho n b e, k1.ext.cell, k1.ext.okk, k1.ext.room, k1.ext.size⟩
      have hle : fb ≤ st.heap.length := by omega
      have hgo : Goes ok w0.heap.size fb ρ st.heap w ρ' h' w' := ⟨hext fb, k1.grow.mono hle (Nat.le_refl _)⟩
      refine ih ρ' _ w' ((hi.go hext k2).put k3) (fun j hj => ?_) (fun ρ'' a' w'' t1 t2 t3 => hQ ρ'' a' w'' t1 (hgo.trans t2) (t3.trans (put_defers _ _ _)))
      obtain ⟨t1, t2, t3⟩ := hs j (List.mem_cons_of_mem _ hj)
      exact ⟨(k1.grow.rho _ t3).trans t1, k1.grow.dead _ t3 t2, Nat.lt_of_lt_of_le t3 (k1.grow.len (Nat.le_refl _))⟩
     unfold inlE at q1
     split at q1
     ·rename_i c hop
      split at q1
      ·cases q1
      ·split at q1
       ·rename_i fn' f' as' hw
        injection q1 with q1; injection q1 with e1 q1; injection q1 with e2 e3; subst e1; subst e2; subst e3
        obtain ⟨xs, r1, r2, r3⟩ := wayOf_inl hga hi hop hw
        refine opIn_of (fun c' hc => by rw [hop] at hc; cases hc) ?_
        unfold Oper.wp
        rw [r3, Oper.upon_enter]
        refine (q2.fn r1 ok w0 ρ w xs hi.hv r2).mono fun e w' ha => ?_
        obtain ⟨x, ρ', rfl, k1, k2, k3⟩ := ha
        exact fin x w' ρ' k1 k2 k3
       ·cases q1
       ·split at q1
        ·rename_i n as' hy
         injection q1 with q1; injection q1 with e1 q1; injection q1 with e2 e3; subst e1; subst e2; subst e3
         obtain ⟨xs, b, r1, r2, r3⟩ := yldE_run hcx hi hop hy
         obtain ⟨fn, tmps, asg, body, y1, y2⟩ := q2.yl ok w0 ρ w xs b hi.hv r2 r1
         refine ⟨fun _ _ => trivial, ?_⟩
         show Oper.uponIn (FW r) 0 P o a _ Q (Sem.run P (Oper.semAt r a.eval o) w)
         rw [Oper.semAt_eq r a.eval o (fun c' hc => by rw [hop] at hc; cases hc), r3 _ _ _ _ y1, Oper.uponIn_round]
         refine ⟨(by intro h; cases h), RoundIn.mono y2 fun e w' ha => ?_⟩
         obtain ⟨x, ρ', rfl, k1, k2, k3⟩ := ha
         exact fin x w' ρ' k1 k2 k3
        ·cases q1
     ·cases q1

theorem inv_room {ρ : Rho} {st : St} {a : Act} {w : World} (hi : Inv cx ok w0 ρ st a w) (k : Nat) : Inv cx ok w0 ρ ⟨st.env, st.heap ++ List.replicate k none, st.fb⟩ a w := by
 have he : ∀ k', okc ok w0.heap.size st.heap ρ k' ↔ okc ok w0.heap.size (st.heap ++ List.replicate k none) ρ k' := fun k' => by
  unfold okc
  simp only [lk_append]
 have hx : ∀ N, Ext N (okc ok w0.heap.size st.heap ρ) (okc ok w0.heap.size (st.heap ++ List.replicate k none) ρ) ρ ρ w w := fun N => ⟨fun _ _ _ e => e, fun _ _ _ => rfl, fun k' _ h => (he k').1 h, fun _ _ => rfl, Nat.le_refl _⟩
 refine ⟨hi.size, fun t ht => Ext.all_V hx hi.hv.lt (hi.env t ht), fun n b hn => ?_, fun n m b hn hm => ?_, hi.own, fun n hn => hi.fresh n (by simp at hn; omega), hi.below⟩
 ·rw [lk_append] at hn
  exact Ext.all_B hx hi.hv.lt (fun _ _ => rfl) (fun h => h) (hi.heap n b hn)
 ·rw [lk_append] at hn hm; exact hi.inj n m b hn hm
theorem goes_room {ρ : Rho} {h : Heap} {w : World} (k fb : Nat) : Goes ok w0.heap.size fb ρ h w ρ (h ++ List.replicate k none) w :=
 ⟨⟨fun _ _ _ e => e, fun _ _ _ => rfl, fun k' _ hk => ⟨hk.1, fun n hn => hk.2 n (by rwa [lk_append] at hn)⟩, fun _ _ => rfl, Nat.le_refl _⟩, fun _ _ => rfl, fun n _ hn => by rw [lk_append]; exact hn, fun hl => by simp; omega⟩

theorem Inv.drew {ρ : Rho} {st : St} {a : Act} {w : World} (hi : Inv cx ok w0 ρ st a w) : Inv cx ok w0 ρ st a { w with drawn := w.drawn + 1 } := by
 have hx : ∀ N, Ext N (okc ok w0.heap.size st.heap ρ) (okc ok w0.heap.size st.heap ρ) ρ ρ w { w with drawn := w.drawn + 1 } := fun N => ⟨fun _ _ _ e => e, fun _ _ _ => rfl, fun _ _ h => h, fun _ _ => rfl, Nat.le_refl _⟩
 exact ⟨hi.size, fun t ht => Ext.all_V hx hi.hv.lt (hi.env t ht), fun n b hn => Ext.all_B hx hi.hv.lt (fun _ _ => rfl) (fun h => h) (hi.heap n b hn), hi.inj, hi.own, hi.fresh, hi.below.trans ⟨rfl, rfl, rfl, Nat.le_refl _, fun _ _ => rfl⟩⟩

def RegSem (cx : Cx) (P : Program) (ops : Array Oper) (draw : Bool) (st st' : St) : Prop :=
 ∃ ns, Exec cx (ClSem P cx) ops st.heap.length (List.range ops.size) ⟨st.env, st.heap ++ List.replicate ops.size none, st.fb⟩ st' ns ∧ (draw = true → notesOk (Region.before ops) ns.reverse = true ∧ orderOk ops (Region.before ops) = true)

theorem exec_fb {cl : CL} {base : Nat} : ∀ (l : List Nat) (st st' : St) (ns : List Note), Exec cx cl ops base l st st' ns → st'.fb = st.fb ∧ st'.env.length = st.env.length
 | [], _, _, _, h => by cases h; exact ⟨rfl, rfl⟩
 | i :: l, st, st', ns, h => by
  cases h with
  | cons h1 h2 =>
   obtain ⟨k1, k2⟩ := exec_fb l _ _ _ h2
   have hp : ∀ dst v, (putV st.env dst v).length = st.env.length := fun dst v => by cases dst <;> simp [putV]
   cases h1 with
   | skip => exact ⟨k1, k2.trans (hp _ _)⟩
   | run => exact ⟨k1, k2.trans (hp _ _)⟩

theorem region_wp (hcx : CxOk P cx) (hga : GaOk P cx) {r : Option Nat} {draw : Bool} {id : Nat} {st st' : St} (h : RegSem cx P ops draw st st') (hfb : st.fb ≤ st.heap.length) {Q : Exit → Act → World → Prop} {ρ : Rho} {a : Act} {w : World} (hi : Inv cx ok w0 ρ st a w)
    (hQ : ∀ ρ' a' w', Inv cx ok w0 ρ' st' a' w' → Goes ok w0.heap.size st.fb ρ st.heap w ρ' st'.heap w' → a'.defers = a.defers → Q .normal a' w') : (Code.region id ops draw).wpIn (FW r) 0 P Q a w := by
 obtain ⟨ns, h1, h2⟩ := h
 have hs : ∀ i, i < ops.size → ρ (st.heap.length + i) = none ∧ lk (st.heap ++ List.replicate ops.size none) (st.heap.length + i) = none ∧ st.heap.length + i < (st.heap ++ List.replicate ops.size none).length := fun i hlt => by
  refine ⟨hi.fresh _ (by omega), ?_, by simp; omega⟩
  rw [lk_append]
  unfold lk
  rw [List.getD_eq_getElem?_getD, List.getElem?_eq_none (by omega)]; rfl
 cases draw with
 | false =>
  refine wpIn_region (exec_wp hcx hga hfb _ _ _ _ h1 List.nodup_range ρ a w (inv_room hi ops.size) (fun i hm => hs i (List.mem_range.1 hm)) (fun ρ' a' w' k1 k2 k3 => ?_))
  exact hQ ρ' a' w' k1 ((goes_room _ _).trans k2) k3
 | true =>
  obtain ⟨g1, g2⟩ := h2 rfl
  refine wpIn_region_draw fun t => ?_
  rw [hcx.mixed]
  have hrev : notesOk (Region.before ops) ns.reverse = true := g1
  have hE := orderOk_spec g2
  have hnotes : ∀ x ∈ ns, ∀ y ∈ ns, x.i ≠ y.i → Free (Region.before ops) x.i y.i → meddle x y = false := fun x hx y hy => notes_sound ns.reverse g1 x (List.mem_reverse.2 hx) y (List.mem_reverse.2 hy)
  obtain ⟨k1, k2, k3⟩ := linearised hE.1 ops.size t (Array.replicate ops.size false) (by simp) (fun a b ha _ => by
   by_cases h : a < ops.size <;> simp [h] at ha) (by refine Nat.le_trans List.countP_le_length ?_; simp)
  have hsch : Region.schedule true ops t = Region.linearise.go .any ops ops.size t (Array.replicate ops.size false) [] := by simp [Region.schedule, Region.linearise]
  have hm : ∀ x, x ∈ Region.schedule true ops t ↔ x < ops.size := fun x => by
   rw [hsch, k2 x]
   exact ⟨fun h => h.1, fun h => ⟨h, by simp [h]⟩⟩
  obtain ⟨ns', q1, _⟩ := reorder (Region.schedule true ops t) (List.range ops.size) _ _ ns h1 ⟨hnotes, hE.2⟩ List.nodup_range (by rw [hsch]; exact k1) (fun x => by rw [hm x, List.mem_range]) (range_topo hE.1 rfl) (by rw [hsch]; exact k3)
  refine exec_wp hcx hga hfb _ _ _ _ q1 (by rw [hsch]; exact k1) ρ a _ (inv_room hi ops.size).drew (fun i hi' => hs i ((hm i).1 hi')) (fun ρ' a' w' r1 r2 r3 => ?_)
  have hd : Goes ok w0.heap.size st.fb ρ (st.heap ++ List.replicate ops.size none) w ρ (st.heap ++ List.replicate ops.size none) { w with drawn := w.drawn + 1 } := ⟨⟨fun _ _ _ e => e, fun _ _ _ => rfl, fun _ _ h => h, fun _ _ => rfl, Nat.le_refl _⟩, Grow.refl _ _ _⟩
  exact hQ ρ' a' w' r1 ((goes_room _ _).trans (hd.trans r2)) r3
end
end Go.Eng
/- A round's head: slices made the call's own, names brought back, what is not needed left. -/
set_option linter.unusedVariables false
set_option linter.unusedSimpArgs false
namespace Go.Eng
open Go Go.RowKit

section
variable {P : Program} {cx : Cx} {ok : Nat → Prop} {w0 : World} {ρ : Rho} {st st' : St} {a : Act} {w : World}

def Turns (cx : Cx) (st st' : St) : Prop :=
 st'.fb = st.fb ∧ (st.fb ≤ st.heap.length → st.fb ≤ st'.heap.length) ∧ ∀ (ok : Nat → Prop) (w0 : World) (ρ : Rho) (a : Act) (w : World), Inv cx ok w0 ρ st a w → st.fb ≤ st.heap.length → ∃ ρ', Inv cx ok w0 ρ' st' a w ∧ Goes ok w0.heap.size st.fb ρ st.heap w ρ' st'.heap w

theorem Turns.refl : Turns cx st st := ⟨rfl, id, fun _ _ ρ _ _ hi _ => ⟨ρ, hi, Goes.refl _ _ _ _ _ _⟩⟩
theorem Turns.trans {s1 s2 s3 : St} (x : Turns cx s1 s2) (y : Turns cx s2 s3) : Turns cx s1 s3 := by
 refine ⟨y.1.trans x.1, fun h => ?_, fun ok w0 ρ a w hi hl => ?_⟩
 ·rw [← x.1]; exact y.2.1 (by rw [x.1]; exact x.2.1 h)
 ·obtain ⟨ρ1, i1, g1⟩ := x.2.2 ok w0 ρ a w hi hl
  obtain ⟨ρ2, i2, g2⟩ := y.2.2 ok w0 ρ1 a w i1 (by rw [x.1]; exact x.2.1 hl)
  rw [x.1] at g2
  exact ⟨ρ2, i2, g1.trans g2⟩

theorem turns_keep (keep : List Nat) : Turns cx st ⟨keepOnly keep st.env, st.heap, st.fb⟩ := by
 refine ⟨rfl, id, fun ok w0 ρ a w hi _ => ⟨ρ, ⟨?_, fun t ht => ?_, hi.heap, hi.inj, hi.own, hi.fresh, hi.below⟩, Goes.refl _ _ _ _ _ _⟩⟩
 ·show a.tmps.size = (keepOnly keep st.env).length
  rw [hi.size]; simp [keepOnly]
 ·have hl : t < st.env.length := by simpa [keepOnly] using ht
  have e : (keepOnly keep st.env).getD t .any = if keep.contains t then st.env.getD t .any else .any := by
   simp [keepOnly, List.getD_eq_getElem?_getD, hl]
  show RV cx ρ _ w ((keepOnly keep st.env).getD t .any) _
  rw [e]
  split
  ·exact hi.env t hl
  ·trivial

theorem RC_low {ok' : Nat → Prop} {base : Nat} {c : C} {x : Value} (hk : ∀ k, ok k → ok' k) (hl : lowC base c = true) (h : RC cx ρ ok w c x) : RC cx (fun n => if n < base then ρ n else none) ok' w c x := by
 cases c with
 | d y => exact RD.ext h (fun _ _ _ => rfl) (fun k _ => hk k) (Nat.le_refl _)
 | ptr n off =>
  have hl : n < base := by simpa [lowC] using hl
  obtain ⟨b, h1, h2⟩ := h
  exact ⟨b, by simpa [hl] using h1, h2⟩
 | ep n t i j =>
  have hl : n < base := by simpa [lowC] using hl
  obtain ⟨b, h1, h2⟩ := h
  exact ⟨b, by simpa [hl] using h1, h2⟩
 | own n t full off len =>
  have hl : n < base := by simpa [lowC] using hl
  obtain ⟨A, cap, h1, h2, h3, h4⟩ := h
  exact ⟨A, cap, h1, h2, h3, fun hc => by obtain ⟨b, h5, h6⟩ := h4 hc; exact ⟨b, by simpa [hl] using h5, h6⟩⟩
 | clo f first caps =>
  simp only [lowC, Bool.and_eq_true, List.all_eq_true, decide_eq_true_eq] at hl
  have key : ∀ (ns : List Nat) (us : List Value), (∀ n ∈ ns, n < base) → ptrsTo ρ ns us → ptrsTo (fun n => if n < base then ρ n else none) ns us := fun ns us hn hp => ⟨hp.1, fun i hi => by
   obtain ⟨b, h1, h2⟩ := hp.2 i hi
   exact ⟨b, by have := hn _ (getD_mem (d := 0) hi); simp only [this, if_true]; exact h1, h2⟩⟩
  obtain ⟨u, v, h1, h2, h3⟩ := h
  exact ⟨u, v, h1, key _ _ hl.1 h2, key _ _ hl.2 h3⟩
 | yld n =>
  have hl : n < base := by simpa [lowC] using hl
  obtain ⟨b, h1, h2⟩ := h
  exact ⟨b, by simpa [hl] using h1, h2⟩
theorem RCs_low {ok' : Nat → Prop} {base : Nat} {cs : List C} {vs : List Value} (hk : ∀ k, ok k → ok' k) (hl : cs.all (lowC base) = true) (h : RCs cx ρ ok w cs vs) : RCs cx (fun n => if n < base then ρ n else none) ok' w cs vs :=
 ⟨h.1, fun j hj => RC_low hk (List.all_eq_true.1 hl _ (getD_mem hj)) (h.2 j hj)⟩
theorem RA_low {ok' : Nat → Prop} {base : Nat} {g : Bool} {cs : List C} {x : Value} (hk : ∀ k, ok k → ok' k) (hl : cs.all (lowC base) = true) (h : RA cx ρ ok w (g, cs) x) : RA cx (fun n => if n < base then ρ n else none) ok' w (g, cs) x := by
 cases g with
 | true => obtain ⟨vs, h1, h2⟩ := h; exact ⟨vs, h1, RCs_low hk hl h2⟩
 | false =>
  obtain ⟨c, h1, h2⟩ := h
  subst h1
  exact ⟨c, rfl, RC_low hk (by simpa using hl) h2⟩
theorem RV_low {ok' : Nat → Prop} {base : Nat} {v : V} {x : Value} (hk : ∀ k, ok k → ok' k) (hl : lowV base v = true) (h : RV cx ρ ok w v x) : RV cx (fun n => if n < base then ρ n else none) ok' w v x := by
 cases v with
 | any => trivial
 | v g cs => exact RA_low hk hl h
 | tup vs =>
  obtain ⟨xs, h1, h2⟩ := h
  refine ⟨xs, h1, h2.1, fun j hj => ?_⟩
  have := List.all_eq_true.1 hl _ (getD_mem (d := (false, [])) hj)
  exact RA_low (g := (vs.getD j (false, [])).1) (cs := (vs.getD j (false, [])).2) hk this (h2.2 j hj)

theorem lk_take (h : Heap) (base n : Nat) : lk (h.take base) n = if n < base then lk h n else none := by
 unfold lk
 rw [List.getD_eq_getElem?_getD, List.getD_eq_getElem?_getD, List.getElem?_take]
 split <;> rfl

theorem turns_clean {hint : Hint} {base : Nat} (hc : clean hint base st = some st') : Turns cx st st' := by
 unfold clean at hc
 simp only at hc
 split at hc
 ·rename_i hcond
  injection hc with hc; subst hc
  simp only [Bool.and_eq_true, decide_eq_true_eq] at hcond
  obtain ⟨⟨hfb, henv⟩, hheap⟩ := hcond
  refine (turns_keep hint.keep).trans ⟨rfl, fun h => by show st.fb ≤ (st.heap.take base).length; rw [List.length_take]; have : st.fb ≤ st.heap.length := h; omega, fun ok w0 ρ a w hi hl => ?_⟩
  have hl : st.fb ≤ st.heap.length := hl
  have hlive : ∀ n, (lk (st.heap.take base) n).isSome = true → n < base ∧ (lk st.heap n).isSome = true := fun n hn => by
   rw [lk_take] at hn
   split at hn
   ·exact ⟨‹_›, hn⟩
   ·cases hn
  have hk : ∀ k, okc ok w0.heap.size st.heap ρ k → okc ok w0.heap.size (st.heap.take base) (fun n => if n < base then ρ n else none) k := fun k hk => ⟨hk.1, fun n hn => by
   obtain ⟨h1, h2⟩ := hlive n hn
   simp only [h1, if_true]
   exact hk.2 n h2⟩
  refine ⟨fun n => if n < base then ρ n else none, ⟨hi.size, fun t ht => RV_low hk (List.all_eq_true.1 henv _ (getD_mem ht)) (hi.env t ht), fun n b hn => ?_, fun n m b hn hm h1 h2 => ?_, fun n b hn => ?_, fun n hn => ?_, hi.below⟩, ?_, ?_⟩
  ·have hn' : lk st.heap n = some b ∧ n < base := by
     have hn : lk (st.heap.take base) n = some b := hn
     rw [lk_take] at hn
     split at hn
     ·exact ⟨hn, ‹_›⟩
     ·cases hn
   have hlen : n < (st.heap.take base).length := by rw [List.length_take]; have := lk_lt (lkh hn'.1); omega
   have hlow : lowB base (some b) = true := by
    have := List.all_eq_true.1 hheap _ (getD_mem (d := none) hlen)
    have e : (st.heap.take base).getD n none = some b := hn
    rw [e] at this; exact this
   have hB := hi.heap n b hn'.1
   cases b with
   | lp key env s j =>
    obtain ⟨k, r, q1, q2, q3, q4, q5⟩ := hB
    exact ⟨k, r, by simp only [hn'.2, if_true]; exact q1, q2, q3, fun t ht => RV_low hk (List.all_eq_true.1 hlow _ (getD_mem ht)) (q4 t ht), q5⟩
   | box T cs =>
    obtain ⟨k, vs, q1, q2, q3⟩ := hB
    exact ⟨k, vs, by simp only [hn'.2, if_true]; exact q1, q2, RCs_low hk hlow q3⟩
   | arr T t l =>
    rcases hB with ⟨q1, q2⟩ | ⟨k, vs, q1, q2, q3, q4⟩
    ·exact .inl ⟨q1, by simp only [hn'.2, if_true]; exact q2⟩
    ·exact .inr ⟨k, vs, by simp only [hn'.2, if_true]; exact q1, q2, q3, fun i j hi' hj => (q4 i j hi' hj).ext (fun _ _ _ => rfl) (fun k _ => hk k) (Nat.le_refl _)⟩
  ·obtain ⟨a1, a2⟩ := hlive n hn
   obtain ⟨b1, b2⟩ := hlive m hm
   simp only [a1, b1, if_true] at h1 h2
   exact hi.inj n m b a2 b2 h1 h2
  ·have hn : (if n < base then ρ n else none) = some b := hn
   split at hn
   ·exact hi.own n b hn
   ·cases hn
  ·have hn : (st.heap.take base).length ≤ n := hn
   rw [List.length_take] at hn
   show (if n < base then ρ n else none) = none
   split
   ·exact hi.fresh n (by show st.heap.length ≤ n; omega)
   ·rfl
  ·refine ⟨fun n b hn h => ?_, fun _ _ _ => rfl, fun k _ h => hk k h, fun _ _ => rfl, Nat.le_refl _⟩
   have : n < base := Nat.lt_of_lt_of_le hn hfb
   simp only [this, if_true]; exact h
  ·refine ⟨fun n hn => ?_, fun n hn hd => ?_, fun h => ?_⟩
   ·have : n < base := Nat.lt_of_lt_of_le hn hfb
    simp only [this, if_true]
   ·show lk (st.heap.take base) n = none
    rw [lk_take]; split
    ·exact hd
    ·rfl
   ·show st.fb ≤ (st.heap.take base).length
    rw [List.length_take]; omega
 ·cases hc

theorem RC_ren {ok' : Nat → Prop} {n m : Nat} {c : C} {x : Value} (hk : ∀ k, ok k → ok' k) (hl : noRefC m c = true) (h : RC cx ρ ok w c x) : RC cx (upd ρ m (ρ n)) ok' w (renC n m c) x := by
 have key : ∀ k b, k ≠ m → ρ k = some b → upd ρ m (ρ n) (ren n m k) = some b := fun k b hne e => by
  unfold ren
  by_cases hkn : k = n
  ·rw [if_pos hkn, upd_same, ← hkn]; exact e
  ·rw [if_neg hkn, upd_ne hne]; exact e
 cases c with
 | d y => exact RD.ext h (fun _ _ _ => rfl) (fun k _ => hk k) (Nat.le_refl _)
 | ptr k off =>
  have hl : k ≠ m := by simpa [noRefC] using hl
  obtain ⟨b, h1, h2⟩ := h
  exact ⟨b, key k b hl h1, h2⟩
 | ep k t i j =>
  have hl : k ≠ m := by simpa [noRefC] using hl
  obtain ⟨b, h1, h2⟩ := h
  exact ⟨b, key k b hl h1, h2⟩
 | own k t full off len =>
  have hl : k ≠ m := by simpa [noRefC] using hl
  obtain ⟨A, cap, h1, h2, h3, h4⟩ := h
  exact ⟨A, cap, h1, h2, h3, fun hc => by obtain ⟨b, h5, h6⟩ := h4 hc; exact ⟨b, key k b hl h5, h6⟩⟩
 | clo f first caps =>
  simp only [noRefC, Bool.and_eq_true, Bool.not_eq_true', List.contains_eq_mem, decide_eq_false_iff_not] at hl
  have kk : ∀ (ns : List Nat) (us : List Value), m ∉ ns → ptrsTo ρ ns us → ptrsTo (upd ρ m (ρ n)) (ns.map (ren n m)) us := fun ns us hn hp => ⟨by simpa using hp.1, fun i hi => by
   have hi' : i < ns.length := by simpa using hi
   obtain ⟨b, h1, h2⟩ := hp.2 i hi'
   have hne : ns.getD i 0 ≠ m := fun e => hn (e ▸ getD_mem hi')
   have e : (ns.map (ren n m)).getD i 0 = ren n m (ns.getD i 0) := by simp [List.getD_eq_getElem?_getD, hi']
   exact ⟨b, by rw [e]; exact key _ b hne h1, h2⟩⟩
  obtain ⟨u, v, h1, h2, h3⟩ := h
  exact ⟨u, v, h1, kk _ _ hl.1 h2, kk _ _ hl.2 h3⟩
 | yld k =>
  have hl : k ≠ m := by simpa [noRefC] using hl
  obtain ⟨b, h1, h2⟩ := h
  exact ⟨b, key k b hl h1, h2⟩
theorem RCs_ren {ok' : Nat → Prop} {n m : Nat} {cs : List C} {vs : List Value} (hk : ∀ k, ok k → ok' k) (hl : cs.all (noRefC m) = true) (h : RCs cx ρ ok w cs vs) : RCs cx (upd ρ m (ρ n)) ok' w (cs.map (renC n m)) vs :=
 ⟨by simpa using h.1, fun j hj => by
  have hj' : j < cs.length := by simpa using hj
  have e : (cs.map (renC n m)).getD j (.d .nils) = renC n m (cs.getD j (.d .nils)) := by simp [List.getD_eq_getElem?_getD, hj']
  rw [e]
  exact RC_ren hk (List.all_eq_true.1 hl _ (getD_mem hj')) (h.2 j hj')⟩
theorem RA_ren {ok' : Nat → Prop} {n m : Nat} {g : Bool} {cs : List C} {x : Value} (hk : ∀ k, ok k → ok' k) (hl : cs.all (noRefC m) = true) (h : RA cx ρ ok w (g, cs) x) : RA cx (upd ρ m (ρ n)) ok' w (g, cs.map (renC n m)) x := by
 cases g with
 | true => obtain ⟨vs, h1, h2⟩ := h; exact ⟨vs, h1, RCs_ren hk hl h2⟩
 | false =>
  obtain ⟨c, h1, h2⟩ := h
  subst h1
  exact ⟨_, rfl, RC_ren hk (by simpa using hl) h2⟩
theorem RV_ren {ok' : Nat → Prop} {n m : Nat} {v : V} {x : Value} (hk : ∀ k, ok k → ok' k) (hl : noRefV m v = true) (h : RV cx ρ ok w v x) : RV cx (upd ρ m (ρ n)) ok' w (renV n m v) x := by
 cases v with
 | any => trivial
 | v g cs => exact RA_ren hk hl h
 | tup vs =>
  obtain ⟨xs, h1, h2⟩ := h
  refine ⟨xs, h1, by simpa using h2.1, fun j hj => ?_⟩
  have hj' : j < vs.length := by simpa using hj
  have := List.all_eq_true.1 hl _ (getD_mem (d := (false, [])) hj')
  have e : (vs.map fun (g, cs) => ((g, cs.map (renC n m)) : Arg)).getD j (false, []) = ((vs.getD j (false, [])).1, (vs.getD j (false, [])).2.map (renC n m)) := by simp [List.getD_eq_getElem?_getD, hj']
  rw [e]
  exact RA_ren (g := (vs.getD j (false, [])).1) (cs := (vs.getD j (false, [])).2) hk this (h2.2 j hj')

theorem RLr_ren {ok' : Nat → Prop} {n m : Nat} {k : Nat} {env : List V} {s : Nat} {j : Option (Option Nat)} {r : Loop} (hk : ∀ k, ok k → ok' k) (hl : env.all (noRefV m) = true) (h : RL' cx ρ ok w k env s j r) : RL' cx (upd ρ m (ρ n)) ok' w k (env.map (renV n m)) s j r := by
 refine ⟨by simpa using h.1, fun t ht => ?_, h.2.2⟩
 have ht' : t < env.length := by simpa using ht
 have e : (env.map (renV n m)).getD t .any = renV n m (env.getD t .any) := by simp [List.getD_eq_getElem?_getD, ht']
 rw [e]
 exact RV_ren hk (List.all_eq_true.1 hl _ (getD_mem ht')) (h.2.1 t ht')

theorem lk_map (h : Heap) (f : Blk → Blk) (n : Nat) : lk (h.map (Option.map f)) n = (lk h n).map f := by
 unfold lk
 rw [List.getD_eq_getElem?_getD, List.getD_eq_getElem?_getD, List.getElem?_map]
 cases h[n]? <;> rfl

theorem turns_back1 {s : Nat} {j : Option Nat} {home : Nat} (hb : back1 s j home st = some st') : Turns cx st st' := by
 unfold back1 at hb
 split at hb
 ·rename_i n _ _ _ _ hg
  split at hb
  ·injection hb with hb; subst hb; exact Turns.refl
  ·rename_i hne
   split at hb
   ·rename_i b h1 h2
    split at hb
    ·rename_i hcond
     injection hb with hb; subst hb
     simp only [Bool.and_eq_true, decide_eq_true_eq] at hcond
     obtain ⟨⟨⟨c1, c2⟩, c3⟩, c4⟩ := hcond
     have hlen : (((st.heap.map (Option.map (renB n home))).set n none).set home (some (renB n home b))).length = st.heap.length := by simp
     have hlk : ∀ m, lk (((st.heap.map (Option.map (renB n home))).set n none).set home (some (renB n home b))) m = if m = home then some (renB n home b) else if m = n then none else (lk st.heap m).map (renB n home) := fun m => by
      have hnl : n < st.heap.length := lk_lt (lkh h2)
      rw [lk_set]
      by_cases e1 : m = home
      ·subst e1; simp [c2]
      ·rw [if_neg (fun h => e1 h.1), if_neg e1, lk_set]
       by_cases e2 : m = n
       ·subst e2; simp [hnl]
       ·rw [if_neg (fun h => e2 h.1), if_neg e2, lk_map]
     have hlive : ∀ m, (lk (((st.heap.map (Option.map (renB n home))).set n none).set home (some (renB n home b))) m).isSome = true → ∃ m', (lk st.heap m').isSome = true ∧ ∀ ρ : Rho, upd ρ home (ρ n) m = ρ m' := fun m hm => by
      rw [hlk m] at hm
      by_cases e1 : m = home
      ·subst e1; exact ⟨n, lkh h2, fun ρ => upd_same _ _ _⟩
      ·rw [if_neg e1] at hm
       by_cases e2 : m = n
       ·rw [if_pos e2] at hm; cases hm
       ·rw [if_neg e2] at hm
        exact ⟨m, by cases h : lk st.heap m <;> simp [h] at hm ⊢, fun ρ => upd_ne e1⟩
     refine ⟨rfl, fun h => by show st.fb ≤ List.length _; rw [hlen]; exact h, fun ok w0 ρ a w hi hl => ?_⟩
     have hk : ∀ k, okc ok w0.heap.size st.heap ρ k → okc ok w0.heap.size (((st.heap.map (Option.map (renB n home))).set n none).set home (some (renB n home b))) (upd ρ home (ρ n)) k := fun k hk => ⟨hk.1, fun m hm => by
      obtain ⟨m', e1, e2⟩ := hlive m hm
      rw [e2]; exact hk.2 m' e1⟩
     have hren : ∀ m c, m = n → noRefB home (some c) = true → RB cx ρ (okc ok w0.heap.size st.heap ρ) w m c → RB cx (upd ρ home (ρ n)) (okc ok w0.heap.size (((st.heap.map (Option.map (renB n home))).set n none).set home (some (renB n home b))) (upd ρ home (ρ n))) w home (renB n home c) := fun m c hm hno hB => by
      subst hm
      cases c with
      | lp key env s j =>
       obtain ⟨k, r, q1, q2, q3⟩ := hB
       exact ⟨k, r, by rw [upd_same]; exact q1, q2, RLr_ren hk hno q3⟩
      | box T cs =>
       obtain ⟨k, vs, q1, q2, q3⟩ := hB
       exact ⟨k, vs, by rw [upd_same]; exact q1, q2, RCs_ren hk hno q3⟩
      | arr T t l =>
       rcases hB with ⟨q1, q2⟩ | ⟨k, vs, q1, q2, q3, q4⟩
       ·exact .inl ⟨q1, by rw [upd_same]; exact q2⟩
       ·exact .inr ⟨k, vs, by rw [upd_same]; exact q1, q2, q3, fun i j hi' hj => (q4 i j hi' hj).ext (fun _ _ _ => rfl) (fun k _ => hk k) (Nat.le_refl _)⟩
     have hno : ∀ m c, lk st.heap m = some c → noRefB home (some c) = true := fun m c hm => by
      have hml := lk_lt (lkh hm)
      have := List.all_eq_true.1 c4 _ (getD_mem (d := none) hml)
      have e : st.heap.getD m none = some c := hm
      rw [e] at this; exact this
     refine ⟨upd ρ home (ρ n), ⟨by show a.tmps.size = (st.env.map (renV n home)).length; rw [hi.size]; simp, fun t ht => ?_, fun m c hm => ?_, fun m1 m2 k hm1 hm2 e1 e2 => ?_, fun m k hm => ?_, fun m hm => ?_, hi.below⟩, ?_, ?_⟩
     ·have ht' : t < st.env.length := by simpa using ht
      have e : (st.env.map (renV n home)).getD t .any = renV n home (st.env.getD t .any) := by simp [List.getD_eq_getElem?_getD, ht']
      show RV cx _ _ w ((st.env.map (renV n home)).getD t .any) _
      rw [e]
      exact RV_ren hk (List.all_eq_true.1 c3 _ (getD_mem ht')) (hi.env t ht')
     ·have hm : lk (((st.heap.map (Option.map (renB n home))).set n none).set home (some (renB n home b))) m = some c := hm
      rw [hlk m] at hm
      by_cases e1 : m = home
      ·rw [if_pos e1] at hm; injection hm with hm; subst hm; rw [e1]
       exact hren n b rfl (hno n b h2) (hi.heap n b h2)
      ·rw [if_neg e1] at hm
       by_cases e2 : m = n
       ·rw [if_pos e2] at hm; cases hm
       ·rw [if_neg e2] at hm
        cases hc : lk st.heap m with
        | none => rw [hc] at hm; cases hm
        | some c0 =>
         rw [hc] at hm; simp only [Option.map_some, Option.some.injEq] at hm; subst hm
         have hB := hi.heap m c0 hc
         have hn0 := hno m c0 hc
         cases c0 with
         | lp key env s j =>
          obtain ⟨k, r, q1, q2, q3⟩ := hB
          exact ⟨k, r, by rw [upd_ne e1]; exact q1, q2, RLr_ren hk hn0 q3⟩
         | box T cs =>
          obtain ⟨k, vs, q1, q2, q3⟩ := hB
          exact ⟨k, vs, by rw [upd_ne e1]; exact q1, q2, RCs_ren hk hn0 q3⟩
         | arr T t l =>
          rcases hB with ⟨q1, q2⟩ | ⟨k, vs, q1, q2, q3, q4⟩
          ·exact .inl ⟨q1, by rw [upd_ne e1]; exact q2⟩
          ·exact .inr ⟨k, vs, by rw [upd_ne e1]; exact q1, q2, q3, fun i j hi' hj => (q4 i j hi' hj).ext (fun _ _ _ => rfl) (fun k _ => hk k) (Nat.le_refl _)⟩
     ·have d1 := hm1; have d2 := hm2
      rw [hlk m1] at d1; rw [hlk m2] at d2
      by_cases f1 : m1 = home <;> by_cases f2 : m2 = home
      ·rw [f1, f2]
      ·rw [f1, upd_same] at e1; rw [upd_ne f2] at e2
       rw [if_neg f2] at d2
       by_cases g2 : m2 = n
       ·rw [if_pos g2] at d2; cases d2
       ·rw [if_neg g2] at d2
        have : (lk st.heap m2).isSome = true := by cases h : lk st.heap m2 <;> simp [h] at d2 ⊢
        exact absurd (hi.inj m2 n k this (lkh h2) e2 e1) g2
      ·rw [f2, upd_same] at e2; rw [upd_ne f1] at e1
       rw [if_neg f1] at d1
       by_cases g1 : m1 = n
       ·rw [if_pos g1] at d1; cases d1
       ·rw [if_neg g1] at d1
        have : (lk st.heap m1).isSome = true := by cases h : lk st.heap m1 <;> simp [h] at d1 ⊢
        exact absurd (hi.inj m1 n k this (lkh h2) e1 e2) g1
      ·rw [upd_ne f1] at e1; rw [upd_ne f2] at e2
       rw [if_neg f1] at d1; rw [if_neg f2] at d2
       have k1 : (lk st.heap m1).isSome = true := by
        split at d1
        ·cases d1
        ·cases h : lk st.heap m1 <;> simp [h] at d1 ⊢
       have k2 : (lk st.heap m2).isSome = true := by
        split at d2
        ·cases d2
        ·cases h : lk st.heap m2 <;> simp [h] at d2 ⊢
       exact hi.inj m1 m2 k k1 k2 e1 e2
     ·by_cases e1 : m = home
      ·rw [e1, upd_same] at hm; exact hi.own n k hm
      ·rw [upd_ne e1] at hm; exact hi.own m k hm
     ·have hm : List.length (((st.heap.map (Option.map (renB n home))).set n none).set home (some (renB n home b))) ≤ m := hm
      rw [hlen] at hm
      rw [upd_ne (by omega)]; exact hi.fresh m hm
     ·refine ⟨fun m k hm e => ?_, fun _ _ _ => rfl, fun k _ h => hk k h, fun _ _ => rfl, Nat.le_refl _⟩
      rw [upd_ne (by omega)]; exact e
     ·refine ⟨fun m hm => upd_ne (by omega), fun m hm hd => ?_, fun h => by show st.fb ≤ List.length _; rw [hlen]; exact h⟩
      show lk (((st.heap.map (Option.map (renB n home))).set n none).set home (some (renB n home b))) m = none
      rw [hlk m, if_neg (by omega), hd]
      split <;> rfl
    ·cases hb
   ·cases hb
 ·cases hb

theorem turns_backs : ∀ (as : List (Nat × Option Nat × ET × TypeId)) (ns : List Nat) (st st' : St), backs as ns st = some st' → Turns cx st st'
 | [], _, st, st', h => by
  simp only [backs] at h; injection h with h; subst h; exact Turns.refl
 | (s, j, t, T) :: r, [], st, st', h => by simp [backs] at h
 | (s, j, t, T) :: r, n :: ns, st, st', h => by
  simp only [backs] at h
  split at h
  ·rename_i st1 h1
   exact (turns_back1 h1).trans (turns_backs r ns st1 st' h)
  ·cases h

theorem lk_frz (h h0 : Heap) (n : Nat) : lk (h.map (frzB h0)) n = frzB h0 (lk h n) := by
 unfold lk
 rw [List.getD_eq_getElem?_getD, List.getD_eq_getElem?_getD, List.getElem?_map]
 cases h[n]? <;> rfl
theorem frz_live {h h0 : Heap} {n : Nat} (hn : (lk (h.map (frzB h0)) n).isSome = true) : (∃ T cs, lk h n = some (.box T cs)) ∨ ∃ k env s j, lk h n = some (.lp k env s j) := by
 rw [lk_frz] at hn
 unfold frzB at hn
 split at hn
 ·rename_i T cs hk; exact .inl ⟨T, cs, hk⟩
 ·rename_i k env s j hk; exact .inr ⟨k, env, s, j, hk⟩
 ·cases hn
theorem frz_some {h h0 : Heap} {n : Nat} (hn : (lk (h.map (frzB h0)) n).isSome = true) : (lk h n).isSome = true := by
 rcases frz_live hn with ⟨T, cs, e⟩ | ⟨k, env, s, j, e⟩ <;> rw [e] <;> rfl
theorem RC_frz {h : Heap} (hi : HInv cx ok w0 ρ h w) {c : C} {x : Value} (hc : frzOk h c = true) (hr : RC cx ρ (okc ok w0.heap.size h ρ) w c x) : RC cx ρ (okc ok w0.heap.size (h.map (frzB h)) ρ) w (frzC h c) x := by
 have hk : ∀ k, okc ok w0.heap.size h ρ k → okc ok w0.heap.size (h.map (frzB h)) ρ k := fun k hk => ⟨hk.1, fun n hn => by
  exact hk.2 n (frz_some hn)⟩
 have plain : RC cx ρ (okc ok w0.heap.size (h.map (frzB h)) ρ) w c x := by
  cases c with
  | d y => exact RD.ext hr (fun _ _ _ => rfl) (fun k _ => hk k) (Nat.le_refl _)
  | _ => exact hr
 cases c with
 | own n t full off len =>
  cases hl : lk h n with
  | none => simp only [frzC, hl]; exact plain
  | some b =>
   cases b with
   | lp key env s j => simp only [frzC, hl]; exact plain
   | box T cs => simp only [frzC, hl]; exact plain
   | arr T t' l =>
    by_cases e : t' = t
    ·subst e
     simp only [frzOk, hl, if_true] at hc
     simp only [frzC, hl, dite_true]
     refine dem0_ok hi (c := .own n t' full off len) (ks := [n]) (p := true) (d := .sl none full t' (sub l off (off + len))) ?_ rfl ⟨fun m hm => ?_, fun m hm => ?_⟩ hr
     ·simp only [dem0, hl, dite_true, hc]
     ·obtain rfl := List.mem_singleton.1 hm
      rw [lk_frz, hl]; rfl
     ·exact frz_some hm
    ·simp only [frzC, hl, e, dite_false]; exact plain
 | _ => exact plain
theorem RCs_frz {h : Heap} (hi : HInv cx ok w0 ρ h w) {cs : List C} {vs : List Value} (hc : cs.all (frzOk h) = true) (hr : RCs cx ρ (okc ok w0.heap.size h ρ) w cs vs) : RCs cx ρ (okc ok w0.heap.size (h.map (frzB h)) ρ) w (cs.map (frzC h)) vs :=
 ⟨by simpa using hr.1, fun j hj => by
  have hj' : j < cs.length := by simpa using hj
  have e : (cs.map (frzC h)).getD j (.d .nils) = frzC h (cs.getD j (.d .nils)) := by simp [List.getD_eq_getElem?_getD, hj']
  rw [e]
  exact RC_frz hi (List.all_eq_true.1 hc _ (getD_mem hj')) (hr.2 j hj')⟩
theorem RA_frz {h : Heap} (hi : HInv cx ok w0 ρ h w) {g : Bool} {cs : List C} {x : Value} (hc : cs.all (frzOk h) = true) (hr : RA cx ρ (okc ok w0.heap.size h ρ) w (g, cs) x) : RA cx ρ (okc ok w0.heap.size (h.map (frzB h)) ρ) w (g, cs.map (frzC h)) x := by
 cases g with
 | true => obtain ⟨vs, h1, h2⟩ := hr; exact ⟨vs, h1, RCs_frz hi hc h2⟩
 | false =>
  obtain ⟨c, h1, h2⟩ := hr
  subst h1
  exact ⟨_, rfl, RC_frz hi (by simpa using hc) h2⟩
theorem RV_frz {h : Heap} (hi : HInv cx ok w0 ρ h w) {v : V} {x : Value} (hc : frzOkV h v = true) (hr : RV cx ρ (okc ok w0.heap.size h ρ) w v x) : RV cx ρ (okc ok w0.heap.size (h.map (frzB h)) ρ) w (frzV h v) x := by
 cases v with
 | any => trivial
 | v g cs => exact RA_frz hi hc hr
 | tup vs =>
  obtain ⟨xs, h1, h2⟩ := hr
  refine ⟨xs, h1, by simpa using h2.1, fun j hj => ?_⟩
  have hj' : j < vs.length := by simpa using hj
  have := List.all_eq_true.1 hc _ (getD_mem (d := (false, [])) hj')
  have e : (vs.map fun (g, cs) => ((g, cs.map (frzC h)) : Arg)).getD j (false, []) = ((vs.getD j (false, [])).1, (vs.getD j (false, [])).2.map (frzC h)) := by simp [List.getD_eq_getElem?_getD, hj']
  rw [e]
  exact RA_frz hi (g := (vs.getD j (false, [])).1) (cs := (vs.getD j (false, [])).2) this (h2.2 j hj')

theorem turns_freeze (hf : freezeOk st = true) : Turns cx st (freeze st) := by
 unfold freezeOk at hf
 simp only [Bool.and_eq_true] at hf
 obtain ⟨h1, h2⟩ := hf
 refine ⟨rfl, fun h => by show st.fb ≤ (st.heap.map (frzB st.heap)).length; simpa using h, fun ok w0 ρ a w hi hl => ?_⟩
 have hk : ∀ k, okc ok w0.heap.size st.heap ρ k → okc ok w0.heap.size (st.heap.map (frzB st.heap)) ρ k := fun k hk => ⟨hk.1, fun n hn => by
  exact hk.2 n (frz_some hn)⟩
 refine ⟨ρ, ⟨by show a.tmps.size = (st.env.map (frzV st.heap)).length; rw [hi.size]; simp, fun t ht => ?_, fun n b hn => ?_, fun n m b hn hm => ?_, hi.own, fun n hn => hi.fresh n (by have hn : (st.heap.map (frzB st.heap)).length ≤ n := hn; simpa using hn), hi.below⟩, ⟨fun _ _ _ e => e, fun _ _ _ => rfl, fun k _ h => hk k h, fun _ _ => rfl, Nat.le_refl _⟩, fun _ _ => rfl, fun n _ hn => ?_, fun h => by show st.fb ≤ (st.heap.map (frzB st.heap)).length; simpa using h⟩
 ·have ht' : t < st.env.length := by have ht : t < (st.env.map (frzV st.heap)).length := ht; simpa using ht
  have e : (st.env.map (frzV st.heap)).getD t .any = frzV st.heap (st.env.getD t .any) := by simp [List.getD_eq_getElem?_getD, ht']
  show RV cx ρ _ w ((st.env.map (frzV st.heap)).getD t .any) _
  rw [e]
  exact RV_frz hi.hv (List.all_eq_true.1 h1 _ (getD_mem ht')) (hi.env t ht')
 ·have hn : lk (st.heap.map (frzB st.heap)) n = some b := hn
  rcases frz_live (lkh hn) with ⟨T, cs, e⟩ | ⟨key, env, s, j, e⟩
  ·rw [lk_frz, e] at hn
   simp only [frzB, Option.some.injEq] at hn
   subst hn
   obtain ⟨k, vs, q1, q2, q3⟩ := hi.heap n _ e
   refine ⟨k, vs, q1, q2, RCs_frz hi.hv ?_ q3⟩
   have := List.all_eq_true.1 h2 _ (getD_mem (d := none) (lk_lt (lkh e)))
   have e2 : st.heap.getD n none = some (.box T cs) := e
   rw [e2] at this; exact this
  ·rw [lk_frz, e] at hn
   simp only [frzB, Option.some.injEq] at hn
   subst hn
   obtain ⟨k, r, q1, q2, q3, q4, q5⟩ := hi.heap n _ e
   have hall : env.all (frzOkV st.heap) = true := by
    have := List.all_eq_true.1 h2 _ (getD_mem (d := none) (lk_lt (lkh e)))
    have e2 : st.heap.getD n none = some (.lp key env s j) := e
    rw [e2] at this; exact this
   refine ⟨k, r, q1, q2, by simpa using q3, fun t ht => ?_, q5⟩
   have ht' : t < env.length := by simpa using ht
   have e3 : (env.map (frzV st.heap)).getD t .any = frzV st.heap (env.getD t .any) := by simp [List.getD_eq_getElem?_getD, ht']
   rw [e3]
   exact RV_frz hi.hv (List.all_eq_true.1 hall _ (getD_mem ht')) (q4 t ht')
 ·have hn : (lk (st.heap.map (frzB st.heap)) n).isSome = true := hn
  have hm : (lk (st.heap.map (frzB st.heap)) m).isSome = true := hm
  exact hi.inj n m b (frz_some hn) (frz_some hm)
 ·show lk (st.heap.map (frzB st.heap)) n = none
  rw [lk_frz, hn]; rfl
end
end Go.Eng
/- Code. -/
set_option linter.unusedVariables false
set_option linter.unusedSimpArgs false
namespace Go.Eng
open Go Go.RowKit

section
variable {P : Program} {cx : Cx} {ok : Nat → Prop} {w0 : World} {ρ : Rho} {st st' : St} {a : Act} {w : World}

theorem lk_push (h : Heap) (b : Option Blk) (n : Nat) : lk (h ++ [b]) n = if n = h.length then b else lk h n := by
 unfold lk
 rw [List.getD_eq_getElem?_getD, List.getD_eq_getElem?_getD, List.getElem?_append]
 by_cases h1 : n < h.length
 ·rw [if_pos h1, if_neg (by omega)]
 ·rw [if_neg h1]
  by_cases h2 : n = h.length
  ·subst h2; simp
  ·rw [if_neg h2, List.getElem?_eq_none (by simp; omega), List.getElem?_eq_none (by omega)]

theorem turns_push (T : TypeId) (t : ET) : ∀ (ok : Nat → Prop) (w0 : World) (ρ : Rho) (a : Act) (w : World), Inv cx ok w0 ρ st a w →
    Inv cx ok w0 ρ ⟨st.env, st.heap ++ [some (.arr T t [])], st.fb⟩ a w ∧ (∀ k, okc ok w0.heap.size st.heap ρ k ↔ okc ok w0.heap.size (st.heap ++ [some (.arr T t [])]) ρ k) := by
 intro ok w0 ρ a w hi
 have hn0 : ρ st.heap.length = none := hi.fresh _ (Nat.le_refl _)
 have hlive : ∀ n, n ≠ st.heap.length → lk (st.heap ++ [some (.arr T t [])]) n = lk st.heap n := fun n hn => by rw [lk_push, if_neg hn]
 have he : ∀ k, okc ok w0.heap.size st.heap ρ k ↔ okc ok w0.heap.size (st.heap ++ [some (.arr T t [])]) ρ k := fun k => by
  constructor
  ·refine fun h => ⟨h.1, fun n hn => ?_⟩
   by_cases e : n = st.heap.length
   ·rw [e, hn0]; intro h; cases h
   ·rw [hlive n e] at hn; exact h.2 n hn
  ·refine fun h => ⟨h.1, fun n hn => ?_⟩
   have e : n ≠ st.heap.length := fun e => by have := lk_lt hn; omega
   exact h.2 n (by rw [hlive n e]; exact hn)
 have hx : ∀ N, Ext N (okc ok w0.heap.size st.heap ρ) (okc ok w0.heap.size (st.heap ++ [some (.arr T t [])]) ρ) ρ ρ w w := fun N => ⟨fun _ _ _ e => e, fun _ _ _ => rfl, fun k _ h => (he k).1 h, fun _ _ => rfl, Nat.le_refl _⟩
 refine ⟨⟨hi.size, fun t ht => Ext.all_V hx hi.hv.lt (hi.env t ht), fun n b hn => ?_, fun n m b hn hm h1 h2 => ?_, hi.own, fun n hn => hi.fresh n (by simp at hn; omega), hi.below⟩, he⟩
 ·have hn : lk (st.heap ++ [some (.arr T t [])]) n = some b := hn
  by_cases e : n = st.heap.length
  ·rw [lk_push, if_pos e] at hn; injection hn with hn; subst hn; subst e
   exact .inl ⟨rfl, hn0⟩
  ·rw [hlive n e] at hn
   exact Ext.all_B hx hi.hv.lt (fun _ _ => rfl) (fun h => h) (hi.heap n b hn)
 ·have e1 : n ≠ st.heap.length := fun e => by rw [e, hn0] at h1; cases h1
  have e2 : m ≠ st.heap.length := fun e => by rw [e, hn0] at h2; cases h2
  have hn : (lk (st.heap ++ [some (.arr T t [])]) n).isSome = true := hn
  have hm : (lk (st.heap ++ [some (.arr T t [])]) m).isSome = true := hm
  rw [hlive n e1] at hn; rw [hlive m e2] at hm
  exact hi.inj n m b hn hm h1 h2

theorem lk_det (h : Heap) (n : Nat) (b : Option Blk) (hn : n < h.length) (k : Nat) : lk (h.set n none ++ [b]) k = if k = h.length then b else if k = n then none else lk h k := by
 rw [lk_push, List.length_set]
 by_cases e : k = h.length
 ·rw [if_pos e, if_pos e]
 ·rw [if_neg e, if_neg e]
  by_cases e2 : k = n
  ·subst e2; rw [if_pos rfl, lk_set_same hn]
  ·rw [if_neg e2, lk_set_ne e2]

theorem turns_det {n : Nat} {T : TypeId} {t : ET} {l : List (Ty t)} (hk : lk st.heap n = some (.arr T t l)) (hfb : st.fb ≤ st.heap.length) : ∀ (ok : Nat → Prop) (w0 : World) (ρ : Rho) (a : Act) (w : World), Inv cx ok w0 ρ st a w →
    Inv cx ok w0 (fun k => if k = st.heap.length then ρ n else ρ k) ⟨st.env, st.heap.set n none ++ [some (.arr T t l)], st.fb⟩ a w ∧
     Goes ok w0.heap.size st.fb ρ st.heap w (fun k => if k = st.heap.length then ρ n else ρ k) (st.heap.set n none ++ [some (.arr T t l)]) w := by
 intro ok w0 ρ a w hi
 have hlt : n < st.heap.length := lk_lt (lkh hk)
 have hn0 : ρ st.heap.length = none := hi.fresh _ (Nat.le_refl _)
 have hl := lk_det st.heap n (some (.arr T t l)) hlt
 have hle : ∀ m, (lk st.heap m).isSome = true → m ≠ st.heap.length := fun m hm e => by have := lk_lt hm; omega
 have he : ∀ k, okc ok w0.heap.size st.heap ρ k ↔ okc ok w0.heap.size (st.heap.set n none ++ [some (.arr T t l)]) (fun k => if k = st.heap.length then ρ n else ρ k) k := fun k => by
  constructor
  ·refine fun h => ⟨h.1, fun m hm => ?_⟩
   rw [hl] at hm
   try dsimp only
   by_cases e : m = st.heap.length
   ·rw [if_pos e]; exact h.2 n (by rw [hk]; rfl)
   ·rw [if_neg e] at hm ⊢
    by_cases e2 : m = n
    ·rw [if_pos e2] at hm; cases hm
    ·rw [if_neg e2] at hm; exact h.2 m hm
  ·refine fun h => ⟨h.1, fun m hm => ?_⟩
   by_cases e2 : m = n
   ·have := h.2 st.heap.length (by rw [hl, if_pos rfl]; rfl)
    try dsimp only at this
    rw [if_pos rfl] at this
    rw [e2]; exact this
   ·have := h.2 m (by rw [hl, if_neg (hle m hm), if_neg e2]; exact hm)
    try dsimp only at this
    rw [if_neg (hle m hm)] at this
    exact this
 have hx : ∀ N, Ext N (okc ok w0.heap.size st.heap ρ) (okc ok w0.heap.size (st.heap.set n none ++ [some (.arr T t l)]) (fun k => if k = st.heap.length then ρ n else ρ k)) ρ (fun k => if k = st.heap.length then ρ n else ρ k) w w := fun N =>
  ⟨fun m b _ e => by
   try dsimp only
   by_cases e2 : m = st.heap.length
   ·rw [e2, hn0] at e; cases e
   ·rw [if_neg e2]; exact e, fun _ _ _ => rfl, fun k _ h => (he k).1 h, fun _ _ => rfl, Nat.le_refl _⟩
 refine ⟨⟨hi.size, fun t ht => Ext.all_V hx hi.hv.lt (hi.env t ht), fun m b hm => ?_, fun m1 m2 b hm1 hm2 h1 h2 => ?_, fun m b hm => ?_, fun m hm => ?_, hi.below⟩, ⟨hx _, ⟨fun m hm => ?_, fun m hm hd => ?_, fun h => by simp; omega⟩⟩⟩
 ·have hm : lk (st.heap.set n none ++ [some (.arr T t l)]) m = some b := hm
  rw [hl] at hm
  by_cases e : m = st.heap.length
  ·rw [if_pos e] at hm; injection hm with hm; subst hm; subst e
   have hb := hi.heap n _ hk
   rcases hb with ⟨q1, q2⟩ | ⟨b0, vs, q1, q2, q3, q4⟩
   ·exact .inl ⟨q1, by (try dsimp only); rw [if_pos rfl]; exact q2⟩
   ·refine .inr ⟨b0, vs, by (try dsimp only); rw [if_pos rfl]; exact q1, q2, q3, fun i j hi' hj => ?_⟩
    exact (q4 i j hi' hj).ext (fun _ _ _ => rfl) (fun k _ h => (he k).1 h) (Nat.le_refl _)
  ·rw [if_neg e] at hm
   by_cases e2 : m = n
   ·rw [if_pos e2] at hm; cases hm
   ·rw [if_neg e2] at hm
    exact Ext.all_B hx hi.hv.lt (fun _ _ => rfl) (fun h => by (try dsimp only); rw [if_neg e]; exact h) (hi.heap m b hm)
 ·have hm1 : (lk (st.heap.set n none ++ [some (.arr T t l)]) m1).isSome = true := hm1
  have hm2 : (lk (st.heap.set n none ++ [some (.arr T t l)]) m2).isSome = true := hm2
  rw [hl] at hm1 hm2
  try dsimp only at h1 h2
  have hks : (lk st.heap n).isSome = true := by rw [hk]; rfl
  by_cases e1 : m1 = st.heap.length
  ·by_cases e2 : m2 = st.heap.length
   ·rw [e1, e2]
   ·rw [if_neg e2] at hm2 h2
    rw [if_pos e1] at h1
    by_cases e3 : m2 = n
    ·rw [if_pos e3] at hm2; cases hm2
    ·rw [if_neg e3] at hm2
     exact absurd (hi.inj n m2 b hks hm2 h1 h2).symm e3
  ·rw [if_neg e1] at hm1 h1
   by_cases e3 : m1 = n
   ·rw [if_pos e3] at hm1; cases hm1
   ·rw [if_neg e3] at hm1
    by_cases e2 : m2 = st.heap.length
    ·rw [if_pos e2] at h2
     exact absurd (hi.inj m1 n b hm1 hks h1 h2) e3
    ·rw [if_neg e2] at hm2 h2
     by_cases e4 : m2 = n
     ·rw [if_pos e4] at hm2; cases hm2
     ·rw [if_neg e4] at hm2
      exact hi.inj m1 m2 b hm1 hm2 h1 h2
 ·try dsimp only at hm
  by_cases e : m = st.heap.length
  ·rw [if_pos e] at hm; exact hi.own n b hm
  ·rw [if_neg e] at hm; exact hi.own m b hm
 ·have hm : (st.heap.set n none ++ [some (Blk.arr T t l)]).length ≤ m := hm
  have hm : st.heap.length + 1 ≤ m := by simpa using hm
  try dsimp only
  rw [if_neg (by omega)]; exact hi.fresh m (by omega)
 ·try dsimp only
  rw [if_neg (by omega)]
 ·rw [hl, if_neg (by omega)]
  by_cases e2 : m = n
  ·rw [if_pos e2]
  ·rw [if_neg e2]; exact hd

theorem acc_refine {s : Nat} {j : Option Nat} {c c' : C} (hg : accGet st s j = some c) (hs : accSet st s j c' = some st') (hi : Inv cx ok w0 ρ st a w)
    (hr : ∀ x, RC cx ρ (okc ok w0.heap.size st.heap ρ) w c x → RC cx ρ (okc ok w0.heap.size st.heap ρ) w c' x) : Inv cx ok w0 ρ st' a w ∧ Goes ok w0.heap.size st.fb ρ st.heap w ρ st'.heap w := by
 unfold accGet at hg
 split at hg
 ·rename_i c0 hv
  by_cases hs1 : 1000 ≤ s
  ·rw [if_pos hs1] at hg; cases hg
  rw [if_neg hs1] at hg
  injection hg with hg; subst hg
  simp only [accSet, hv, if_neg hs1] at hs
  injection hs with hs; subst hs
  have hv : st.env.getD s .any = .v false [c0] := by unfold slotV at hv; rw [if_neg hs1] at hv; exact hv
  refine ⟨⟨by simp [hi.size], fun t ht => ?_, hi.heap, hi.inj, hi.own, hi.fresh, hi.below⟩, Goes.refl _ _ _ _ _ _⟩
  have hl : t < st.env.length := by simpa using ht
  by_cases e : s = t
  ·subst e
   have e1 : (st.env.set s (.v false [c'])).getD s .any = .v false [c'] := by simp [List.getD_eq_getElem?_getD, hl]
   show RV cx ρ _ w ((st.env.set s (.v false [c'])).getD s .any) _
   rw [e1]
   have := hi.env s hl
   rw [hv] at this
   exact RV_of_c (hr _ (RV_c this))
  ·have e1 : (st.env.set s (.v false [c'])).getD t .any = st.env.getD t .any := by simp [List.getD_eq_getElem?_getD, List.getElem?_set, e]
   show RV cx ρ _ w ((st.env.set s (.v false [c'])).getD t .any) _
   rw [e1]; exact hi.env t hl
 ·rename_i n o j hv
  split at hg
  ·rename_i B cs hk
   simp only [accSet, hv, hk] at hs
   injection hs with hs; subst hs
   have hnl := lk_lt (lkh hk)
   have hlive : ∀ m, (lk (st.heap.set n (some (.box B (cs.set (o + j) c')))) m).isSome = (lk st.heap m).isSome := fun m => by
    by_cases e : m = n
    ·subst e; rw [lk_set_same hnl, hk]; rfl
    ·rw [lk_set_ne e]
   have he : ∀ k, okc ok w0.heap.size st.heap ρ k ↔ okc ok w0.heap.size (st.heap.set n (some (.box B (cs.set (o + j) c')))) ρ k := fun k => by
    unfold okc; simp only [hlive]
   have hx : ∀ N, Ext N (okc ok w0.heap.size st.heap ρ) (okc ok w0.heap.size (st.heap.set n (some (.box B (cs.set (o + j) c')))) ρ) ρ ρ w w := fun N => ⟨fun _ _ _ e => e, fun _ _ _ => rfl, fun k _ h => (he k).1 h, fun _ _ => rfl, Nat.le_refl _⟩
   refine ⟨⟨hi.size, fun t ht => Ext.all_V hx hi.hv.lt (hi.env t ht), fun m b hm => ?_, fun m1 m2 b hm1 hm2 => ?_, hi.own, fun m hm => hi.fresh m (by simpa using hm), hi.below⟩, ⟨hx _, ⟨fun _ _ => rfl, fun m _ hm => ?_, fun h => by simpa using h⟩⟩⟩
   ·have hm : lk (st.heap.set n (some (.box B (cs.set (o + j) c')))) m = some b := hm
    by_cases e : m = n
    ·subst e
     rw [lk_set_same hnl] at hm
     injection hm with hm; subst hm
     obtain ⟨b, vs, q1, q2, q3⟩ := hi.heap m _ hk
     refine Ext.all_B hx hi.hv.lt (fun _ _ => rfl) (fun h => h) (show RB cx ρ (okc ok w0.heap.size st.heap ρ) w m (.box B (cs.set (o + j) c')) from ⟨b, vs, q1, q2, by simpa using q3.1, fun q hq => ?_⟩)
     have hq' : q < cs.length := by simpa using hq
     by_cases e2 : o + j = q
     ·subst e2
      have e3 : (cs.set (o + j) c').getD (o + j) (.d .nils) = c' := by simp [List.getD_eq_getElem?_getD, hq']
      rw [e3]
      have h4 := q3.2 (o + j) hq'
      have e5 : cs.getD (o + j) (.d .nils) = c := by rw [List.getD_eq_getElem?_getD, hg]; rfl
      rw [e5] at h4
      exact hr _ h4
     ·have e3 : (cs.set (o + j) c').getD q (.d .nils) = cs.getD q (.d .nils) := by simp [List.getD_eq_getElem?_getD, List.getElem?_set, e2]
      rw [e3]; exact q3.2 q hq'
    ·rw [lk_set_ne e] at hm
     exact Ext.all_B hx hi.hv.lt (fun _ _ => rfl) (fun h => h) (hi.heap m b hm)
   ·have hm1 : (lk (st.heap.set n (some (.box B (cs.set (o + j) c')))) m1).isSome = true := hm1
    have hm2 : (lk (st.heap.set n (some (.box B (cs.set (o + j) c')))) m2).isSome = true := hm2
    rw [hlive] at hm1 hm2
    exact hi.inj m1 m2 b hm1 hm2
   ·show lk (st.heap.set n (some (.box B (cs.set (o + j) c')))) m = none
    have := hlive m
    rw [hm] at this
    cases h : lk (st.heap.set n (some (.box B (cs.set (o + j) c')))) m with
    | none => rfl
    | some b => rw [h] at this; cases this
  ·cases hg
 ·cases hg

theorem acc_fb {s : Nat} {j : Option Nat} {c : C} (hs : accSet st s j c = some st') : st'.fb = st.fb ∧ st'.heap.length = st.heap.length := by
 unfold accSet at hs
 split at hs
 ·split at hs
  ·cases hs
  ·injection hs with hs; subst hs; exact ⟨rfl, rfl⟩
 ·split at hs
  ·injection hs with hs; subst hs; exact ⟨rfl, by simp⟩
  ·cases hs
 ·cases hs

theorem accGet_push {s : Nat} {j : Option Nat} {c : C} {b : Option Blk} (hg : accGet st s j = some c) : accGet ⟨st.env, st.heap ++ [b], st.fb⟩ s j = some c := by
 unfold accGet at hg ⊢
 split at hg
 ·rename_i hv; simp only [hv]; exact hg
 ·rename_i n o j hv
  simp only [hv]
  split at hg
  ·rename_i B cs hk
   have : n ≠ st.heap.length := fun e => by have := lk_lt (lkh hk); omega
   rw [lk_push, if_neg this, hk]; exact hg
  ·cases hg
 ·cases hg

theorem turns_begin : ∀ (as : List (Nat × Option Nat × ET × TypeId)) (st st' : St), begin_ as st = some st' → Turns cx st st'
 | [], st, st', h => by simp only [begin_] at h; injection h with h; subst h; exact Turns.refl
 | (s, j, t, T) :: r, st, st', h => by
  simp only [begin_] at h
  split at h
  ·cases h
  ·rename_i c hg
   split at h
   ·cases h
   ·rename_i c' h' hp
    split at h
    ·cases h
    ·rename_i st1 hs
     refine Turns.trans ?_ (turns_begin r st1 st' h)
     have push : c' = .own st.heap.length t true 0 0 → h' = st.heap ++ [some (.arr T t [])] → (∀ ok ρ w x, RC cx ρ ok w c x → ∃ A, x = .slice A 0 0) → Turns cx st st1 := fun e1 e2 hz => by
      subst e1; subst e2
      obtain ⟨f1, f2⟩ := acc_fb hs
      refine ⟨f1, fun hl => by rw [f2]; simp; omega, fun ok w0 ρ a w hi hl => ?_⟩
      obtain ⟨i1, i2⟩ := turns_push (st := st) T t ok w0 ρ a w hi
      obtain ⟨k1, k2⟩ := acc_refine (accGet_push hg) hs i1 (fun x hx => by
       obtain ⟨A, rfl⟩ := hz _ _ _ _ hx
       exact ⟨A, 0, rfl, Nat.le_refl _, fun _ => rfl, fun h => absurd rfl h⟩)
      refine ⟨ρ, k1, Goes.trans ⟨⟨fun _ _ _ e => e, fun _ _ _ => rfl, fun k _ h => (i2 k).1 h, fun _ _ => rfl, Nat.le_refl _⟩, ⟨fun _ _ => rfl, fun n hn hd => ?_, fun h => by simp; omega⟩⟩ k2⟩
      rw [lk_push, if_neg (by omega)]; exact hd
     unfold promote at hp
     split at hp
     ·injection hp with hp; injection hp with e1 e2
      exact push e1.symm e2.symm (fun ok ρ w x hx => by cases hx; exact ⟨none, rfl⟩)
     ·rename_i nl full t' l
      split at hp
      ·rename_i hc
       injection hp with hp; injection hp with e1 e2
       simp only [Bool.and_eq_true] at hc
       have hl : l = [] := by simpa using hc.2
       refine push e1.symm e2.symm (fun ok ρ w x hx => ?_)
       subst hl
       cases hx with
       | sl0 _ _ _ A cap q1 q2 q3 q4 => rw [q3 hc.1.2]; exact ⟨A, rfl⟩
       | sl _ _ _ _ b off cap vs h0 => exact absurd rfl h0
      ·cases hp
     ·split at hp
      ·split at hp
       ·rename_i n t' full off len _ _ T2 t2 l hk
        injection hp with hp; injection hp with e1 e2; subst e1; subst e2
        have hlt : n < st.heap.length := lk_lt (lkh hk)
        obtain ⟨f1, f2⟩ := acc_fb hs
        refine ⟨f1, fun hl => by rw [f2]; simp; omega, fun ok w0 ρ a w hi hl => ?_⟩
        obtain ⟨i1, i2⟩ := turns_det hk hl ok w0 ρ a w hi
        have hg' : accGet ⟨st.env, st.heap.set n none ++ [some (.arr T2 t2 l)], st.fb⟩ s j = some (.own n t' full off len) := by
         unfold accGet at hg ⊢
         split at hg
         ·rename_i hv; simp only [hv]; exact hg
         ·rename_i n' o j hv
          simp only [hv]
          split at hg
          ·rename_i B cs hk'
           have h1 : n' ≠ st.heap.length := fun e => by have := lk_lt (lkh hk'); omega
           have h2 : n' ≠ n := fun e => by rw [e, hk] at hk'; injection hk' with hk'; cases hk'
           rw [lk_det _ _ _ hlt, if_neg h1, if_neg h2, hk']; exact hg
          ·cases hg
         ·cases hg
        obtain ⟨k1, k2⟩ := acc_refine hg' hs i1 (fun x hx => by
         obtain ⟨A, cap, q1, q2, q3, q4⟩ := hx
         refine ⟨A, cap, q1, q2, q3, fun h => ?_⟩
         obtain ⟨b, q5, q6⟩ := q4 h
         dsimp only at q5
         rw [if_neg (by omega)] at q5
         exact ⟨b, by dsimp only; rw [if_pos rfl]; exact q5, q6⟩)
        exact ⟨_, k1, i2.trans k2⟩
       ·cases hp
      ·injection hp with hp; injection hp with e1 e2; subst e1; subst e2
       obtain ⟨f1, f2⟩ := acc_fb hs
       refine ⟨f1, fun hl => by rw [f2]; exact hl, fun ok w0 ρ a w hi hl => ?_⟩
       obtain ⟨k1, k2⟩ := acc_refine hg hs hi (fun x hx => hx)
       exact ⟨ρ, k1, k2⟩
     ·cases hp
end
end Go.Eng
/- Code, loops, functions. -/
set_option linter.unusedVariables false
set_option linter.unusedSimpArgs false
namespace Go.Eng
open Go Go.RowKit

def exOf : Ex → Exit
 | .normal => .normal
 | .exit id => .exit id
 | .ret => .ret

section
variable {P : Program} {F : Fence} {n : Nat} {b : Frame} {a : Act} {k : List Item} {cs : List Frame} {w : World} {Q : Exit → Act → World → Prop}
theorem stepR_scope {c : Code} : step P (lone (b.atR a (.code (.scope c) :: k)) cs w) = .next (lone (b.atR a (.code c :: .inScope c :: k)) cs w) :=
 step_lone_go (by simp [stepG, stepG.exec, Frame.atR])
theorem stepR_inScope {c : Code} : step P (lone (b.atR a (.inScope c :: k)) cs w) = .next (lone (b.atR a k) cs w) :=
 step_lone_go (by simp [stepG, stepG.exec, Frame.atR])
theorem wpIn_scope_straight {c : Code} (h : c.wpIn F n P (Exit.noGoto Q) a w) : (Code.scope c).wpIn F n P Q a w := by
 intro b k cs hro hb hr
 have h0 : (lone (b.atR a (.code (.scope c) :: k)) cs w).fenced P F := fenced_calm hb hr rfl
 obtain ⟨e, a₁, w₁, hq, harr⟩ := h b (.inScope c :: k) cs hro hb hr
 cases e with
 | normal => exact ⟨.normal, a₁, w₁, hq, .head h0 stepR_scope (StepsIn.trans harr (.one (fenced_calm hb hr rfl) stepR_inScope))⟩
 | exit id =>
  have hx : exitTo id (.inScope c :: k) = exitTo id k := by simp [exitTo]
  exact ⟨_, a₁, w₁, hq, fun k' hk => .head h0 stepR_scope (harr.1 k' (by rw [hx]; exact hk)), fun hr' hk => let ⟨k₁, h1, h2⟩ := harr.2 hr' (by rw [hx]; exact hk); ⟨k₁, h1, .head h0 stepR_scope h2⟩⟩
 | goto l => exact hq.elim
 | ret => exact ⟨_, a₁, w₁, hq, .of_steps (.one h0 stepR_scope) harr⟩
 | panic ch => exact ⟨_, a₁, w₁, hq, .of_steps (.one h0 stepR_scope) harr⟩
 | outgrown => exact ⟨_, a₁, w₁, hq, .of_steps (.one h0 stepR_scope) harr⟩
end

def mark (D : Nat) : Deferred := { target := .collected D, args := #[] }
def Left (m : Bool) (ok : Nat → Prop) (B0 : Nat) (ρ' : Rho) (h' : Heap) (w w' : World) (a a' : Act) : Prop :=
 ∃ Ds : List Nat, a'.defers = Ds.map mark ++ a.defers ∧ (m = false → Ds = []) ∧ Ds.Nodup ∧ ∀ D ∈ Ds, w.heap.size ≤ D ∧ D < w'.heap.size ∧ okc ok B0 h' ρ' D ∧ w'.heap[D]? = some (.deferred (some []))
theorem Left.same {m : Bool} {ok : Nat → Prop} {B0 : Nat} {ρ' : Rho} {h' : Heap} {w w' : World} {a a' : Act} (h : a'.defers = a.defers) : Left m ok B0 ρ' h' w w' a a' :=
 ⟨[], h, fun _ => rfl, List.nodup_nil, fun D hD => by cases hD⟩
theorem Left.eq {ok : Nat → Prop} {B0 : Nat} {ρ' : Rho} {h' : Heap} {w w' : World} {a a' : Act} (h : Left false ok B0 ρ' h' w w' a a') : a'.defers = a.defers := by
 obtain ⟨Ds, h1, h2, _⟩ := h
 rw [h2 rfl] at h1; exact h1
theorem Left.trans {m : Bool} {ok : Nat → Prop} {B0 fb : Nat} {r1 r2 : Rho} {h1 h2 : Heap} {w w1 w2 : World} {a a1 a2 : Act} (x : Left m ok B0 r1 h1 w w1 a a1) (y : Left m ok B0 r2 h2 w1 w2 a1 a2) (g : Goes ok B0 fb r1 h1 w1 r2 h2 w2) (hw : w.heap.size ≤ w1.heap.size) : Left m ok B0 r2 h2 w w2 a a2 := by
 obtain ⟨D1, x1, x2, x3, x4⟩ := x
 obtain ⟨D2, y1, y2, y3, y4⟩ := y
 refine ⟨D2 ++ D1, by rw [y1, x1]; simp, fun h => by rw [x2 h, y2 h]; rfl, List.nodup_append.2 ⟨y3, x3, fun d h1 e h2 he => ?_⟩, fun D hD => ?_⟩
 ·have := (y4 d h1).1; have := (x4 e h2).2.1; omega
 ·rcases List.mem_append.1 hD with h | h
  ·obtain ⟨q1, q2, q3, q4⟩ := y4 D h; exact ⟨Nat.le_trans hw q1, q2, q3, q4⟩
  ·obtain ⟨q1, q2, q3, q4⟩ := x4 D h
   exact ⟨q1, Nat.lt_of_lt_of_le q2 g.ext.size, g.ext.okk D q2 q3, (g.ext.cell D q2 q3).trans q4⟩

def Lands (P : Program) (cx : Cx) (m : Bool) (c : Code) (st : St) (e : Ex) (st' : St) : Prop :=
 st'.fb = st.fb ∧ ∀ (ok : Nat → Prop) (w0 : World) (ρ : Rho) (a : Act) (w : World) (Q : Exit → Act → World → Prop), Inv cx ok w0 ρ st a w → st.fb ≤ st.heap.length →
  (∀ ρ' a' w', Inv cx ok w0 ρ' st' a' w' → Goes ok w0.heap.size st.fb ρ st.heap w ρ' st'.heap w' → Left m ok w0.heap.size ρ' st'.heap w w' a a' → Q (exOf e) a' w') → ∀ r, (m = true → r = none) → c.wpIn (FW r) 0 P Q a w

def Circles (P : Program) (cx : Cx) (body : Code) (st : St) (e : Ex) (st' : St) : Prop :=
 st'.fb = st.fb ∧ ∃ m, ∀ (ok : Nat → Prop) (w0 : World) (ρ : Rho) (a : Act) (w : World) (Q : Exit → Act → World → Prop), Inv cx ok w0 ρ st a w → st.fb ≤ st.heap.length →
  (∀ ρ' a' w', Inv cx ok w0 ρ' st' a' w' → Goes ok w0.heap.size st.fb ρ st.heap w ρ' st'.heap w' → a'.defers = a.defers → Q (exOf e) a' w') → ∀ r, Code.roundsIn (FW r) 0 P body Q m a w

def loopsOf : Code → List Code
 | .loop p => [p]
 | .seq a b | .cond _ a b => loopsOf a ++ loopsOf b
 | .block _ a | .scope a => loopsOf a
 | _ => []
structure RF where
 g : Operand
 ps : Array Tmp
 asg : Code
 body : Code
def rfsOf : Code → List RF
 | .rangeFunc g ps asg body => [⟨g, ps, asg, body⟩]
 | .seq a b | .cond _ a b => rfsOf a ++ rfsOf b
 | .block _ a | .scope a => rfsOf a
 | _ => []

structure HdOk {X : Type} (P : Program) (cx : Cx) (m : Bool) (hd : Hd (Option X)) (B : Code → Prop) (G : RF → Prop) : Prop where
 cl : ∀ fn f as h K (x : X), hd.cl fn f as h K = some x → ∃ rs h', ClSem P cx fn f as h rs h' ∧ K rs h' = some x
 lp : ∀ f body hs base st K (x : X), B body → hd.lp f body hs base st K = some x → ∃ e st', Circles P cx body st e st' ∧ K e st' = some x
 rf : ∀ f q st K (x : X), G q → hd.rf f q.g q.body st K = some x → ∃ e st', Lands P cx m (.rangeFunc q.g q.ps q.asg q.body) st e st' ∧ K e st' = some x

section
variable {P : Program} {cx : Cx} {m : Bool} {st st' : St}

theorem Goes.size {ok : Nat → Prop} {B0 fb : Nat} {r1 r2 : Rho} {h1 h2 : Heap} {w1 w2 : World} (g : Goes ok B0 fb r1 h1 w1 r2 h2 w2) : w1.heap.size ≤ w2.heap.size := g.ext.size

theorem Turns.lands {s1 s2 : St} {c : Code} {e : Ex} (x : Turns cx st s1) (y : Lands P cx m c s1 e s2) : Lands P cx m c st e s2 := by
 refine ⟨y.1.trans x.1, fun ok w0 ρ a w Q hi hl hQ => ?_⟩
 obtain ⟨ρ1, i1, g1⟩ := x.2.2 ok w0 ρ a w hi hl
 refine y.2 ok w0 ρ1 a w Q i1 (by rw [x.1]; exact x.2.1 hl) (fun ρ' a' w' i2 g2 d2 => hQ ρ' a' w' i2 ?_ d2)
 rw [x.1] at g2
 exact g1.trans g2
theorem Turns.circles {s1 s2 : St} {c : Code} {e : Ex} (x : Turns cx st s1) (y : Circles P cx c s1 e s2) : Circles P cx c st e s2 := by
 obtain ⟨y1, m, y2⟩ := y
 refine ⟨y1.trans x.1, m, fun ok w0 ρ a w Q hi hl hQ => ?_⟩
 obtain ⟨ρ1, i1, g1⟩ := x.2.2 ok w0 ρ a w hi hl
 refine y2 ok w0 ρ1 a w Q i1 (by rw [x.1]; exact x.2.1 hl) (fun ρ' a' w' i2 g2 d2 => hQ ρ' a' w' i2 ?_ d2)
 rw [x.1] at g2
 exact g1.trans g2
theorem Circles.lands {c : Code} {e : Ex} (y : Circles P cx c st e st') : Lands P cx m (.loop c) st e st' := by
 obtain ⟨y1, k, y2⟩ := y
 exact ⟨y1, fun ok w0 ρ a w Q hi hl hQ r _ => wpIn_loop_rounds k (y2 ok w0 ρ a w Q hi hl (fun ρ' a' w' i g d => hQ ρ' a' w' i g (Left.same d)) r)⟩

theorem Lands.seq {x y : Code} {s1 s2 : St} {e : Ex} (h1 : Lands P cx m x st .normal s1) (h2 : Lands P cx m y s1 e s2) : Lands P cx m (.seq x y) st e s2 := by
 refine ⟨h2.1.trans h1.1, fun ok w0 ρ a w Q hi hl hQ r hr => wpIn_seq (h1.2 ok w0 ρ a w _ hi hl (fun ρ1 a1 w1 i1 g1 d1 => ?_) r hr)⟩
 have hl1 : s1.fb ≤ s1.heap.length := by rw [h1.1]; exact g1.grow.len hl
 refine h2.2 ok w0 ρ1 a1 w1 Q i1 hl1 (fun ρ' a' w' i2 g2 d2 => hQ ρ' a' w' i2 ?_ (d1.trans d2 g2 g1.size)) r hr
 rw [h1.1] at g2
 exact g1.trans g2
theorem Lands.seq_out {x y : Code} {s1 : St} {e : Ex} (he : e ≠ .normal) (h1 : Lands P cx m x st e s1) : Lands P cx m (.seq x y) st e s1 := by
 refine ⟨h1.1, fun ok w0 ρ a w Q hi hl hQ r hr => wpIn_seq (h1.2 ok w0 ρ a w _ hi hl (fun ρ1 a1 w1 i1 g1 d1 => ?_) r hr)⟩
 have := hQ ρ1 a1 w1 i1 g1 d1
 cases e with
 | normal => exact absurd rfl he
 | exit id => exact this
 | ret => exact this

theorem code_adq {X : Type} {hd : Hd (Option X)} {B : Code → Prop} {G : RF → Prop} (hcx : CxOk P cx) (hga : GaOk P cx) (hH : HdOk P cx m hd B G) (f : FuncId) : ∀ (c : Code) (st : St) (K : Ex → St → Option X) (x : X), (∀ p ∈ loopsOf c, B p) → (∀ q ∈ rfsOf c, G q) → evCode cx hd none f c st K = some x → ∃ e st', Lands P cx m c st e st' ∧ K e st' = some x
 | .skip, st, K, x, hB, hG, h => ⟨.normal, st, ⟨rfl, fun ok w0 ρ a w Q hi _ hQ r _ => wpIn_skip (hQ ρ a w hi (Goes.refl _ _ _ _ _ _) (Left.same rfl))⟩, h⟩
 | .label l, st, K, x, hB, hG, h => ⟨.normal, st, ⟨rfl, fun ok w0 ρ a w Q hi _ hQ r _ => wpIn_label (hQ ρ a w hi (Goes.refl _ _ _ _ _ _) (Left.same rfl))⟩, h⟩
 | .exit id, st, K, x, hB, hG, h => ⟨.exit id, st, ⟨rfl, fun ok w0 ρ a w Q hi _ hQ r _ => wpIn_exit (hQ ρ a w hi (Goes.refl _ _ _ _ _ _) (Left.same rfl))⟩, h⟩
 | .ret, st, K, x, hB, hG, h => ⟨.ret, st, ⟨rfl, fun ok w0 ρ a w Q hi _ hQ r _ => wpIn_ret (hQ ρ a w hi (Goes.refl _ _ _ _ _ _) (Left.same rfl))⟩, h⟩
 | .region id ops draw, st, K, x, hB, hG, h => by
  simp only [evCode] at h
  have key : ∀ st : St, (evOps cx hd none ops st.heap.length (List.range ops.size) ⟨st.env, st.heap ++ List.replicate ops.size none, st.fb⟩ [] fun st' lg =>
      if draw then cond (notesOk (Region.before ops) lg && orderOk ops (Region.before ops)) (K .normal st') none else K .normal st') = some x → ∃ e st', Lands P cx m (.region id ops draw) st e st' ∧ K e st' = some x := fun st h => by
   obtain ⟨st', ns, h1, h2⟩ := evOps_adq (cl := ClSem P cx) hH.cl _ _ _ _ _ h
   have fin : RegSem cx P ops draw st st' → K .normal st' = some x → ∃ e st', Lands P cx m (.region id ops draw) st e st' ∧ K e st' = some x := fun hr hk =>
    ⟨.normal, st', ⟨(exec_fb _ _ _ _ h1).1, fun ok w0 ρ a w Q hi hl hQ r _ => region_wp hcx hga hr hl hi (fun ρ' a' w' i g d => hQ ρ' a' w' i g (Left.same d))⟩, hk⟩
   cases draw with
   | false => exact fin ⟨ns, h1, fun h => by cases h⟩ h2
   | true =>
    simp only [if_true] at h2
    generalize hb : (notesOk (Region.before ops) (ns.reverse ++ []) && orderOk ops (Region.before ops)) = b at h2
    cases b with
    | false => cases h2
    | true =>
     simp only [List.append_nil, Bool.and_eq_true] at hb
     exact fin ⟨ns, h1, fun _ => hb⟩ h2
  split at h
  ·cases hf : freezeOk st with
   | false => rw [hf] at h; cases h
   | true =>
    rw [hf] at h
    obtain ⟨e, st', h1, h2⟩ := key (freeze st) h
    exact ⟨e, st', (turns_freeze hf).lands h1, h2⟩
  ·exact key st h
 | .seq p q, st, K, x, hB, hG, h => by
  simp only [evCode] at h
  obtain ⟨e, s1, h1, h2⟩ := code_adq hcx hga hH f p st _ x (fun r hr => hB r (List.mem_append.2 (.inl hr))) (fun r hr => hG r (List.mem_append.2 (.inl hr))) h
  cases e with
  | normal =>
   obtain ⟨e2, s2, h3, h4⟩ := code_adq hcx hga hH f q s1 _ x (fun r hr => hB r (List.mem_append.2 (.inr hr))) (fun r hr => hG r (List.mem_append.2 (.inr hr))) h2
   exact ⟨e2, s2, h1.seq h3, h4⟩
  | exit id => exact ⟨.exit id, s1, h1.seq_out (by intro h; cases h), h2⟩
  | ret => exact ⟨.ret, s1, h1.seq_out (by intro h; cases h), h2⟩
 | .cond c p q, st, K, x, hB, hG, h => by
  simp only [evCode] at h
  split at h
  ·rename_i t ht
   cases t with
   | true =>
    obtain ⟨e, s1, h1, h2⟩ := code_adq hcx hga hH f p st _ x (fun r hr => hB r (List.mem_append.2 (.inl hr))) (fun r hr => hG r (List.mem_append.2 (.inl hr))) h
    exact ⟨e, s1, ⟨h1.1, fun ok w0 ρ a w Q hi hl hQ r hr => wpIn_cond_true (op_sc hi ht) (h1.2 ok w0 ρ a w Q hi hl hQ r hr)⟩, h2⟩
   | false =>
    obtain ⟨e, s1, h1, h2⟩ := code_adq hcx hga hH f q st _ x (fun r hr => hB r (List.mem_append.2 (.inr hr))) (fun r hr => hG r (List.mem_append.2 (.inr hr))) h
    exact ⟨e, s1, ⟨h1.1, fun ok w0 ρ a w Q hi hl hQ r hr => wpIn_cond_false (op_sc hi ht) (h1.2 ok w0 ρ a w Q hi hl hQ r hr)⟩, h2⟩
  ·cases h
 | .block id p, st, K, x, hB, hG, h => by
  simp only [evCode] at h
  obtain ⟨e, s1, h1, h2⟩ := code_adq hcx hga hH f p st _ x (fun r hr => hB r hr) (fun r hr => hG r hr) h
  cases e with
  | normal => exact ⟨.normal, s1, ⟨h1.1, fun ok w0 ρ a w Q hi hl hQ r hr => wpIn_block (h1.2 ok w0 ρ a w (Exit.inBlock id Q) hi hl (fun ρ' a' w' i1 g1 d1 => hQ ρ' a' w' i1 g1 d1) r hr)⟩, h2⟩
  | ret => exact ⟨.ret, s1, ⟨h1.1, fun ok w0 ρ a w Q hi hl hQ r hr => wpIn_block (h1.2 ok w0 ρ a w (Exit.inBlock id Q) hi hl (fun ρ' a' w' i1 g1 d1 => hQ ρ' a' w' i1 g1 d1) r hr)⟩, h2⟩
  | exit i =>
   simp only at h2
   by_cases e : i = id
   ·subst e
    rw [if_pos (beq_self_eq_true i)] at h2
    refine ⟨.normal, s1, ⟨h1.1, fun ok w0 ρ a w Q hi hl hQ r hr => wpIn_block (h1.2 ok w0 ρ a w _ hi hl (fun ρ' a' w' i1 g1 d1 => ?_) r hr)⟩, h2⟩
    show Exit.inBlock i Q (.exit i) a' w'
    simp only [Exit.inBlock, if_true]
    exact hQ ρ' a' w' i1 g1 d1
   ·rw [if_neg (by simpa using e)] at h2
    refine ⟨.exit i, s1, ⟨h1.1, fun ok w0 ρ a w Q hi hl hQ r hr => wpIn_block (h1.2 ok w0 ρ a w _ hi hl (fun ρ' a' w' i1 g1 d1 => ?_) r hr)⟩, h2⟩
    show Exit.inBlock id Q (.exit i) a' w'
    simp only [Exit.inBlock, if_neg e]
    exact hQ ρ' a' w' i1 g1 d1
 | .scope p, st, K, x, hB, hG, h => by
  simp only [evCode] at h
  obtain ⟨e, s1, h1, h2⟩ := code_adq hcx hga hH f p st _ x (fun r hr => hB r hr) (fun r hr => hG r hr) h
  refine ⟨e, s1, ⟨h1.1, fun ok w0 ρ a w Q hi hl hQ r hr => wpIn_scope_straight (h1.2 ok w0 ρ a w _ hi hl (fun ρ' a' w' i1 g1 d1 => ?_) r hr)⟩, h2⟩
  have := hQ ρ' a' w' i1 g1 d1
  cases e <;> exact this
 | .loop p, st, K, x, hB, hG, h => by
  simp only [evCode] at h
  split at h
  ·cases h
  ·rename_i s1 hb
   split at h
   ·rename_i s2 hs hc hh
    obtain ⟨e, s3, h1, h2⟩ := hH.lp _ _ _ _ _ _ _ (hB p (List.mem_singleton.2 rfl)) h
    exact ⟨e, s3, ((turns_begin _ _ _ hb).trans (turns_clean hc)).lands h1.lands, h2⟩
   ·cases h
 | .rangeFunc g ps asg body, st, K, x, hB, hG, h => by
  simp only [evCode] at h
  exact hH.rf f ⟨g, ps, asg, body⟩ st K x (hG _ (List.mem_singleton.2 rfl)) h
 | .goto l, st, K, x, hB, hG, h => by simp [evCode] at h
 | .refuse why, st, K, x, hB, hG, h => by simp [evCode] at h

theorem Lands.circle {c : Code} {s1 s2 s3 : St} {e : Ex} (h1 : Lands P cx false c st .normal s1) (ht : Turns cx s1 s2) (h2 : Circles P cx c s2 e s3) : Circles P cx c st e s3 := by
 obtain ⟨y1, m, y2⟩ := ht.circles h2
 refine ⟨y1.trans h1.1, m + 1, fun ok w0 ρ a w Q hi hl hQ r => ?_⟩
 rw [roundsIn_succ]
 refine h1.2 ok w0 ρ a w _ hi hl (fun ρ1 a1 w1 i1 g1 d1 => ?_) r (by intro h; cases h)
 have hl1 : s1.fb ≤ s1.heap.length := by rw [h1.1]; exact g1.grow.len hl
 refine y2 ok w0 ρ1 a1 w1 Q i1 hl1 (fun ρ' a' w' i2 g2 d2 => hQ ρ' a' w' i2 ?_ (d2.trans d1.eq)) r
 rw [h1.1] at g2
 exact g1.trans g2
theorem Lands.last {c : Code} {s1 : St} {e : Ex} (he : e ≠ .normal) (h1 : Lands P cx false c st e s1) : Circles P cx c st e s1 := by
 refine ⟨h1.1, 1, fun ok w0 ρ a w Q hi hl hQ r => ?_⟩
 rw [roundsIn_succ]
 refine h1.2 ok w0 ρ a w _ hi hl (fun ρ1 a1 w1 i1 g1 d1 => ?_) r (by intro h; cases h)
 have := hQ ρ1 a1 w1 i1 g1 d1.eq
 cases e with
 | normal => exact absurd rfl he
 | exit id => exact this
 | ret => exact this
end
end Go.Eng
/- Functions. -/
set_option linter.unusedVariables false
set_option linter.unusedSimpArgs false
namespace Go.Eng
open Go Go.RowKit

def resM (tmps : Array Value) : ResultVar → Sem Value
 | .tmp t => pure (tmps.getD t undef)
 | .cell q t => do loadVar t (← asAddr (tmps.getD q undef))

section
variable {P : Program} {cx : Cx} {ok : Nat → Prop} {w0 : World} {ρ : Rho} {st st' : St} {a : Act} {w : World}

theorem resOf_ok (hcx : CxOk P cx) (hi : Inv cx ok w0 ρ st a w) {r : ResultVar} {T : TypeId} {g : Arg} (h : resOf cx st r T = some g) :
    ∃ x, (resM a.tmps r).run P w = .ok x w ∧ RA cx ρ (okc ok w0.heap.size st.heap ρ) w g x := by
 have at_ : ∀ t v, st.env.getD t .any = v → v ≠ .any → RV cx ρ (okc ok w0.heap.size st.heap ρ) w v (a.tmps.getD t undef) := fun t v hv hne => by
  have hl : t < st.env.length := by
   rcases Nat.lt_or_ge t st.env.length with h1 | h1
   ·exact h1
   ·rw [List.getD_eq_getElem?_getD, List.getElem?_eq_none h1] at hv; exact absurd hv.symm hne
  rw [← hv]; exact hi.env t hl
 cases r with
 | tmp t =>
  simp only [resOf] at h
  split at h
  ·rename_i g' cs hv
   injection h with h; subst h
   exact ⟨_, by simp [resM], at_ t _ hv (by intro h; cases h)⟩
  ·cases h
 | cell t T' =>
  simp only [resOf] at h
  split at h
  ·rename_i n o i hv hT
   split at h
   ·rename_i B cs hk
    split at h
    ·rename_i hle
     injection h with h; subst h
     have ht := hcx.ty _ _ hT
     obtain ⟨b, hb, he⟩ := RV_c (at_ t _ hv (by intro h; cases h))
     obtain ⟨b', vs, q1, q2, q3⟩ := hi.heap n _ hk
     rw [hb] at q1; injection q1 with q1; subst q1
     have hvl : vs.length = cs.length := q3.1
     have hr := RCs_seg q3 hle
     refine ⟨mkv i.agg (seg vs o i.size), ?_, RA_mkv hr (fun hg => by rw [seg_length hle]; exact ht.one hg)⟩
     have hload := run_loadVar' (w := w) (P := P) ht (b := b) (off := o) (vs := seg vs o i.size) (seg_length (by omega)) (fun j hj => by
      rw [seg_getD (by omega) hj]
      exact cell_of_block q2 (by omega))
     simp [resM, he, asAddr, hload]
    ·cases h
   ·cases h
  ·cases h

theorem resL_ok (hcx : CxOk P cx) (hi : Inv cx ok w0 ρ st a w) : ∀ (rs : List ResultVar) (ts : List TypeId) (gs : List Arg), resL cx st rs ts = some gs →
    ∃ xs : List Value, (rs.mapM (resM a.tmps)).run P w = .ok xs w ∧ RAs cx ρ (okc ok w0.heap.size st.heap ρ) w gs xs
 | [], ts, gs, h => by
  simp only [resL] at h; injection h with h; subst h
  exact ⟨[], by simp, rfl, fun j hj => by simp at hj⟩
 | r :: rs, ts, gs, h => by
  simp only [resL] at h
  split at h
  ·rename_i g gs' h1 h2
   injection h with h; subst h
   obtain ⟨x, e1, r1⟩ := resOf_ok hcx hi h1
   obtain ⟨xs, e2, r2⟩ := resL_ok hcx hi rs _ _ h2
   refine ⟨x :: xs, ?_, by simp [r2.1], fun j hj => ?_⟩
   ·rw [List.mapM_cons, Sem.run_bind, e1]
    simp only [Result.andThen_ok]
    rw [Sem.run_bind, e2]
    simp
   ·cases j with
    | zero => exact r1
    | succ j => simpa using r2.2 j (by simpa using hj)
  ·cases h

theorem valOf_ok {gs : List Arg} {xs : List Value} (h : RAs cx ρ ok w gs xs) : RV cx ρ ok w (valOf gs) (if h : xs.toArray.size = 1 then xs.toArray[0] else .tuple xs.toArray) := by
 match gs, xs, h with
 | [], xs, h => trivial
 | [(g, cs)], [x], h => exact h.2 0 (by simp)
 | [(g, cs)], [], h => have := h.1; simp at this
 | [(g, cs)], x :: y :: r, h => have := h.1; simp at this
 | g1 :: g2 :: r, [], h => have := h.1; simp at this
 | g1 :: g2 :: r, [x], h => have := h.1; simp at this
 | g1 :: g2 :: r, x :: y :: xs, h =>
  rw [dif_neg (by simp)]
  exact ⟨_, rfl, h⟩

theorem run_results (hcx : CxOk P cx) (hi : Inv cx ok w0 ρ st a w) {fn : Func} {gs : List Arg} (h : resL cx st fn.results.toList fn.resultTypes.toList = some gs) :
    ∃ x, (results fn a.tmps).run P w = .ok x w ∧ RV cx ρ (okc ok w0.heap.size st.heap ρ) w (valOf gs) x := by
 obtain ⟨xs, e, r⟩ := resL_ok hcx hi _ _ _ h
 refine ⟨_, ?_, valOf_ok r⟩
 have hres : results fn a.tmps = (do
     let vs ← fn.results.mapM (resM a.tmps)
     pure (if h : vs.size = 1 then vs[0] else .tuple vs)) := by
  unfold results
  congr 1
  first | rfl | skip
  all_goals (first | (congr 1; funext r; cases r <;> rfl) | skip)
 have hm : (fn.results.mapM (resM a.tmps)).run P w = .ok xs.toArray w := by
  rw [Array.mapM_eq_mapM_toList]
  simp only [map_eq_pure_bind]
  rw [Sem.run_bind, e]
  simp
 rw [hres, Sem.run_bind, hm]
 simp

structure Shut (lo : Nat) (w w2 : World) : Prop where
 os : w2.os = w.os
 tape : w2.tape = w.tape
 output : w2.output = w.output
 size : w2.heap.size = w.heap.size
 at_ : ∀ k, w2.heap[k]? = w.heap[k]? ∨ (lo ≤ k ∧ (∃ d, w.heap[k]? = some (.deferred d)) ∧ ∃ d, w2.heap[k]? = some (.deferred d))
theorem Shut.refl (lo : Nat) (w : World) : Shut lo w w := ⟨rfl, rfl, rfl, rfl, fun _ => .inl rfl⟩
theorem Shut.put {lo : Nat} {w w2 : World} (h : Shut lo w w2) {D : Nat} (hD : lo ≤ D) {d : Option (List Deferred)} (hk : w2.heap[D]? = some (.deferred d)) (d' : Option (List Deferred)) : Shut lo w (w2.putObj D (.deferred d')) := by
 have hlt : D < w2.heap.size := (Array.getElem?_eq_some_iff.1 hk).1
 refine ⟨h.os, h.tape, h.output, by rw [World.putObj_size]; exact h.size, fun k => ?_⟩
 by_cases e : k = D
 ·subst e
  refine .inr ⟨hD, ?_, d', World.putObj_heap_same hlt⟩
  rcases h.at_ k with h1 | ⟨_, h1, _⟩
  ·exact ⟨d, h1 ▸ hk⟩
  ·exact h1
 ·rw [World.putObj_heap_other e]; exact h.at_ k
section
variable {lo : Nat} {w2 : World}
theorem Shut.cell (h : Shut lo w w2) (A : Addr) : w2.cell? A = w.cell? A := by
 unfold World.cell?
 rcases h.at_ A.block with h1 | ⟨_, ⟨d, h1⟩, ⟨d', h2⟩⟩
 ·rw [h1]
 ·rw [h1, h2]
theorem Shut.room (h : Shut lo w w2) (b : Nat) : World.roomOf w2 b = World.roomOf w b := by
 unfold World.roomOf
 rcases h.at_ b with h1 | ⟨_, ⟨d, h1⟩, ⟨d', h2⟩⟩
 ·rw [h1]
 ·rw [h1, h2]
theorem Shut.cells (h : Shut lo w w2) {b : Nat} {cs : Array Value} {T : TypeId} {fz : Nat × Nat} (hb : w.heap[b]? = some (.cells cs T fz)) : w2.heap[b]? = some (.cells cs T fz) := by
 rcases h.at_ b with h1 | ⟨_, ⟨d, h1⟩, _⟩
 ·rw [h1]; exact hb
 ·rw [hb] at h1; cases h1
theorem Shut.loop (h : Shut lo w w2) {b : Nat} {r : Loop} (hb : w.heap[b]? = some (.loop r)) : w2.heap[b]? = some (.loop r) := by
 rcases h.at_ b with h1 | ⟨_, ⟨d, h1⟩, _⟩
 ·rw [h1]; exact hb
 ·rw [hb] at h1; cases h1
theorem RD.shut (h : Shut lo w w2) {d : D} {x : Value} (hd : RD cx ok w d x) : RD cx ok w2 d x := by
 induction hd with
 | sc s => exact .sc s
 | nils => exact .nils
 | sl0 nl full t A cap h1 h2 h3 h4 => exact .sl0 nl full t A cap h1 h2 h3 h4
 | sl nl full t l b off cap vs h0 h1 h2 h3 h4 hc hr ih => exact .sl nl full t l b off cap vs h0 h1 h2 h3 h4 (fun i j hi hj => by rw [h.cell]; exact hc i j hi hj) ih
 | fn f first caps a b h1 h2 ha hb iha ihb => exact .fn f first caps a b h1 h2 iha ihb
 | nilI => exact .nilI
 | nilf => exact .nilf
 | one T s h1 => exact .one T s h1
 | val T v h1 => exact .val T v h1
 | ref cs b off vs h1 hb hc hr ih => exact .ref cs b off vs h1 (by rw [h.size]; exact hb) (fun j hj => by rw [h.cell]; exact hc j hj) ih
theorem RC.shut (h : Shut lo w w2) {c : C} {x : Value} (hc : RC cx ρ ok w c x) : RC cx ρ ok w2 c x := by
 cases c with
 | d y => exact RD.shut h hc
 | ptr n off => exact hc
 | ep n t i j => exact hc
 | own n t full off len =>
  obtain ⟨A, cap, h1, h2, h3, h4⟩ := hc
  exact ⟨A, cap, h1, h2, h3, fun hc => by obtain ⟨b, h5, h6, h7⟩ := h4 hc; exact ⟨b, h5, h6, by rw [h.room]; exact h7⟩⟩
 | clo f first caps => exact hc
 | yld n => exact hc
theorem RCs.shut (h : Shut lo w w2) {cs : List C} {vs : List Value} (hc : RCs cx ρ ok w cs vs) : RCs cx ρ ok w2 cs vs := ⟨hc.1, fun j hj => RC.shut h (hc.2 j hj)⟩
theorem RA.shut (h : Shut lo w w2) {g : Arg} {x : Value} (hc : RA cx ρ ok w g x) : RA cx ρ ok w2 g x := by
 obtain ⟨g, cs⟩ := g
 cases g with
 | true => obtain ⟨vs, h1, h2⟩ := hc; exact ⟨vs, h1, RCs.shut h h2⟩
 | false => obtain ⟨c, h1, h2⟩ := hc; exact ⟨c, h1, RC.shut h h2⟩
theorem RV.shut (h : Shut lo w w2) {v : V} {x : Value} (hc : RV cx ρ ok w v x) : RV cx ρ ok w2 v x := by
 cases v with
 | any => trivial
 | v g cs => exact RA.shut h hc
 | tup vs => obtain ⟨xs, h1, h2⟩ := hc; exact ⟨xs, h1, h2.1, fun j hj => RA.shut h (h2.2 j hj)⟩
theorem RB.shut (h : Shut lo w w2) {n : Nat} {b : Blk} (hb : RB cx ρ ok w n b) : RB cx ρ ok w2 n b := by
 cases b with
 | box T cs => obtain ⟨k, vs, h1, h2, h3⟩ := hb; exact ⟨k, vs, h1, h.cells h2, RCs.shut h h3⟩
 | arr T t l =>
  rcases hb with h1 | ⟨k, vs, h1, h2, h3, h4⟩
  ·exact .inl h1
  ·exact .inr ⟨k, vs, h1, h.cells h2, h3, fun i j hi hj => RD.shut h (h4 i j hi hj)⟩
 | lp key env s j => obtain ⟨k, r, h1, h2, h3, h4, h5⟩ := hb; exact ⟨k, r, h1, h.loop h2, h3, fun t ht => RV.shut h (h4 t ht), h5⟩
theorem HInv.shut (h : Shut lo w w2) (hlo : w0.heap.size ≤ lo) {hp : Heap} (hi : HInv cx ok w0 ρ hp w) : HInv cx ok w0 ρ hp w2 :=
 ⟨fun n b hn => RB.shut h (hi.heap n b hn), hi.inj, fun n b hn => by rw [h.size]; exact hi.own n b hn, hi.fresh,
  hi.below.trans ⟨h.os, h.tape, h.output, Nat.le_of_eq h.size.symm, fun k hk => by
   rcases h.at_ k with h1 | ⟨h1, _⟩
   ·exact h1
   ·omega⟩⟩
theorem Goes.shut {ws : World} (h : Shut lo w w2) (hlo : ws.heap.size ≤ lo) {B0 fb : Nat} {ρ' : Rho} {h1 h2 : Heap} (g : Goes ok B0 fb ρ h1 ws ρ' h2 w) : Goes ok B0 fb ρ h1 ws ρ' h2 w2 :=
 ⟨⟨g.ext.rho, fun k hk ho => by
  rcases h.at_ k with e | ⟨e, _⟩
  ·rw [e]; exact g.ext.cell k hk ho
  ·omega, g.ext.okk, fun k hk => by rw [h.room]; exact g.ext.room k hk, by rw [h.size]; exact g.ext.size⟩, g.grow⟩
end
theorem leaves_marks {F : Fence} {n : Nat} {fn : Func} {tmps : Array Value} {R : Ending → World → Prop} {lo : Nat} {w : World} : ∀ (Ds : List Nat) (w1 : World), Shut lo w w1 → Ds.Nodup → (∀ D ∈ Ds, lo ≤ D ∧ w1.heap[D]? = some (.deferred (some []))) →
    (∀ w2, Shut lo w w2 → ∃ v, (results fn tmps).run P w2 = .ok v w2 ∧ R (.returned v) w2) → LeavesInM F n P fn tmps R (Ds.map mark) .returning w1
 | [], w1, hs, _, _, h => h w1 hs
 | D :: Ds, w1, hs, hn, hD, h => by
  obtain ⟨n1, n2⟩ := List.nodup_cons.1 hn
  obtain ⟨q1, q2⟩ := hD D List.mem_cons_self
  refine ⟨by simp, .inl ⟨D, _, rfl, run_takeDeferred q2, leaves_marks Ds _ (hs.put q1 q2 none) n2 (fun E hE => ?_) h⟩⟩
  obtain ⟨q3, q4⟩ := hD E (List.mem_cons_of_mem _ hE)
  exact ⟨q3, (World.putObj_heap_other (by intro e; subst e; exact n1 hE)).trans q4⟩

theorem fun_lands {X : Type} {m : Bool} (hcx : CxOk P cx) {fn : Func} {f : FuncId} {as : List Arg} {h : Heap} {K : List Arg → Heap → Option X} {x : X} {c : Code} {e : Ex} {st' : St} (hbody : fn.body = some c)
    (h1 : Lands P cx m c ⟨as.map (fun (g, cs) => V.v g cs) ++ List.replicate (fn.ntmps - as.length) .any, h, h.length⟩ e st')
    (h2 : (match (generalizing := false) e with
     | .exit _ => none
     | _ => match resL cx st' fn.results.toList fn.resultTypes.toList with
      | some rs => K rs st'.heap
      | none => none) = some x) :
    ∃ rs h', ClSem P cx fn f as h rs h' ∧ K rs h' = some x := by
 have fin : (e = .normal ∨ e = .ret) → (match resL cx st' fn.results.toList fn.resultTypes.toList with
     | some rs => K rs st'.heap
     | none => none) = some x → ∃ rs h', ClSem P cx fn f as h rs h' ∧ K rs h' = some x := fun hen hk => by
  split at hk
  ·rename_i rs hrs
   refine ⟨rs, st'.heap, ClSem.of hbody fun hf ok w0 ρ w xs hi hr => ?_, hk⟩
   refine FW_calls (r := none) (n := 0) (callsIn_of_wp_marks hf.at_ hbody trivial ?_)
   have hsz : xs.length = as.length := hr.1
   refine h1.2 ok w0 ρ _ w _ (Inv.mk ?_ (fun t ht => ?_) hi.heap hi.inj hi.own hi.fresh hi.below) (Nat.le_refl _) (fun ρ' a' w' i1 g1 d1 => ?_) none (fun _ => rfl)
   ·simp [hsz]
   ·show RV cx ρ _ w ((as.map (fun (g, cs) => V.v g cs) ++ List.replicate (fn.ntmps - as.length) V.any).getD t .any) ((xs.toArray ++ Array.replicate (fn.ntmps - xs.toArray.size) undef).getD t undef)
    by_cases hlt : t < as.length
    ·have e1 : (as.map (fun (g, cs) => V.v g cs) ++ List.replicate (fn.ntmps - as.length) V.any).getD t .any = V.v (as.getD t (false, [])).1 (as.getD t (false, [])).2 := by
       rw [List.getD_eq_getElem?_getD, List.getElem?_append_left (by simpa using hlt)]
       simp [List.getD_eq_getElem?_getD, hlt]
     have e2 : (xs.toArray ++ Array.replicate (fn.ntmps - xs.toArray.size) undef).getD t undef = xs.getD t undef := by
      have : t < xs.length := by omega
      rw [Array.getD_eq_getD_getElem?, Array.getElem?_append_left (by simpa using this)]
      simp [List.getD_eq_getElem?_getD]
     rw [e1, e2]
     exact hr.2 t hlt
    ·have e1 : (as.map (fun (g, cs) => V.v g cs) ++ List.replicate (fn.ntmps - as.length) V.any).getD t .any = V.any := by
       rw [List.getD_eq_getElem?_getD, List.getElem?_append_right (by simpa using hlt), List.getElem?_replicate]
       split <;> rfl
     rw [e1]; trivial
   ·obtain ⟨Ds, l1, _, l3, l4⟩ := d1
    have post : LeavesInM (FW none) 0 P fn a'.tmps (fun e w' => ∃ x ρ', e = .returned x ∧ Goes ok w0.heap.size h.length ρ h w ρ' st'.heap w' ∧ HInv cx ok w0 ρ' st'.heap w' ∧ RV cx ρ' (okc ok w0.heap.size st'.heap ρ') w' (valOf rs) x) a'.defers .returning w' := by
     have e : a'.defers = Ds.map mark := by rw [l1]; simp
     rw [e]
     refine leaves_marks (lo := w.heap.size) Ds w' (Shut.refl _ _) l3 (fun D hD => ⟨(l4 D hD).1, (l4 D hD).2.2.2⟩) (fun w2 hs => ?_)
     have hlo : w0.heap.size ≤ w.heap.size := hi.below.size
     have i2 : Inv cx ok w0 ρ' st' a' w2 := by
      have hh := HInv.shut hs hlo i1.hv
      exact ⟨i1.size, fun t ht => RV.shut hs (i1.env t ht), hh.heap, hh.inj, hh.own, hh.fresh, hh.below⟩
     obtain ⟨v, r1, r2⟩ := run_results hcx i2 hrs
     exact ⟨v, r1, v, ρ', rfl, g1.shut hs (Nat.le_refl _), i2.hv, r2⟩
    rcases hen with rfl | rfl
    ·exact post
    ·exact post
  ·cases hk
 cases e with
 | normal => exact fin (.inl rfl) h2
 | ret => exact fin (.inr rfl) h2
 | exit id => cases h2
theorem fun_adq {X : Type} {m : Bool} {hd : Hd (Option X)} {B : Code → Prop} {G : RF → Prop} (hcx : CxOk P cx) (hga : GaOk P cx) (hH : HdOk P cx m hd B G) {fn : Func} {f : FuncId} {as : List Arg} {h : Heap} {K : List Arg → Heap → Option X} {x : X} (hB : ∀ c, fn.body = some c → (∀ p ∈ loopsOf c, B p) ∧ ∀ q ∈ rfsOf c, G q) (he : evFun cx hd none fn f as h K = some x) :
    ∃ rs h', ClSem P cx fn f as h rs h' ∧ K rs h' = some x := by
 unfold evFun at he
 split at he
 ·cases he
 ·rename_i c hbody
  obtain ⟨e, st', h1, h2⟩ := code_adq hcx hga hH f c _ _ x (hB c hbody).1 (hB c hbody).2 he
  exact fun_lands hcx hbody h1 h2

end
end Go.Eng
/- What is shown of a function is its contract. -/
set_option linter.unusedVariables false
set_option linter.unusedSimpArgs false
namespace Go.Eng
open Go Go.RowKit

def cellsOwn : List C → Option Nat
 | [] => none
 | .own n _ _ _ _ :: _ => some n
 | _ :: r => cellsOwn r
def firstOwn : List Arg → Option Nat
 | [] => none
 | (_, cs) :: r => match cellsOwn cs with
  | some n => some n
  | none => firstOwn r

def weak : D → D
 | .sl _ _ t l => .sl none false t l
 | d => d
def retD (n : Nat) (h : Heap) (c : C) : Option (C × Bool) := match dem h c with
 | some (d, ks, p) => some (.d (weak d), p && !ks.contains n)
 | none => none
def retC (n : Nat) (h : Heap) : C → Option (C × Bool)
 | .own m t full off len => if m = n then some (.own n t full off len, true) else retD n h (.own m t full off len)
 | c => retD n h c
def retL (n : Nat) (h : Heap) : List C → Option (List C × Bool)
 | [] => some ([], true)
 | c :: cs => match retC n h c, retL n h cs with
  | some (x, p), some (xs, q) => some (x :: xs, p && q)
  | _, _ => none
def retArgs (n : Nat) (h : Heap) : List Arg → Option (List Arg × Bool)
 | [] => some ([], true)
 | (g, cs) :: r => match retL n h cs, retArgs n h r with
  | some (xs, p), some (ys, q) => some ((g, xs) :: ys, p && q)
  | _, _ => none
def retOf (own : Bool) (rs : List Arg) (h : Heap) : Option Ret :=
 match (if own then firstOwn rs else none) with
 | none => match retArgs h.length h rs with
  | some (vs, p) => some ⟨p, none, vs⟩
  | none => none
 | some n => match lk h n, retArgs n h rs with
  | some (.arr T t l), some (vs, p) => some ⟨p, some (T, ⟨t, l⟩), vs⟩
  | _, _ => none

section
variable {P : Program} {cx : Cx} {ok : Nat → Prop} {w0 : World} {ρ : Rho} {w : World} {h : Heap}

def only (n : Nat) (h : Heap) : Heap := (List.range h.length).map fun m => if m = n then lk h n else none
theorem lk_only (n m : Nat) (h : Heap) : lk (only n h) m = if m = n then lk h n else none := by
 unfold only
 by_cases hm : m < h.length
 ·simp only [lk, List.getD_eq_getElem?_getD, List.getElem?_map, List.getElem?_range hm, Option.map_some, Option.getD_some]
 ·have e : lk ((List.range h.length).map fun m => if m = n then lk h n else none) m = none := by
    unfold lk
    rw [List.getD_eq_getElem?_getD, List.getElem?_eq_none (by simpa using hm)]; rfl
  rw [e]
  split
  ·rename_i e; subst e
   unfold lk
   rw [List.getD_eq_getElem?_getD, List.getElem?_eq_none (by omega)]; rfl
  ·rfl

theorem okR_of {n k : Nat} (hn : ∀ b, ρ n = some b → (lk h n).isSome = true) (hk : okc ok w0.heap.size (only n h) ρ k) : okR ok w0 (ρ n) k :=
 ⟨hk.1, fun e => hk.2 n (by rw [lk_only, if_pos rfl]; exact hn k e) e⟩

theorem RD.weak {d : D} {x : Value} (hd : RD cx ok w d x) : RD cx ok w (weak d) x := by
 cases hd with
 | sl0 nl full t A cap h1 h2 h3 h4 => exact .sl0 none false t A cap (fun e => by cases e) (fun e => by cases e) (fun e => by cases e) h4
 | sl nl full t l b off cap vs h0 h1 h2 h3 h4 hc hr => exact .sl none false t l b off cap vs h0 h1 h2 (fun e => by cases e) (fun e => by cases e) hc hr
 | sc s => exact .sc s
 | nils => exact .nils
 | fn f first caps a b h1 h2 ha hb => exact .fn f first caps a b h1 h2 ha hb
 | nilI => exact .nilI
 | nilf => exact .nilf
 | one T s h1 => exact .one T s h1
 | val T v h1 => exact .val T v h1
 | ref cs b off vs h1 hb hc hr => exact .ref cs b off vs h1 hb hc hr

theorem retD_ok (hi : HInv cx ok w0 ρ h w) {n : Nat} (hn : ∀ b, ρ n = some b → (lk h n).isSome = true) {c c' : C} {p : Bool} {x : Value} (he : retD n h c = some (c', p)) (hp : p = true) (hc : RC cx ρ (okc ok w0.heap.size h ρ) w c x) (nm : Nat) :
    RC cx (one nm (ρ n)) (okR ok w0 (ρ n)) w (ownTo nm c') x := by
 unfold retD at he
 split at he
 ·rename_i d ks q hd
  injection he with he; injection he with e1 e2; subst e1
  rw [hp] at e2
  simp only [Bool.and_eq_true, Bool.not_eq_true', List.contains_eq_mem, decide_eq_false_iff_not] at e2
  have hless : Less h (only n h) ks := ⟨(by intro m hm; rw [lk_only, if_neg (by intro e; exact e2.2 (e ▸ hm))]), fun m hm => by
   rw [lk_only] at hm
   split at hm
   ·rename_i e; rw [e]; exact hm
   ·cases hm⟩
  have := dem_ok hi hd e2.1 hless hc
  exact (this.ext (fun _ _ _ => rfl) (fun k _ hk => okR_of hn hk) (Nat.le_refl _)).weak
 ·cases he

theorem retC_ok (hi : HInv cx ok w0 ρ h w) {n : Nat} (hn : ∀ b, ρ n = some b → (lk h n).isSome = true) {c c' : C} {p : Bool} {x : Value} (he : retC n h c = some (c', p)) (hp : p = true) (hc : RC cx ρ (okc ok w0.heap.size h ρ) w c x) (nm : Nat) :
    RC cx (one nm (ρ n)) (okR ok w0 (ρ n)) w (ownTo nm c') x := by
 unfold retC at he
 split at he
 ·rename_i m t full off len
  split at he
  ·rename_i e; subst e
   injection he with he; injection he with e1 e2; subst e1
   obtain ⟨A, cap, h1, h2, h3, h4⟩ := hc
   exact ⟨A, cap, h1, h2, h3, fun hc => by obtain ⟨b, h5, h6⟩ := h4 hc; exact ⟨b, by simp [one, h5], h6⟩⟩
  ·exact retD_ok hi hn he hp hc nm
 ·exact retD_ok hi hn he hp hc nm

theorem retL_ok (hi : HInv cx ok w0 ρ h w) {n : Nat} (hn : ∀ b, ρ n = some b → (lk h n).isSome = true) (nm : Nat) : ∀ (cs cs' : List C) (p : Bool) (vs : List Value), retL n h cs = some (cs', p) → p = true → RCs cx ρ (okc ok w0.heap.size h ρ) w cs vs →
    RCs cx (one nm (ρ n)) (okR ok w0 (ρ n)) w (cs'.map (ownTo nm)) vs
 | [], cs', p, vs, he, hp, hr => by
  simp only [retL] at he; injection he with he; injection he with e1 e2; subst e1
  exact ⟨hr.1, fun j hj => by simp at hj⟩
 | c :: cs, cs', p, vs, he, hp, hr => by
  obtain ⟨v, vs', rfl, h1, h2⟩ := RCs_inv hr
  simp only [retL] at he
  split at he
  ·rename_i x p1 xs p2 g1 g2
   injection he with he; injection he with e1 e2; subst e1
   rw [hp] at e2; simp only [Bool.and_eq_true] at e2
   exact RCs_cons (retC_ok hi hn g1 e2.1 h1 nm) (retL_ok hi hn nm cs xs p2 vs' g2 e2.2 h2)
  ·cases he

theorem retArgs_ok (hi : HInv cx ok w0 ρ h w) {n : Nat} (hn : ∀ b, ρ n = some b → (lk h n).isSome = true) (nm : Nat) : ∀ (as as' : List Arg) (p : Bool) (xs : List Value), retArgs n h as = some (as', p) → p = true → RAs cx ρ (okc ok w0.heap.size h ρ) w as xs →
    RAs cx (one nm (ρ n)) (okR ok w0 (ρ n)) w (nameVals nm as') xs
 | [], as', p, xs, he, hp, hr => by
  simp only [retArgs] at he; injection he with he; injection he with e1 e2; subst e1
  exact ⟨hr.1, fun j hj => by simp [nameVals] at hj⟩
 | (g, cs) :: as, as', p, xs, he, hp, hr => by
  cases xs with
  | nil => have := hr.1; simp at this
  | cons x xs' =>
   have hr' : RAs cx ρ (okc ok w0.heap.size h ρ) w as xs' := ⟨by have := hr.1; simpa using this, fun i hi => by simpa using hr.2 (i + 1) (by simpa using hi)⟩
   have hx : RA cx ρ (okc ok w0.heap.size h ρ) w (g, cs) x := hr.2 0 (by simp)
   simp only [retArgs] at he
   split at he
   ·rename_i ys p1 zs p2 g1 g2
    injection he with he; injection he with e1 e2; subst e1
    rw [hp] at e2; simp only [Bool.and_eq_true] at e2
    have ih := retArgs_ok hi hn nm as zs p2 xs' g2 e2.2 hr'
    refine ⟨by have := ih.1; simp [nameVals] at this ⊢; exact this, fun j hj => ?_⟩
    cases j with
    | zero =>
     show RA cx _ _ w (g, ys.map (ownTo nm)) x
     obtain ⟨vs, e1, e2', e3⟩ := RA_cells hx
     rw [e3]
     have hL := retL_ok hi hn nm cs ys p1 vs g1 e2.1 e2'
     refine RA_mkv hL (fun hg => ?_)
     subst hg
     obtain ⟨c, hc, _⟩ := hx
     have h1 := hL.1
     have h2 := e2'.1
     rw [hc] at h2
     rw [← h1, h2]; rfl
    | succ j => simpa [nameVals] using ih.2 j (by simpa [nameVals] using hj)
   ·cases he

theorem ret_vals (hi : HInv cx ok w0 ρ h w) {n : Nat} (hn : ∀ b, ρ n = some b → (lk h n).isSome = true) {rs vs : List Arg} {p : Bool} {x : Value} (he : retArgs n h rs = some (vs, p)) (hp : p = true) (hr : RV cx ρ (okc ok w0.heap.size h ρ) w (valOf rs) x) (nm : Nat) :
    RV cx (one nm (ρ n)) (okR ok w0 (ρ n)) w (valOf (nameVals nm vs)) x := by
 match rs, he, hr with
 | [], he, hr =>
  simp only [retArgs] at he; injection he with he; injection he with e1 e2; subst e1
  trivial
 | [(g, cs)], he, hr =>
  have := retArgs_ok hi hn nm [(g, cs)] vs p [x] he hp ⟨rfl, fun j hj => by
   have : j = 0 := by simp at hj; omega
   subst this; exact hr⟩
  have hl : vs.length = 1 := by have := this.1; simp [nameVals] at this; omega
  match vs, hl, this with
  | [(g', cs')], _, this => exact this.2 0 (by simp [nameVals])
 | g1 :: g2 :: r, he, hr =>
  obtain ⟨xs, e1, h1⟩ := hr
  have := retArgs_ok hi hn nm (g1 :: g2 :: r) vs p xs he hp h1
  have hl : vs.length = r.length + 2 := by have h2 := this.1; have h3 := h1.1; simp [nameVals] at h2 h3; omega
  match vs, hl, this with
  | v1 :: v2 :: vs, _, this => exact ⟨xs, e1, this⟩

inductive Tree where
 | leaf (e : Ex) (st : St)
 | br (b : Bool) (x y : Tree)
 | bad
def Tree.run {R : Type} (K : Ex → St → R) (fail : R) : Tree → R
 | .leaf e st => K e st
 | .br b x y => cond b (x.run K fail) (y.run K fail)
 | .bad => fail
def Tree.eval (t : Tree) : Option (Ex × St) := t.run (fun e st => some (e, st)) none
theorem Tree.run_eval {X : Type} {K : Ex → St → Option X} {x : X} : ∀ {t : Tree}, t.run K none = some x → ∃ e st, t.eval = some (e, st) ∧ K e st = some x
 | .leaf e st, h => ⟨e, st, rfl, h⟩
 | .br b p q, h => by
  cases b with
  | true => exact Tree.run_eval (t := p) h
  | false => exact Tree.run_eval (t := q) h
 | .bad, h => by cases h
def LoopOk (P : Program) (cx : Cx) (body : Code) (T : St → Tree) : Prop := ∀ st e st', (T st).eval = some (e, st') → Circles P cx body st e st'
def round (cx : Cx) (hd : Hd (Option (Ex × St))) (f : FuncId) (body : Code) (hs : List Nat) (base : Nat) (st : St) : Option (Ex × St) :=
 evCode cx hd none f body st fun e st' => match e with
  | .normal => match backs (cx.hint f (firstReg body)).acc hs ⟨keepOnly (cx.hint f (firstReg body)).keep st'.env, st'.heap, st'.fb⟩ with
   | none => none
   | some st1 => match clean (cx.hint f (firstReg body)) base st1 with
    | none => none
    | some st2 => some (.normal, st2)
  | e => some (e, st')
end
end Go.Eng
/- The tables are checked by reckoning. -/
set_option linter.unusedVariables false
set_option linter.unusedSimpArgs false
namespace Go.Eng
open Go Go.RowKit

def cellC : Value → Value → Bool
 | .int k n, .int k' n' => decide (k = k') && decide (n = n')
 | .bool a, .bool b => a == b
 | .string a, .string b => decide (a = b)
 | .slice none 0 0, .slice none 0 0 => true
 | .nilIface, .nilIface => true
 | .nilFunc, .nilFunc => true
 | _, _ => false
theorem cellC_ok {x y : Value} (h : cellC x y = true) : x = y := by
 unfold cellC at h
 split at h
 ·simp only [Bool.and_eq_true, decide_eq_true_eq] at h; rw [h.1, h.2]
 ·simp only [beq_iff_eq] at h; rw [h]
 ·simp only [decide_eq_true_eq] at h; rw [h]
 ·rfl
 ·rfl
 ·rfl
 ·cases h
def cellsC : List Value → List Value → Bool
 | [], [] => true
 | x :: xs, y :: ys => cellC x y && cellsC xs ys
 | _, _ => false
theorem cellsC_ok : ∀ {xs ys : List Value}, cellsC xs ys = true → xs = ys
 | [], [], _ => rfl
 | x :: xs, y :: ys, h => by
  simp only [cellsC, Bool.and_eq_true] at h
  rw [cellC_ok h.1, cellsC_ok h.2]
 | [], _ :: _, h => by cases h
 | _ :: _, [], h => by cases h
def valC : Value → Value → Bool
 | .agg a, .agg b => cellsC a.toList b.toList
 | x, y => cellC x y
theorem valC_ok {x y : Value} (h : valC x y = true) : x = y := by
 unfold valC at h
 split at h
 ·rw [Array.toList_inj.1 (cellsC_ok h)]
 ·exact cellC_ok h

def zeroC : D → Bool
 | .sc _ => true
 | .sl nl _ _ l => l.isEmpty && (match nl with
  | some false => false
  | _ => true)
 | .th .nil => true
 | .nilf => true
 | _ => false
theorem zeroC_ok {d : D} (h : zeroC d = true) : zeroD d := by
 unfold zeroC at h
 split at h
 ·trivial
 ·rename_i nl full t l
  simp only [Bool.and_eq_true] at h
  refine ⟨?_, by simpa using h.1⟩
  cases nl with
  | none => exact .inr rfl
  | some b => cases b
              ·cases h.2
              ·exact .inl rfl
 ·rfl
 ·trivial
 ·cases h

def kdC (P : Program) (tt : TypeId → Option TI) (T : TypeId) : Kd → Bool
 | .int k => match P.underlying T with
  | some (.int k') => decide (k' = k)
  | _ => false
 | .bool => match P.underlying T with
  | some .bool => true
  | _ => false
 | .str => match P.underlying T with
  | some .string => true
  | _ => false
 | .slice e t => (match P.underlying T with
  | some (.slice e') => e' == e
  | _ => false) && (match tt e with
  | some ie => ie.size == width t && cellsC (ie.zero.map zval) ((enc t (dflt t)).map zval)
  | none => false)
 | .struct fs => match P.underlying T with
  | some (.struct fields) => decide (fields.toList.map (fun f => (f.offset, f.type)) = fs) && (fields.toList.mapM (fun f => (P.info? f.type).map fun i => (f.offset, i.size))).isSome
  | _ => false
 | .array n e => match P.underlying T with
  | some (.array n' e') => n' == n && e' == e
  | _ => false
 | .iface => match P.underlying T with
  | some (.interface _) => true
  | _ => false
 | .func => match P.underlying T with
  | some (.func _ _ _) => true
  | _ => false
 | .other => false

def tyC (P : Program) (tt : TypeId → Option TI) (T : TypeId) (i : TI) : Bool :=
 (match P.info? T with
 | some inf => inf.size == i.size && (match inf.zero with
  | some z => valC z (mkv i.agg (i.zero.map zval))
  | none => false) && decide (inf.bytes ≤ 4096)
 | none => false) && kdC P tt T i.kd && i.zero.length == i.size && (i.agg || i.size == 1) && i.zero.all zeroC && (match i.kd with
 | .slice e t => (match P.info? e with
  | some inf => decide (inf.bytes ≤ szB t)
  | none => false)
 | _ => true)

def eqFs (P : Program) (rec : TypeId → List D → Bool) : List Field → Nat → List D → Bool
 | [], _, z => z.isEmpty
 | f :: fs, off, z => f.name != "_" && f.offset == off && (match P.info? f.type with
  | some i => decide (0 < i.size) && decide (i.size ≤ z.length) && rec f.type (z.take i.size) && eqFs P rec fs (off + i.size) (z.drop i.size)
  | none => false)
def eqT (P : Program) : Nat → TypeId → List D → Bool
 | 0, _, _ => false
 | d + 1, T, z => match P.underlying T, z with
  | some (.int _), [.sc (.int _ _)] => true
  | some .bool, [.sc (.bool _)] => true
  | some .string, [.sc (.str _)] => true
  | some (.struct fs), z => !P.stoodInHeld T && !z.isEmpty && eqFs P (eqT P d) fs.toList 0 z
  | _, _ => false

def tabC (P : Program) (tab : List (Option TI)) : Bool :=
 (List.range tab.length).all fun T => match tab.getD T none with
  | none => true
  | some i => tyC P (fun T => tab.getD T none) T i && (match i.kd with
   | .struct _ => !i.zero.all D.isSc || (P.eqGuardType P.depth T == false && eqT P 8 T i.zero)
   | _ => true)

section
variable {P : Program} {cx : Cx}

theorem kdC_ok {T : TypeId} {k : Kd} (h : kdC P cx.tt T k = true) : KdOk P cx T k := by
 unfold kdC at h
 cases k with
 | int k => simp only at h; split at h <;> first | cases h | (rename_i hu; simp only [decide_eq_true_eq] at h; subst h; exact hu)
 | bool => simp only at h; split at h <;> first | (rename_i hu; exact hu) | cases h
 | str => simp only at h; split at h <;> first | (rename_i hu; exact hu) | cases h
 | slice e t =>
  simp only [Bool.and_eq_true] at h
  obtain ⟨h1, h2⟩ := h
  refine ⟨?_, ?_⟩
  ·split at h1 <;> first | cases h1 | (rename_i hu; simp only [beq_iff_eq] at h1; subst h1; exact hu)
  ·split at h2
   ·rename_i ie hie
    simp only [Bool.and_eq_true, beq_iff_eq] at h2
    exact ⟨ie, hie, h2.1, cellsC_ok h2.2⟩
   ·cases h2
 | struct fs =>
  simp only at h
  split at h
  ·rename_i fields hu
   simp only [Bool.and_eq_true, decide_eq_true_eq] at h
   exact ⟨fields, hu, h.1, h.2⟩
  ·cases h
 | array n e =>
  simp only at h
  split at h
  ·rename_i n' e' hu
   simp only [Bool.and_eq_true, beq_iff_eq] at h
   rw [h.1, h.2] at hu
   exact hu
  ·cases h
 | iface =>
  simp only at h
  split at h
  ·rename_i ms hu; exact ⟨ms, hu⟩
  ·cases h
 | func =>
  simp only at h
  split at h
  ·rename_i a b c hu; exact ⟨a, b, c, hu⟩
  ·cases h
 | other => cases h

theorem tyC_ok {T : TypeId} {i : TI} (h : tyC P cx.tt T i = true) : TyOk P cx T i := by
 unfold tyC at h
 simp only [Bool.and_eq_true, Bool.or_eq_true, beq_iff_eq, List.all_eq_true] at h
 obtain ⟨⟨⟨⟨⟨h1, h2⟩, h3⟩, h4⟩, h5⟩, h6⟩ := h
 refine ⟨?_, kdC_ok h2, h3, fun hg => ?_, fun z hz => zeroC_ok (h5 z hz), fun e t hk inf hi => ?_⟩
 ·split at h1
  ·rename_i inf hinf
   simp only [Bool.and_eq_true, beq_iff_eq, decide_eq_true_eq] at h1
   obtain ⟨⟨q1, q2⟩, q3⟩ := h1
   refine ⟨inf, hinf, q1, ?_, q3⟩
   split at q2
   ·rename_i z hz; rw [hz, valC_ok q2]
   ·cases q2
  ·cases h1
 ·rcases h4 with h4 | h4
  ·rw [hg] at h4; cases h4
  ·exact h4
 ·rw [hk] at h6
  simp only [hi, decide_eq_true_eq] at h6
  exact h6

def scEq : Sc → Sc → Bool
 | .int _ a, .int _ b => a == b
 | .bool a, .bool b => a == b
 | .str a, .str b => decide (a = b)
 | _, _ => false
def eqB : List Sc → List Sc → Bool
 | a :: x, b :: y => scEq a b && eqB x y
 | _, _ => true

theorem kinds_len : ∀ (z : List D) (x : List Sc), kindsOk z x = true → x.length = z.length
 | [], [], _ => rfl
 | .sc (.int _ _) :: z, .int _ _ :: x, h => by simp only [kindsOk, Bool.and_eq_true] at h; simp [kinds_len z x h.2]
 | .sc (.bool _) :: z, .bool _ :: x, h => by simp only [kindsOk] at h; simp [kinds_len z x h]
 | .sc (.str _) :: z, .str _ :: x, h => by simp only [kindsOk] at h; simp [kinds_len z x h]
 | [], _ :: _, h => by cases h
 | d :: z, [], h => by unfold kindsOk at h; split at h <;> simp_all

theorem eqRowS_B : ∀ (z : List D) (x y : List Sc) (p : Bool), kindsOk z x = true → kindsOk z y = true → eqRowS x y = some p → p = eqB x y := by
 have one : ∀ a b p, eqSc a b = some p → p = scEq a b := fun a b p h => by
  unfold eqSc at h
  split at h
  ·split at h
   ·injection h with h; exact h.symm
   ·cases h
  ·injection h with h; exact h.symm
  ·injection h with h; exact h.symm
  ·cases h
 intro z x
 induction x generalizing z with
 | nil =>
  intro y p h1 h2 h
  have := kinds_len z _ h1; have h3 := kinds_len z _ h2
  have hy : y = [] := List.length_eq_zero_iff.1 (by rw [h3, ← this]; rfl)
  subst hy
  simp only [eqRowS] at h; injection h with h; exact h.symm
 | cons a x ih =>
  intro y p h1 h2 h
  have l1 := kinds_len z _ h1; have l2 := kinds_len z _ h2
  cases y with
  | nil => simp at l1 l2; omega
  | cons b y =>
   cases z with
   | nil => simp at l1
   | cons d z =>
    have k1 : kindsOk z x = true := by
     unfold kindsOk at h1; split at h1 <;> simp_all
    have k2 : kindsOk z y = true := by
     unfold kindsOk at h2; split at h2 <;> simp_all
    cases x with
    | nil =>
     have hy : y = [] := List.length_eq_zero_iff.1 (by simp only [List.length_cons, List.length_nil] at l1 l2; omega)
     subst hy
     have h' : eqSc a b = some p := h
     simp [eqB, one a b p h']
    | cons a2 x2 =>
     unfold eqRowS at h
     split at h
     ·rename_i pa pb ha hb
      injection h with h
      rw [← h, one _ _ _ ha, ih z y pb k1 k2 hb]
      rfl
     ·cases h

theorem eqB_append : ∀ (x x' y y' : List Sc), x.length = y.length → eqB (x ++ x') (y ++ y') = (eqB x y && eqB x' y')
 | [], x', [], y', _ => by simp [eqB]
 | a :: x, x', b :: y, y', h => by
  simp only [List.cons_append, eqB]
  rw [eqB_append x x' y y' (by simpa using h), Bool.and_assoc]
 | [], _, _ :: _, _, h => by simp at h
 | _ :: _, _, [], _, h => by simp at h

theorem kinds_append : ∀ (z : List D) (n : Nat) (x : List Sc), kindsOk z x = true → kindsOk (z.take n) (x.take n) = true ∧ kindsOk (z.drop n) (x.drop n) = true
 | [], n, [], _ => by simp [kindsOk]
 | z, 0, x, h => ⟨by simp [kindsOk], by simpa using h⟩
 | .sc (.int _ _) :: z, n + 1, .int _ _ :: x, h => by
  simp only [kindsOk, Bool.and_eq_true] at h
  obtain ⟨h1, h2⟩ := kinds_append z n x h.2
  simp only [List.take_succ_cons, List.drop_succ_cons, kindsOk, Bool.and_eq_true]
  exact ⟨⟨h.1, h1⟩, h2⟩
 | .sc (.bool _) :: z, n + 1, .bool _ :: x, h => by
  simp only [kindsOk] at h
  obtain ⟨h1, h2⟩ := kinds_append z n x h
  simp only [List.take_succ_cons, List.drop_succ_cons, kindsOk]
  exact ⟨h1, h2⟩
 | .sc (.str _) :: z, n + 1, .str _ :: x, h => by
  simp only [kindsOk] at h
  obtain ⟨h1, h2⟩ := kinds_append z n x h
  simp only [List.take_succ_cons, List.drop_succ_cons, kindsOk]
  exact ⟨h1, h2⟩
 | [], n + 1, _ :: _, h => by cases h
 | d :: z, n + 1, [], h => by unfold kindsOk at h; split at h <;> simp_all

def aggT (P : Program) (T : TypeId) : Bool := match P.underlying T with
 | some (.struct _) => true
 | _ => false
def vOf (P : Program) (T : TypeId) (x : List Sc) : Value := mkv (aggT P T) (x.map Sc.val)
end
end Go.Eng
/- Structs of scalars are held against each other; the table is as the program has it. -/
set_option linter.unusedVariables false
set_option linter.unusedSimpArgs false
namespace Go.Eng
open Go Go.RowKit

section
variable {P : Program} {cx : Cx}

theorem isAgg_of {d : Nat} {T : TypeId} {z : List D} (h : eqT P d T z = true) (w : World) : (isAgg T).run P w = .ok (aggT P T) w ∧ (aggT P T = false → z.length = 1) := by
 cases d with
 | zero => cases h
 | succ d =>
  unfold eqT at h
  split at h
  ·rename_i k k' n hu; exact ⟨by simp [isAgg, run_underlying hu, aggT, hu], fun _ => rfl⟩
  ·rename_i b hu; exact ⟨by simp [isAgg, run_underlying hu, aggT, hu], fun _ => rfl⟩
  ·rename_i s hu; exact ⟨by simp [isAgg, run_underlying hu, aggT, hu], fun _ => rfl⟩
  ·rename_i fs hu; exact ⟨by simp [isAgg, run_underlying hu, aggT, hu], fun e => by simp [aggT, hu] at e⟩
  ·cases h

theorem run_part {d : Nat} {T : TypeId} {z : List D} (h : eqT P d T z = true) {i : TypeInfo} (hi : P.info? T = some i) (hz : z.length = i.size) (X : List Sc) (off : Nat) (hl : off + i.size ≤ X.length) (w : World) :
    (part T (X.map Sc.val).toArray off).run P w = .ok (vOf P T ((X.drop off).take i.size)) w := by
 obtain ⟨h1, h2⟩ := isAgg_of h w
 unfold part
 rw [Sem.run_bind, h1]
 simp only [Result.andThen_ok]
 cases hg : aggT P T with
 | true =>
  simp only [if_true, vOf, hg, mkv]
  simp [sizeOf, typeInfo, hi, List.map_take, List.map_drop]
 | false =>
  have hs := h2 hg
  have e1 : i.size = 1 := by omega
  have hlt : off < X.length := by omega
  simp only [Bool.false_eq_true, if_false, vOf, hg, mkv, e1]
  have e2 : (X.drop off).take 1 = [X[off]] := by
   rw [List.drop_eq_getElem_cons hlt]; rfl
  rw [e2]
  simp [hlt]

theorem eqFs_ok {rec : TypeId → List D → Bool} {d D : Nat} (hrec : rec = eqT P d) (hE : ∀ T z, eqT P d T z = true → ∀ x y, kindsOk z x = true → kindsOk z y = true → ∀ w, (Op.equalIn D T (vOf P T x) (vOf P T y)).run P w = .ok (eqB x y) w) :
    ∀ (fs : List Field) (off : Nat) (z : List Eng.D) (X Y : List Sc), eqFs P rec fs off z = true → kindsOk z (X.drop off) = true → kindsOk z (Y.drop off) = true → ∀ w, (Op.eqFields D (X.map Sc.val).toArray (Y.map Sc.val).toArray fs).run P w = .ok (eqB (X.drop off) (Y.drop off)) w
 | [], off, z, X, Y, h, hx, hy, w => by
  simp only [eqFs, List.isEmpty_iff] at h
  subst h
  have h1 := kinds_len _ _ hx
  have : X.drop off = [] := List.length_eq_zero_iff.1 (by simpa using h1)
  rw [this]
  simp [Op.eqFields, eqB]
 | f :: fs, off, z, X, Y, h, hx, hy, w => by
  simp only [eqFs, Bool.and_eq_true, bne_iff_ne, beq_iff_eq] at h
  obtain ⟨⟨hn, ho⟩, h⟩ := h
  split at h
  ·rename_i i hi
   simp only [Bool.and_eq_true, decide_eq_true_eq] at h
   obtain ⟨⟨⟨h1, h2⟩, h3⟩, h4⟩ := h
   rw [hrec] at h3
   have lx := kinds_len _ _ hx
   have ly := kinds_len _ _ hy
   rw [List.length_drop] at lx ly
   have px := run_part h3 hi (by rw [List.length_take]; omega) X off (by omega) w
   have py := run_part h3 hi (by rw [List.length_take]; omega) Y off (by omega) w
   obtain ⟨kx1, kx2⟩ := kinds_append z i.size _ hx
   obtain ⟨ky1, ky2⟩ := kinds_append z i.size _ hy
   have he := hE f.type _ h3 _ _ kx1 ky1 w
   rw [List.drop_drop] at kx2 ky2
   have ih := eqFs_ok hrec hE fs (off + i.size) (z.drop i.size) X Y h4 kx2 ky2 w
   have hsplit : eqB (X.drop off) (Y.drop off) = (eqB ((X.drop off).take i.size) ((Y.drop off).take i.size) && eqB (X.drop (off + i.size)) (Y.drop (off + i.size))) := by
    rw [← List.drop_drop, ← List.drop_drop, ← eqB_append _ _ _ _ (by simp only [List.length_take, List.length_drop]; omega), List.take_append_drop, List.take_append_drop]
   rw [hsplit]
   simp only [Op.eqFields, if_pos hn, Sem.run_bind, ho, px, py, he, Result.andThen_ok]
   cases eqB ((X.drop off).take i.size) ((Y.drop off).take i.size)
   ·simp
   ·simpa using ih
  ·cases h

theorem kinds_nil {x : List Sc} (h : kindsOk [] x = true) : x = [] := by
 cases x with
 | nil => rfl
 | cons a x => cases h
theorem kinds_int {k : IntKind} {n : Int} {x : List Sc} (h : kindsOk [.sc (.int k n)] x = true) : ∃ a, x = [.int k a] := by
 cases x with
 | nil => cases h
 | cons a x =>
  cases a with
  | int k' v =>
   simp only [kindsOk, Bool.and_eq_true, decide_eq_true_eq] at h
   rw [← h.1, kinds_nil h.2]; exact ⟨v, rfl⟩
  | bool b => cases h
  | str s => cases h
theorem kinds_bool {n : Bool} {x : List Sc} (h : kindsOk [.sc (.bool n)] x = true) : ∃ a, x = [.bool a] := by
 cases x with
 | nil => cases h
 | cons a x =>
  cases a with
  | bool v =>
   simp only [kindsOk] at h
   rw [kinds_nil h]; exact ⟨v, rfl⟩
  | int k b => cases h
  | str s => cases h
theorem kinds_str {n : ByteArray} {x : List Sc} (h : kindsOk [.sc (.str n)] x = true) : ∃ a, x = [.str a] := by
 cases x with
 | nil => cases h
 | cons a x =>
  cases a with
  | str v =>
   simp only [kindsOk] at h
   rw [kinds_nil h]; exact ⟨v, rfl⟩
  | int k b => cases h
  | bool s => cases h

theorem eqT_ok : ∀ (d : Nat) (T : TypeId) (z : List D), eqT P d T z = true → ∀ E, d ≤ E → ∀ x y, kindsOk z x = true → kindsOk z y = true → ∀ w, (Op.equalIn E T (vOf P T x) (vOf P T y)).run P w = .ok (eqB x y) w
 | 0, _, _, h, _, _, _, _, _, _, _ => by cases h
 | d + 1, T, z, h, E, hE, x, y, hx, hy, w => by
  obtain ⟨E, rfl⟩ : ∃ E', E = E' + 1 := ⟨E - 1, by omega⟩
  unfold eqT at h
  split at h
  ·rename_i k k' n hu
   have hag : aggT P T = false := by simp [aggT, hu]
   obtain ⟨a, rfl⟩ := kinds_int hx
   obtain ⟨b, rfl⟩ := kinds_int hy
   simp only [vOf, hag, mkv, List.map_cons, List.map_nil, Sc.val, eqB, scEq, Bool.and_true]
   exact run_equalIn_int w E T _ k a b hu
  ·rename_i b0 hu
   have hag : aggT P T = false := by simp [aggT, hu]
   obtain ⟨a, rfl⟩ := kinds_bool hx
   obtain ⟨b, rfl⟩ := kinds_bool hy
   simp only [vOf, hag, mkv, List.map_cons, List.map_nil, Sc.val, eqB, scEq, Bool.and_true]
   exact run_equalIn_bool' w E T a b hu
  ·rename_i s0 hu
   have hag : aggT P T = false := by simp [aggT, hu]
   obtain ⟨a, rfl⟩ := kinds_str hx
   obtain ⟨b, rfl⟩ := kinds_str hy
   simp only [vOf, hag, mkv, List.map_cons, List.map_nil, Sc.val, eqB, scEq, Bool.and_true, ← strEq]
   exact run_equalIn_string w E T a b hu
  ·rename_i fs hu
   simp only [Bool.and_eq_true, Bool.not_eq_true'] at h
   have hag : aggT P T = true := by simp [aggT, hu]
   simp only [vOf, hag, mkv, if_true]
   have hf : P.fieldsOf T = fs := by simp [Program.fieldsOf, hu]
   rw [run_equalIn_struct (P := P) w E T _ _ (by rw [hf]; exact hu) h.1.1, hf]
   have := eqFs_ok (P := P) (d := d) (D := E) rfl (fun T z ht x y kx ky w => eqT_ok d T z ht E (by omega) x y kx ky w) fs.toList 0 _ x y h.2 (by simpa using hx) (by simpa using hy) w
   simpa using this
  ·cases h

theorem tabC_ok {tab : List (Option TI)} (ht : cx.tt = fun T => tab.getD T none) (h : tabC P tab = true) (hm : P.follows .mixedOrders = true) : CxOk P cx := by
 have key : ∀ T i, cx.tt T = some i → tyC P cx.tt T i = true ∧ (match i.kd with
     | .struct _ => !i.zero.all D.isSc || (P.eqGuardType P.depth T == false && eqT P 8 T i.zero)
     | _ => true) = true := fun T i hi => by
  rw [ht] at hi ⊢
  have hlt : T < tab.length := by
   rcases Nat.lt_or_ge T tab.length with h1 | h1
   ·exact h1
   ·simp only [List.getD_eq_getElem?_getD, List.getElem?_eq_none h1] at hi; cases hi
  have := List.all_eq_true.1 h T (List.mem_range.2 hlt)
  simp only at hi
  rw [hi] at this
  simp only [Bool.and_eq_true] at this
  exact this
 refine ⟨fun T i hi => tyC_ok (key T i hi).1, fun T fs n z e hT hz => ?_, hm⟩
 have h2 := (key T _ hT).2
 simp only [hz, Bool.not_true, Bool.false_or, Bool.and_eq_true, beq_iff_eq] at h2
 refine ⟨h2.1, fun xs ys p kx ky hp w => ?_⟩
 have hty := (tyC_ok (key T _ hT).1).und
 obtain ⟨fields, hu, _⟩ := hty
 have hag : aggT P T = true := by simp [aggT, hu]
 have := eqT_ok 8 T z h2.2 10000 (by omega) xs ys kx ky w
 simp only [vOf, hag, mkv, if_true] at this
 rw [eqRowS_B z xs ys p kx ky hp]
 exact this
end
end Go.Eng
/- Contracts are gathered. -/
set_option linter.unusedVariables false
set_option linter.unusedSimpArgs false
namespace Go.Eng
open Go Go.RowKit

section
variable {P : Program} {cx cx' : Cx} {ok : Nat → Prop} {ρ : Rho} {w : World}

theorem RD.tt (h : cx.tt = cx'.tt) {d : D} {x : Value} (hd : RD cx ok w d x) : RD cx' ok w d x := by
 induction hd with
 | sc s => exact .sc s
 | nils => exact .nils
 | sl0 nl full t A cap h1 h2 h3 h4 => exact .sl0 nl full t A cap h1 h2 h3 h4
 | sl nl full t l b off cap vs h0 h1 h2 h3 h4 hc hr ih => exact .sl nl full t l b off cap vs h0 h1 h2 h3 h4 hc ih
 | fn f first caps a b h1 h2 ha hb iha ihb => exact .fn f first caps a b h1 h2 iha ihb
 | nilI => exact .nilI
 | nilf => exact .nilf
 | one T s h1 => exact .one T s (by unfold oneOk at h1 ⊢; rw [← h]; exact h1)
 | val T v h1 => exact .val T v (by unfold threeOk at h1 ⊢; rw [← h]; exact h1)
 | ref cs b off vs h1 hb hc hr ih => exact .ref cs b off vs h1 hb hc ih
theorem RC.tt (h : cx.tt = cx'.tt) {c : C} {x : Value} (hd : RC cx ρ ok w c x) : RC cx' ρ ok w c x := by
 cases c with
 | d y => exact RD.tt h hd
 | _ => exact hd
theorem RCs.tt (h : cx.tt = cx'.tt) {cs : List C} {vs : List Value} (hd : RCs cx ρ ok w cs vs) : RCs cx' ρ ok w cs vs := ⟨hd.1, fun j hj => (hd.2 j hj).tt h⟩
theorem RA.tt (h : cx.tt = cx'.tt) {g : Arg} {x : Value} (hd : RA cx ρ ok w g x) : RA cx' ρ ok w g x := by
 obtain ⟨g, cs⟩ := g
 cases g with
 | true => obtain ⟨vs, h1, h2⟩ := hd; exact ⟨vs, h1, h2.tt h⟩
 | false => obtain ⟨c, h1, h2⟩ := hd; exact ⟨c, h1, h2.tt h⟩
theorem RAs.tt (h : cx.tt = cx'.tt) {as : List Arg} {xs : List Value} (hd : RAs cx ρ ok w as xs) : RAs cx' ρ ok w as xs := ⟨hd.1, fun j hj => (hd.2 j hj).tt h⟩
theorem RV.tt (h : cx.tt = cx'.tt) {v : V} {x : Value} (hd : RV cx ρ ok w v x) : RV cx' ρ ok w v x := by
 cases v with
 | any => trivial
 | v g cs => exact RA.tt h hd
 | tup vs => obtain ⟨xs, h1, h2⟩ := hd; exact ⟨xs, h1, h2.tt h⟩
theorem RB.tt (h : cx.tt = cx'.tt) {n : Nat} {T : TypeId} {t : ET} {l : List (Ty t)} (hd : RB cx ρ ok w n (.arr T t l)) : RB cx' ρ ok w n (.arr T t l) := by
 rcases hd with h1 | ⟨k, vs, h1, h2, h3, h4⟩
 ·exact .inl h1
 ·exact .inr ⟨k, vs, h1, h2, h3, fun i j hi hj => (h4 i j hi hj).tt h⟩
theorem After.tt (h : cx.tt = cx'.tt) {r : Ret} {e : Ending} {w' : World} (ha : After cx ok w r e w') : After cx' ok w r e w' := by
 obtain ⟨x, ob, h1, h2, h3, h4, h5⟩ := ha
 refine ⟨x, ob, h1, h2, h3, ?_, fun nm => (h5 nm).tt h⟩
 rcases r with ⟨o, row, vals⟩
 rcases row with _ | ⟨T, t, l⟩
 ·trivial
 ·exact RB.tt h h4
theorem EntOk.tt (h : cx.tt = cx'.tt) {go : List Value → Sem Next} {G : List DArg → Option Ret} (he : EntOk P cx go G) : EntOk P cx' go G := fun das r hG hr ok w xs hx => by
 obtain ⟨f, ys, h1, h2⟩ := he das r hG hr ok w xs (hx.tt h.symm)
 exact ⟨f, ys, h1, h2.mono fun e w' ha => ha.tt h⟩
end

def find {α : Type} : List (Nat × α) → Nat → Option α
 | [], _ => none
 | (k, a) :: r, n => if n = k then some a else find r n
def findS {α : Type} : List (String × α) → String → Option α
 | [], _ => none
 | (k, a) :: r, n => if n = k then some a else findS r n
theorem find_mem {α : Type} : ∀ (l : List (Nat × α)) (n : Nat) (a : α), find l n = some a → (n, a) ∈ l
 | [], _, _, h => by cases h
 | (k, b) :: r, n, a, h => by
  unfold find at h
  split at h
  ·rename_i e; injection h with h; subst e; subst h; exact List.mem_cons_self
  ·exact List.mem_cons_of_mem _ (find_mem r n a h)
theorem findS_mem {α : Type} : ∀ (l : List (String × α)) (n : String) (a : α), findS l n = some a → (n, a) ∈ l
 | [], _, _, h => by cases h
 | (k, b) :: r, n, a, h => by
  unfold findS at h
  split at h
  ·rename_i e; injection h with h; subst e; subst h; exact List.mem_cons_self
  ·exact List.mem_cons_of_mem _ (findS_mem r n a h)

abbrev Con := List DArg → Option Ret
def mkCx (tab : List (Option TI)) (gas : List (Nat × Con)) (invs : List (String × Con)) (hints : List (Nat × Nat × Hint)) : Cx :=
 { tt := fun T => tab.getD T none, ga := find gas, inl := fun _ => none, inv := findS invs,
   hint := fun f r => match hints.find? (fun h => h.1 == f && h.2.1 == r) with
    | some h => h.2.2
    | none => { keep := [], acc := [] } }
def Stands (P : Program) (tab : List (Option TI)) (f : FuncId) (G : Con) : Prop := EntOk P (mkCx tab [] [] []) (fun xs => callFunc f xs.toArray) G
def StandsI (P : Program) (tab : List (Option TI)) (m : String) (G : Con) : Prop := EntOk P (mkCx tab [] [] []) (fun xs => invoke (.fn (.method m) #[]) xs.toArray) G

theorem gaOk {P : Program} {tab : List (Option TI)} {gas : List (Nat × Con)} {invs : List (String × Con)} {hints : List (Nat × Nat × Hint)} (h : ∀ p ∈ gas, Stands P tab p.1 p.2) (hi : ∀ p ∈ invs, StandsI P tab p.1 p.2) : GaOk P (mkCx tab gas invs hints) :=
 ⟨fun f G hG => EntOk.tt (cx := mkCx tab [] [] []) (cx' := mkCx tab gas invs hints) rfl (h (f, G) (find_mem _ _ _ hG)), fun m G hG => EntOk.tt (cx := mkCx tab [] [] []) (cx' := mkCx tab gas invs hints) rfl (hi (m, G) (findS_mem _ _ _ hG)), fun f fn hf => by cases hf⟩

end Go.Eng
/- Names for what is reckoned with values that are not known. -/
set_option linter.unusedVariables false
set_option linter.unusedSimpArgs false
namespace Go.Eng
abbrev xdec (p : Prop) [Decidable p] : Bool := decide p
abbrev xnot (a : Bool) : Bool := !a
abbrev xeqI (a b : Int) : Bool := a == b
abbrev xneI (a b : Int) : Bool := a != b
abbrev xeqB (a b : Bool) : Bool := a == b
abbrev xwrap (k : IntKind) (n : Int) : Int := k.wrap n
end Go.Eng
/- Loops and functions as they are reckoned by program: what a round comes to, what the rounds come to, what a function comes to. -/
set_option linter.unusedVariables false
set_option linter.unusedSimpArgs false
namespace Go.Eng
open Go Go.RowKit

section
variable {P : Program} {cx : Cx} {st st' : St}

theorem Circles.turns {c : Code} {s1 s2 s3 : St} {e : Ex} (y : Circles P cx c s1 e s2) (x : Turns cx s2 s3) : Circles P cx c s1 e s3 := by
 obtain ⟨y1, m, y2⟩ := y
 refine ⟨x.1.trans y1, m, fun ok w0 ρ a w Q hi hl hQ => ?_⟩
 refine y2 ok w0 ρ a w Q hi hl (fun ρ1 a1 w1 i1 g1 => ?_)
 have hl1 : s2.fb ≤ s2.heap.length := by rw [y1]; exact g1.grow.len hl
 obtain ⟨ρ2, i2, g2⟩ := x.2.2 ok w0 ρ1 a1 w1 i1 hl1
 rw [y1] at g2
 exact hQ ρ2 a1 w1 i2 (g1.trans g2)

def trimN (e : Ex) (k : Nat) : Bool := match e with
 | .ret => decide (3000000 ≤ k)
 | _ => decide (1000000 ≤ k) && decide (k < 3000000)
def trimB (e : Ex) (k : Nat) : Nat := match e with
 | .ret => 0
 | _ => k - 1000000
def trimK (e : Ex) (keepX : List Nat) : List Nat := match e with
 | .ret => keepX.filterMap fun k => bif decide (3000000 ≤ k) then some (k - 3000000) else none
 | _ => keepX
def trimX (e : Ex) (keepX : List Nat) (st : St) : St := match keepX.find? (trimN e) with
 | none => ⟨keepOnly keepX st.env, st.heap, st.fb⟩
 | some k => match clean { keep := trimK e keepX, acc := [] } (trimB e k) st with
  | some s => s
  | none => ⟨keepOnly keepX st.env, st.heap, st.fb⟩
theorem turns_trim {cx : Cx} {st : St} (e : Ex) (keepX : List Nat) : Turns cx st (trimX e keepX st) := by
 unfold trimX
 split
 ·exact turns_keep keepX
 ·split
  ·rename_i hc
   exact turns_clean hc
  ·exact turns_keep keepX
def round2 (cx : Cx) (hd : Hd (Option (Ex × St))) (f : FuncId) (body : Code) (hs : List Nat) (base : Nat) (keepX : List Nat) (st : St) : Option (Ex × St) :=
 evCode cx hd none f body st fun e st' => match e with
  | .normal => match backs (cx.hint f (firstReg body)).acc hs ⟨keepOnly (cx.hint f (firstReg body)).keep st'.env, st'.heap, st'.fb⟩ with
   | none => none
   | some st1 => match clean (cx.hint f (firstReg body)) base st1 with
    | none => none
    | some st2 => some (.normal, st2)
  | e => some (e, trimX e keepX st')
theorem round2_ok {B : Code → Prop} {hd : Hd (Option (Ex × St))} (hcx : CxOk P cx) (hga : GaOk P cx) {G : RF → Prop} (hH : HdOk P cx false hd B G) {f : FuncId} {body : Code} (hB : (∀ p ∈ loopsOf body, B p) ∧ ∀ q ∈ rfsOf body, G q) {hs : List Nat} {base : Nat} {keepX : List Nat} {st : St} {e : Ex} {st' : St} (he : round2 cx hd f body hs base keepX st = some (e, st')) :
    (e ≠ .normal → Circles P cx body st e st') ∧ (e = .normal → ∀ e2 st2, Circles P cx body st' e2 st2 → Circles P cx body st e2 st2) := by
 unfold round2 at he
 obtain ⟨e1, s1, h1, h2⟩ := code_adq hcx hga hH f body st _ _ hB.1 hB.2 he
 cases e1 with
 | exit id =>
  simp only [Option.some.injEq, Prod.mk.injEq] at h2
  obtain ⟨rfl, rfl⟩ := h2
  exact ⟨fun hn => (h1.last hn).turns (turns_trim _ keepX), fun hn => by cases hn⟩
 | ret =>
  simp only [Option.some.injEq, Prod.mk.injEq] at h2
  obtain ⟨rfl, rfl⟩ := h2
  exact ⟨fun hn => (h1.last hn).turns (turns_trim _ keepX), fun hn => by cases hn⟩
 | normal =>
  simp only at h2
  split at h2
  ·cases h2
  ·rename_i s2 hb
   split at h2
   ·cases h2
   ·rename_i s3 hc
    simp only [Option.some.injEq, Prod.mk.injEq] at h2
    obtain ⟨rfl, rfl⟩ := h2
    refine ⟨fun hn => absurd rfl hn, fun _ e2 st2 h3 => ?_⟩
    exact h1.circle (((turns_keep (cx := cx) (st := s1) _).trans (turns_backs _ _ _ _ hb)).trans (turns_clean hc)) h3
end

section
variable {V : Type}
def lpN (r : V → Option (Option Nat × V)) : Nat → V → Option (Nat × V)
 | 0, _ => none
 | n + 1, v => match r v with
  | none => none
  | some (none, v') => lpN r n v'
  | some (some j, v') => some (j, v')
theorem lpN_mono {r : V → Option (Option Nat × V)} : ∀ {n m : Nat} {v : V} {x : Nat × V}, n ≤ m → lpN r n v = some x → lpN r m v = some x
 | 0, _, _, _, _, h => by cases h
 | n + 1, 0, _, _, hle, _ => by omega
 | n + 1, m + 1, v, x, hle, h => by
  unfold lpN at h ⊢
  split at h
  ·cases h
  ·exact lpN_mono (by omega) h
  ·exact h
open Classical in
noncomputable def Lp (r : V → Option (Option Nat × V)) (v : V) : Option (Nat × V) :=
 if h : ∃ n x, lpN r n v = some x then some (Classical.choose (Classical.choose_spec h)) else none
theorem Lp_of {r : V → Option (Option Nat × V)} {v : V} {n : Nat} {x : Nat × V} (h : lpN r n v = some x) : Lp r v = some x := by
 have hex : ∃ n x, lpN r n v = some x := ⟨n, x, h⟩
 unfold Lp
 rw [dif_pos hex]
 have h2 := Classical.choose_spec (Classical.choose_spec hex)
 have a := lpN_mono (Nat.le_max_left n (Classical.choose hex)) h
 have b := lpN_mono (Nat.le_max_right n (Classical.choose hex)) h2
 rw [a] at b
 exact b.symm
theorem Lp_ex {r : V → Option (Option Nat × V)} {v : V} {x : Nat × V} (h : Lp r v = some x) : ∃ n, lpN r n v = some x := by
 unfold Lp at h
 split at h
 ·rename_i hex
  injection h with h
  exact ⟨_, h ▸ Classical.choose_spec (Classical.choose_spec hex)⟩
 ·cases h
theorem Lp_eq (r : V → Option (Option Nat × V)) (v : V) : Lp r v = match r v with
    | none => none
    | some (none, v') => Lp r v'
    | some (some j, v') => some (j, v') := by
 split
 ·rename_i h
  cases hl : Lp r v with
  | none => rfl
  | some x =>
   obtain ⟨n, hn⟩ := Lp_ex hl
   cases n with
   | zero => cases hn
   | succ n => unfold lpN at hn; rw [h] at hn; cases hn
 ·rename_i v' h
  cases hl : Lp r v' with
  | none =>
   cases hl2 : Lp r v with
   | none => rfl
   | some x =>
    obtain ⟨n, hn⟩ := Lp_ex hl2
    cases n with
    | zero => cases hn
    | succ n =>
     unfold lpN at hn; rw [h] at hn
     rw [Lp_of hn] at hl; cases hl
  | some x =>
   obtain ⟨n, hn⟩ := Lp_ex hl
   exact Lp_of (n := n + 1) (by unfold lpN; rw [h]; exact hn)
 ·rename_i j v' h
  exact Lp_of (n := 1) (by unfold lpN; rw [h])
theorem Lp_cont {r : V → Option (Option Nat × V)} {v v' : V} (h : r v = some (none, v')) : Lp r v = Lp r v' := by rw [Lp_eq, h]
theorem Lp_exit {r : V → Option (Option Nat × V)} {v v' : V} {j : Nat} (h : r v = some (some j, v')) : Lp r v = some (j, v') := by rw [Lp_eq, h]

noncomputable def Lp_j (r : V → Option (Option Nat × V)) (v : V) (j : Nat) : Bool := match Lp r v with
 | some (i, _) => i == j
 | none => false
noncomputable def Lp_v (r : V → Option (Option Nat × V)) (v : V) : V := match Lp r v with
 | some (_, x) => x
 | none => v
theorem Lp_j_of {r : V → Option (Option Nat × V)} {v v' : V} {i : Nat} (h : Lp r v = some (i, v')) (j : Nat) : Lp_j r v j = (i == j) := by simp only [Lp_j, h]
theorem Lp_v_of {r : V → Option (Option Nat × V)} {v v' : V} {i : Nat} (h : Lp r v = some (i, v')) : Lp_v r v = v' := by simp only [Lp_v, h]

def exT (ex : Nat → Ex × St) (jb : Nat → Bool) : List Nat → Tree
 | [] => .bad
 | j :: js => .br (jb j) (.leaf (ex j).1 (ex j).2) (exT ex jb js)
theorem exT_eval {ex : Nat → Ex × St} {jb : Nat → Bool} : ∀ {js : List Nat} {e : Ex} {st : St}, (exT ex jb js).eval = some (e, st) → ∃ j, jb j = true ∧ ex j = (e, st)
 | [], e, st, h => by cases h
 | j :: js, e, st, h => by
  cases hj : jb j with
  | true =>
   simp only [exT, Tree.eval, Tree.run, hj, cond_true, Option.some.injEq] at h
   exact ⟨j, hj, h⟩
  | false =>
   simp only [exT, Tree.eval, Tree.run, hj, cond_false] at h
   exact exT_eval h

inductive DT (T : Type) where
 | leaf (t : T)
 | fail
 | br (c : Bool) (x y : DT T)
noncomputable def DT.go {T A : Type} (k : T → A) (t : DT T) : Option A := DT.rec (motive := fun _ => Option A) (fun t => some (k t)) none (fun c _ _ x y => cond c x y) t
noncomputable def DT.run {T : Type} (t : DT T) : Option T := DT.rec (motive := fun _ => Option T) (fun t => some t) none (fun c _ _ x y => cond c x y) t
theorem DT.go_run {T A : Type} (k : T → A) (t : DT T) : t.go k = t.run.map k := by
 induction t with
 | leaf t => rfl
 | fail => rfl
 | br c x y hx hy => cases c <;> assumption
theorem DT.run_leaf {T : Type} (t : T) : (DT.leaf t).run = some t := rfl
theorem DT.run_fail {T : Type} : (DT.fail : DT T).run = none := rfl
theorem DT.run_br {T : Type} (c : Bool) (x y : DT T) : (DT.br c x y).run = cond c x.run y.run := rfl

def roundOut (mk : V → St) (ex : Nat → V → Ex × St) (p : Option Nat × V) : Ex × St := match p.1 with
 | none => (.normal, mk p.2)
 | some j => ex j p.2
def exOk : Ex → Bool
 | .normal => false
 | _ => true

theorem loop_win {P : Program} {cx : Cx} {B : Code → Prop} {hd : Hd (Option (Ex × St))} (hcx : CxOk P cx) (hga : GaOk P cx) {G : RF → Prop} (hH : HdOk P cx false hd B G) {f : FuncId} {body : Code} (hB : (∀ p ∈ loopsOf body, B p) ∧ ∀ q ∈ rfsOf body, G q) {hs : List Nat} {base : Nat} {keepX : List Nat}
    {mk : V → St} {ex : Nat → V → Ex × St} {r : V → Option (Option Nat × V)} (h : ∀ v, round2 cx hd f body hs base keepX (mk v) = (r v).map (roundOut mk ex)) (hx : ∀ j v, exOk (ex j v).1 = true) :
    ∀ v j v', Lp r v = some (j, v') → Circles P cx body (mk v) (ex j v').1 (ex j v').2 := by
 intro v j v' hl
 obtain ⟨n, hn⟩ := Lp_ex hl
 clear hl
 induction n generalizing v with
 | zero => cases hn
 | succ n ih =>
  have hr := h v
  unfold lpN at hn
  split at hn
  ·cases hn
  ·rename_i v1 h1
   rw [h1] at hr
   exact (round2_ok hcx hga hH hB hr).2 rfl _ _ (ih v1 hn)
  ·rename_i j1 v1 h1
   injection hn with hn; injection hn with e1 e2; subst e1; subst e2
   rw [h1] at hr
   refine (round2_ok hcx hga hH hB (e := (ex j1 v1).1) (st' := (ex j1 v1).2) hr).1 (fun hc => ?_)
   have := hx j1 v1
   rw [hc] at this; cases this

theorem loop_tree {P : Program} {cx : Cx} {body : Code} {mk : V → St} {ex : Nat → V → Ex × St} {r : V → Option (Option Nat × V)} (h : ∀ v j v', Lp r v = some (j, v') → Circles P cx body (mk v) (ex j v').1 (ex j v').2) (v : V) (js : List Nat) (e : Ex) (st' : St)
    (he : (exT (fun j => ex j (Lp_v r v)) (Lp_j r v) js).eval = some (e, st')) : Circles P cx body (mk v) e st' := by
 obtain ⟨j, hj, hx⟩ := exT_eval he
 unfold Lp_j at hj
 split at hj
 ·rename_i i x hl
  have : i = j := by simpa using hj
  subst this
  have := h v i x hl
  rw [Lp_v_of hl] at hx
  rw [hx] at this
  exact this
 ·cases hj
end

def envOf (n : Nat) (l : List (Nat × V)) : List V := (List.range n).map fun t => (find l t).getD .any
def heapOf (n : Nat) (l : List (Nat × Option Blk)) : Heap := (List.range n).map fun t => (find l t).getD none
def okSt (n m fb : Nat) (hs : List Nat) (st : St) : Bool := decide (st.env.length = n) && decide (st.heap.length = m) && decide (st.fb = fb) && (List.range m).all fun k => hs.contains k || (lk st.heap k).isNone
theorem find_map {α : Type} (f : Nat → α) : ∀ (ks : List Nat) (t : Nat), find (ks.map fun k => (k, f k)) t = if ks.contains t then some (f t) else none
 | [], t => rfl
 | k :: ks, t => by
  simp only [List.map_cons, find, List.contains_cons]
  by_cases h : t = k
  ·subst h; simp
  ·rw [if_neg h, find_map f ks t]
   have : (t == k) = false := by simpa using h
   simp only [this, Bool.false_or]
theorem keep_eq {n m fb : Nat} {hs ks : List Nat} {st : St} (h : okSt n m fb hs st = true) : (⟨keepOnly ks st.env, st.heap, st.fb⟩ : St) = ⟨envOf n (ks.map fun k => (k, st.env.getD k .any)), heapOf m (hs.map fun k => (k, lk st.heap k)), fb⟩ := by
 unfold okSt at h
 simp only [Bool.and_eq_true, decide_eq_true_eq, List.all_eq_true, List.mem_range, Bool.or_eq_true] at h
 obtain ⟨⟨⟨h1, h2⟩, h3⟩, h4⟩ := h
 have e1 : keepOnly ks st.env = envOf n (ks.map fun k => (k, st.env.getD k .any)) := by
  unfold keepOnly envOf
  rw [h1]
  refine List.map_congr_left fun t _ => ?_
  rw [find_map (fun k => st.env.getD k .any)]
  split <;> rfl
 have e2 : st.heap = heapOf m (hs.map fun k => (k, lk st.heap k)) := by
  unfold heapOf
  refine List.ext_getElem (by simp [h2]) (fun i hi _ => ?_)
  simp only [List.getElem_map, List.getElem_range]
  rw [find_map (fun k => lk st.heap k)]
  have hl : lk st.heap i = st.heap[i] := by unfold lk; rw [List.getD_eq_getElem?_getD, List.getElem?_eq_getElem hi]; rfl
  split
  ·rw [← hl]; rfl
  ·rename_i hc
   rcases h4 i (by omega) with h5 | h5
   ·exact absurd h5 (by simpa using hc)
   ·rw [← hl]
    cases hx : lk st.heap i with
    | none => rfl
    | some b => rw [hx] at h5; cases h5
 rw [e1, ← e2, h3]
theorem circles_keep {P : Program} {cx : Cx} {body : Code} {n m fb : Nat} {hs ks : List Nat} {st : St} {e : Ex} {st' : St} (h : okSt n m fb hs st = true) (hc : Circles P cx body ⟨envOf n (ks.map fun k => (k, st.env.getD k .any)), heapOf m (hs.map fun k => (k, lk st.heap k)), fb⟩ e st') : Circles P cx body st e st' := by
 rw [← keep_eq h] at hc
 exact (turns_keep ks).circles hc

def setPs : List Tmp → List Arg → List V → List V
 | p :: ps, (g, cs) :: as, env => setPs ps as (env.set p (.v g cs))
 | _, _, env => env
def sOf : Option (Option Nat) → Nat
 | none => 0
 | some _ => 2
def roundEnd {R : Type} (n k : Nat) (K : List Arg → Heap → R) (fail : R) (st : St) (j : Option (Option Nat)) : R :=
 match lk st.heap n with
 | some (.lp k' env 1 none) => if k' = k then K [(false, [.d (.sc (.bool j.isNone))])] (st.heap.set n (some (.lp k env (sOf j) j))) else fail
 | _ => fail
def evYld {R : Type} (cx : Cx) (hd : Hd R) (fail : R) (n : Nat) (as : List Arg) (h : Heap) (K : List Arg → Heap → R) : R :=
 match lk h n with
 | some (.lp k env 0 none) => match cx.rf k with
  | some (fid, ps, asg, body) => if ps.size = as.length then
      evCode cx hd fail fid asg ⟨setPs ps.toList as env, h, h.length⟩ fun e st => match e with
      | .normal => match lk st.heap n with
       | some (.lp k2 env2 0 none) => if k2 = k then
           evCode cx hd fail fid body ⟨st.env, st.heap.set n (some (.lp k env2 1 none)), st.fb⟩ fun e2 st2 => match e2 with
           | .normal => roundEnd n k K fail st2 none
           | .ret => roundEnd n k K fail st2 (some none)
           | .exit id => roundEnd n k K fail st2 (some (some id))
        else fail
       | _ => fail
      | _ => fail
   else fail
  | none => fail
 | _ => fail

abbrev Loops2 := Nat → Option (St → Tree)
def hdI {R : Type} (cx : Cx) (L : Loops2) (inls : List (Nat × Func)) (fail : R) : Nat → Hd R
 | 0 => {
  lp := fun _ body _ _ st K => match L (firstReg body) with
   | some T => (T st).run K fail
   | none => fail
  cl := fun _ _ _ _ _ => fail
  rf := fun _ _ _ _ _ => fail }
 | n + 1 => {
  lp := fun _ body _ _ st K => match L (firstReg body) with
   | some T => (T st).run K fail
   | none => fail
  cl := fun fn f as h K => match fn.body with
   | none => evYld cx (hdI cx L inls fail n) fail f as h K
   | some _ => match cx.pr f with
    | some M => match M as h with
     | some (b, rs, h') => cond b (K rs h') fail
     | none => fail
    | none => match find inls f with
     | some fn => evFun cx (hdI cx L inls fail n) fail fn f as h K
     | none => fail
  rf := fun _ _ _ _ _ => fail }
section
variable {P : Program} {cx : Cx} {ok : Nat → Prop} {w0 : World} {ρ : Rho} {st : St} {a : Act} {w : World}

theorem lp_put (hi : Inv cx ok w0 ρ st a w) {n b k s s' : Nat} {env : List V} {j j' : Option (Option Nat)} {r r' : Loop} (hk : lk st.heap n = some (.lp k env s j)) (hb : ρ n = some b) (hr : w.heap[b]? = some (.loop r)) (hl : RL' cx ρ (okc ok w0.heap.size st.heap ρ) w k env s j r)
    (h1 : r'.tmps = r.tmps) (h3 : r'.params = r.params) (h4 : r'.assign = r.assign) (h5 : r'.body = r.body) (h6 : r'.state = lsOf s') (h7 : r'.pending = jOf j') (fb : Nat) :
    Inv cx ok w0 ρ ⟨st.env, st.heap.set n (some (.lp k env s' j')), st.fb⟩ a (w.putObj b (.loop r')) ∧ Goes ok w0.heap.size fb ρ st.heap w ρ (st.heap.set n (some (.lp k env s' j'))) (w.putObj b (.loop r')) := by
 have hnl : n < st.heap.length := lk_lt (lkh hk)
 have hbl : b < w.heap.size := (Array.getElem?_eq_some_iff.1 hr).1
 have hlive : ∀ m, (lk (st.heap.set n (some (.lp k env s' j'))) m).isSome = (lk st.heap m).isSome := fun m => by
  by_cases e : m = n
  ·subst e; rw [lk_set_same hnl, hk]; rfl
  ·rw [lk_set_ne e]
 have he : ∀ q, okc ok w0.heap.size st.heap ρ q ↔ okc ok w0.heap.size (st.heap.set n (some (.lp k env s' j'))) ρ q := fun q => by
  unfold okc; simp only [hlive]
 have hne : ∀ q, okc ok w0.heap.size st.heap ρ q → q ≠ b := fun q hq e => hq.2 n (lkh hk) (by rw [hb, e])
 have hx : ∀ N, Ext N (okc ok w0.heap.size st.heap ρ) (okc ok w0.heap.size (st.heap.set n (some (.lp k env s' j'))) ρ) ρ ρ w (w.putObj b (.loop r')) := fun N =>
  ⟨fun _ _ _ e => e, fun q _ hq => World.putObj_heap_other (hne q hq), fun q _ h => (he q).1 h, fun q _ => by
   by_cases e : q = b
   ·subst e; unfold World.roomOf; rw [World.putObj_heap_same hbl, hr]
   ·unfold World.roomOf; rw [World.putObj_heap_other e], Nat.le_of_eq World.putObj_size.symm⟩
 refine ⟨⟨hi.size, fun t ht => Ext.all_V hx hi.hv.lt (hi.env t ht), fun m c hm => ?_, fun m1 m2 q hm1 hm2 => ?_, fun m q hm => by rw [World.putObj_size]; exact hi.own m q hm, fun m hm => hi.fresh m (by simpa using hm), ?_⟩, hx _, ⟨fun _ _ => rfl, fun m _ hd => ?_, fun h => by simpa using h⟩⟩
 ·have hm : lk (st.heap.set n (some (.lp k env s' j'))) m = some c := hm
  by_cases e : m = n
  ·subst e
   rw [lk_set_same hnl] at hm
   injection hm with hm; subst hm
   obtain ⟨l1, l2, l3, l4, l5⟩ := hl
   exact ⟨b, r', hb, World.putObj_heap_same hbl, by rw [h1]; exact l1, fun t ht => by rw [h1]; exact Ext.all_V hx hi.hv.lt (l2 t ht), by rw [h3, h4, h5]; exact l3, h6, h7⟩
  ·rw [lk_set_ne e] at hm
   exact Ext.all_B hx hi.hv.lt (fun q hq => World.putObj_heap_other (fun e2 => e (hi.inj m n b (lkh hm) (lkh hk) (e2 ▸ hq) hb))) (fun h => h) (hi.heap m c hm)
 ·have hm1 : (lk (st.heap.set n (some (.lp k env s' j'))) m1).isSome = true := hm1
  have hm2 : (lk (st.heap.set n (some (.lp k env s' j'))) m2).isSome = true := hm2
  rw [hlive] at hm1 hm2
  exact hi.inj m1 m2 q hm1 hm2
 ·have hob := (hi.own n b hb).1
  exact hi.below.trans ⟨rfl, rfl, rfl, Nat.le_of_eq World.putObj_size.symm, fun q hq => World.putObj_heap_other (by omega)⟩
 ·have := hlive m
  rw [hd] at this
  cases h : lk (st.heap.set n (some (.lp k env s' j'))) m with
  | none => rfl
  | some c => rw [h] at this; cases this

theorem setPs_ok : ∀ (ps : List Tmp) (as : List Arg) (xs : List Value) (env : List V) (tm : Array Value), ps.length = as.length → RAs cx ρ ok w as xs → tm.size = env.length → (∀ t, t < env.length → RV cx ρ ok w (env.getD t .any) (tm.getD t undef)) →
    ((ps.zip xs).foldl (fun (tm : Array Value) (p : Tmp × Value) => tm.setIfInBounds p.1 p.2) tm).size = (setPs ps as env).length ∧ ∀ t, t < (setPs ps as env).length → RV cx ρ ok w ((setPs ps as env).getD t .any) (((ps.zip xs).foldl (fun (tm : Array Value) (p : Tmp × Value) => tm.setIfInBounds p.1 p.2) tm).getD t undef)
 | [], as, xs, env, tm, hl, hr, hs, hv => by
  have : setPs [] as env = env := by cases as <;> rfl
  rw [this]
  exact ⟨hs, hv⟩
 | p :: ps, [], xs, env, tm, hl, hr, hs, hv => by cases hl
 | p :: ps, (g, cs) :: as, xs, env, tm, hl, hr, hs, hv => by
  cases xs with
  | nil => have := hr.1; cases this
  | cons x xs =>
   have hx : RA cx ρ ok w (g, cs) x := hr.2 0 (by simp)
   have hr' : RAs cx ρ ok w as xs := ⟨by have := hr.1; simpa using this, fun i hi => by simpa using hr.2 (i + 1) (by simpa using hi)⟩
   simp only [List.zip_cons_cons, List.foldl_cons, setPs]
   refine setPs_ok ps as xs _ _ (by simpa using hl) hr' (by simp [hs]) (fun t ht => ?_)
   have ht' : t < env.length := by simpa using ht
   by_cases e : p = t
   ·subst e
    have e1 : (env.set p (.v g cs)).getD p .any = .v g cs := by simp [List.getD_eq_getElem?_getD, ht']
    have e2 : (tm.setIfInBounds p x).getD p undef = x := by simp [hs, ht']
    rw [e1, e2]; exact hx
   ·have e1 : (env.set p (.v g cs)).getD t .any = env.getD t .any := by simp [List.getD_eq_getElem?_getD, List.getElem?_set, e]
    have e2 : (tm.setIfInBounds p x).getD t undef = tm.getD t undef := by simp [hs, ht', Array.getElem_setIfInBounds, e]
    rw [e1, e2]; exact hv t ht'

def RfB (cx : Cx) (B : Code → Prop) (G : RF → Prop) : Prop := ∀ k fid ps asg body, cx.rf k = some (fid, ps, asg, body) → ((∀ p ∈ loopsOf asg, B p) ∧ ∀ q ∈ rfsOf asg, G q) ∧ (∀ p ∈ loopsOf body, B p) ∧ ∀ q ∈ rfsOf body, G q

theorem evYld_ok {X : Type} {hd : Hd (Option X)} {B : Code → Prop} {G : RF → Prop} (hcx : CxOk P cx) (hga : GaOk P cx) (hH : HdOk P cx false hd B G) (hR : RfB cx B G) {n : Nat} {as : List Arg} {h : Heap} {K : List Arg → Heap → Option X} {x : X} (he : evYld cx hd none n as h K = some x) :
    ∃ rs h', YlSem P cx n as h rs h' ∧ K rs h' = some x := by
 unfold evYld at he
 split at he
 ·rename_i k env hlk
  split at he
  ·rename_i fid ps asg body hrf
   split at he
   ·rename_i hsz
    obtain ⟨⟨b1, b2⟩, b3, b4⟩ := hR _ _ _ _ _ hrf
    obtain ⟨e1, st1, l1, k1⟩ := code_adq hcx hga hH fid asg _ _ x b1 b2 he
    cases e1 with
    | exit id => cases k1
    | ret => cases k1
    | normal =>
     simp only at k1
     split at k1
     ·rename_i k2 env2 hlk2
      split at k1
      ·rename_i hkk
       subst hkk
       obtain ⟨e2, st2, l2, m2⟩ := code_adq hcx hga hH fid body _ _ x b3 b4 k1
       have fin : ∀ (jo : Option (Option Nat)) (jump : Option Code), jump = jOf jo → jump.isNone = jo.isNone → roundEnd n k2 K none st2 jo = some x →
           (∀ (P : Program) (l : Nat) (R : Ending → World → Prop) (a : Act) (w : World), (∃ v w', (Instr.endRound l jump).run P w = .ok v w' ∧ R (.returned v) w') → roundPost P l R (exOf e2) a w) → ∃ rs h', YlSem P cx n as h rs h' ∧ K rs h' = some x := fun jo jump hj hj2 hre hpost => by
        unfold roundEnd at hre
        split at hre
        ·rename_i k3 env3 hlk3
         split at hre
         ·rename_i hk3
          subst hk3
          have hc : ∀ w4 ok4, RD cx ok4 w4 (.sc (.bool jo.isNone)) (.bool jump.isNone) := fun _ _ => by rw [hj2]; exact RD.sc (.bool _)
          refine ⟨_, _, fun ok w0 ρ w xs b hi hxs hb => ?_, hre⟩
          have hnl : n < h.length := lk_lt (lkh hlk)
          obtain ⟨b', r, q1, q2, q3⟩ := hi.heap n _ hlk
          rw [hb] at q1; injection q1 with q1; subst q1
          obtain ⟨r1, r2, r3, r4, r5⟩ := q3
          obtain ⟨fid', r3⟩ := r3
          rw [hrf] at r3
          injection r3 with r3; injection r3 with r3a r3; injection r3 with r3b r3; injection r3 with r3c r3d
          have hys := run_yield (P := P) (args := xs.toArray) q2 (by rw [← r3b]; simp [hxs.1, hsz])
          refine ⟨r.fn, _, r.assign, r.body, hys, roundIn_of_wpIn (F := Fence.wide) trivial ?_⟩
          obtain ⟨z1, z2⟩ := setPs_ok ps.toList as xs env r.tmps (by simpa using hsz) hxs r1 r2
          have etm : (r.params.zip xs.toArray).foldl (fun tmps (x : Tmp × Value) => match x with | (t, a) => tmps.setIfInBounds t a) r.tmps = (ps.toList.zip xs).foldl (fun (tm : Array Value) (p : Tmp × Value) => tm.setIfInBounds p.1 p.2) r.tmps := by
           rw [← r3b, ← Array.foldl_toList]; simp
          have i0 : Inv cx ok w0 ρ ⟨setPs ps.toList as env, h, h.length⟩ { tmps := (ps.toList.zip xs).foldl (fun (tm : Array Value) (p : Tmp × Value) => tm.setIfInBounds p.1 p.2) r.tmps, defers := [] } w :=
           ⟨z1, z2, hi.heap, hi.inj, hi.own, hi.fresh, hi.below⟩
          have := l1.2 ok w0 ρ _ w (Exit.then (fun a₁ w₁ => ∃ w₂, (Instr.beginRound b).run P w₁ = .ok () w₂ ∧ body.wpIn (FW (some b)) 0 P (roundPost P b (fun e w' => ∃ x ρ', e = .returned x ∧ Goes ok w0.heap.size h.length ρ h w ρ' (st2.heap.set n (some (.lp k3 env3 (sOf jo) jo))) w' ∧ HInv cx ok w0 ρ' (st2.heap.set n (some (.lp k3 env3 (sOf jo) jo))) w' ∧ RV cx ρ' (okc ok w0.heap.size (st2.heap.set n (some (.lp k3 env3 (sOf jo) jo))) ρ') w' (valOf [(false, [.d (.sc (.bool jo.isNone))])]) x)) a₁ w₂) (fun _ _ _ => False)) i0 (Nat.le_refl _)
           (fun ρ1 a1 w1 i1 g1 _ => by
            have g1 : Goes ok w0.heap.size h.length ρ h w ρ1 st1.heap w1 := g1
            obtain ⟨b1', rr, t1, t2, t3⟩ := i1.heap n _ hlk2
            have hb1 : ρ1 n = some b := by rw [g1.grow.rho n hnl]; exact hb
            rw [hb1] at t1; injection t1 with t1; subst t1
            refine ⟨_, run_beginRound t2 t3.2.2.2.1, ?_⟩
            have fb1 : st1.fb = h.length := l1.1
            obtain ⟨i2, g2⟩ := lp_put (s' := 1) (j' := none) (r' := { rr with state := .busy }) i1 hlk2 hb1 t2 t3 rfl rfl rfl rfl rfl t3.2.2.2.2 h.length
            refine l2.2 ok w0 ρ1 a1 _ _ i2 (by show st1.fb ≤ (st1.heap.set n _).length; rw [List.length_set, fb1]; exact g1.grow.len (Nat.le_refl _)) (fun ρ3 a3 w3 i3 g3 _ => ?_) (some b) (by intro h; cases h)
            have g3 : Goes ok w0.heap.size st1.fb ρ1 (st1.heap.set n (some (.lp k3 env2 1 none))) (w1.putObj b (.loop { rr with state := .busy })) ρ3 st2.heap w3 := g3
            rw [fb1] at g3
            have hb3 : ρ3 n = some b := by rw [g3.grow.rho n hnl]; exact hb1
            obtain ⟨b3', r3', u1, u2, u3⟩ := i3.heap n _ hlk3
            rw [hb3] at u1; injection u1 with u1; subst u1
            refine hpost P b _ a3 w3 ⟨_, _, run_endRound jump u2, ?_⟩
            obtain ⟨i4, g4⟩ := lp_put (s' := sOf jo) (j' := jo) (r' := { r3' with state := if jump.isNone then .ready else .done, pending := jump }) i3 hlk3 hb3 u2 u3 rfl rfl rfl rfl (by cases jo <;> simp [hj2, lsOf, sOf]) hj h.length
            exact ⟨_, ρ3, rfl, ((g1.trans g2).trans g3).trans g4, i4.hv, ⟨_, rfl, hc _ _⟩⟩) (some b) (by intro h; cases h)
          rw [etm, ← r3c, ← r3d]
          exact this
         ·cases hre
        ·cases hre
       cases e2 with
       | normal => exact fin none none rfl rfl m2 (fun P l R a w h => h)
       | ret => exact fin (some none) (some .ret) rfl rfl m2 (fun P l R a w h => h)
       | exit id => exact fin (some (some id)) (some (.exit id)) rfl rfl m2 (fun P l R a w h => h)
      ·cases k1
     ·cases k1
   ·cases he
  ·cases he
 ·cases he
end

def PrB (P : Program) (cx : Cx) : Prop := ∀ f M fn as h rs h', cx.pr f = some M → FnOk P f fn → M as h = some (true, rs, h') → ClSem P cx fn f as h rs h'
theorem hdI_ok {X : Type} {P : Program} {cx : Cx} {L : Loops2} {inls : List (Nat × Func)} {B : Code → Prop} (hcx : CxOk P cx) (hga : GaOk P cx) (hR : RfB cx B (fun _ => True)) (hP : PrB P cx) (hi : ∀ p ∈ inls, FnOk P p.1 p.2 ∧ ∀ c, p.2.body = some c → ∀ b ∈ loopsOf c, B b)
    (h : ∀ body T, B body → L (firstReg body) = some T → LoopOk P cx body T) : ∀ n, HdOk (X := X) P cx false (hdI cx L inls none n) B (fun _ => True)
 | 0 => by
  refine ⟨(by intro _ _ _ _ _ _ h; cases h), fun f body hs base st K x hB he => ?_, (by intro _ _ _ _ _ _ h; cases h)⟩
  simp only [hdI] at he
  split at he
  ·rename_i T hT
   obtain ⟨e, st', h1, h2⟩ := Tree.run_eval he
   exact ⟨e, st', h body T hB hT st e st' h1, h2⟩
  ·cases he
 | n + 1 => by
  refine ⟨fun fn f as hp K x he => ?_, fun f body hs base st K x hB he => ?_, (by intro _ _ _ _ _ _ h; cases h)⟩
  ·simp only [hdI] at he
   split at he
   ·rename_i hbody
    obtain ⟨rs, h', h1, h2⟩ := evYld_ok hcx hga (hdI_ok hcx hga hR hP hi h n) hR he
    refine ⟨rs, h', ?_, h2⟩
    unfold ClSem; rw [hbody]; exact h1
   ·rename_i c0 hbody
    split at he
    ·rename_i M hM
     split at he
     ·rename_i b rs h' hm
      cases b with
      | false => cases he
      | true => exact ⟨rs, h', ClSem.of hbody fun hfn => (hP f M fn as hp rs h' hM hfn hm).fn hfn, he⟩
     ·cases he
    ·split at he
     ·rename_i fn' hf
      obtain ⟨q1, q2⟩ := hi _ (find_mem _ _ _ hf)
      obtain ⟨rs, h', h1, h2⟩ := fun_adq hcx hga (hdI_ok hcx hga hR hP hi h n) (fun c hc => ⟨q2 c hc, fun _ _ => trivial⟩) he
      refine ⟨rs, h', ClSem.of hbody fun hfn => ?_, h2⟩
      have : fn = fn' := by have a := hfn.at_; rw [q1.at_] at a; injection a with a; exact a.symm
      subst this
      exact h1.fn hfn
     ·cases he
  ·simp only [hdI] at he
   split at he
   ·rename_i T hT
    obtain ⟨e, st', h1, h2⟩ := Tree.run_eval he
    exact ⟨e, st', h body T hB hT st e st' h1, h2⟩
   ·cases he

def mkCx2 (tab : List (Option TI)) (gas : List (Nat × Con)) (invs : List (String × Con)) (hints : List (Nat × Nat × Hint)) (inls : List (Nat × Func)) : Cx :=
 { tt := fun T => tab.getD T none, ga := find gas, inl := find inls, inv := findS invs,
   hint := fun f r => match hints.find? (fun h => h.1 == f && h.2.1 == r) with
    | some h => h.2.2
    | none => { keep := [], acc := [] }
   wide := hints.any fun h => h.1 == 999999 }
theorem rfB_none {tab : List (Option TI)} {gas : List (Nat × Con)} {invs : List (String × Con)} {hints : List (Nat × Nat × Hint)} {inls : List (Nat × Func)} {B : Code → Prop} : RfB (mkCx2 tab gas invs hints inls) B (fun _ => True) := by intro _ _ _ _ _ h; cases h
theorem prB_none {P : Program} {tab : List (Option TI)} {gas : List (Nat × Con)} {invs : List (String × Con)} {hints : List (Nat × Nat × Hint)} {inls : List (Nat × Func)} : PrB P (mkCx2 tab gas invs hints inls) := by intro f M fn as h rs h' hm; cases hm
structure Ready (P : Program) (tab : List (Option TI)) (gas : List (Nat × Con)) (invs : List (String × Con)) (inls : List (Nat × Func)) : Prop where
 ga : ∀ p ∈ gas, Stands P tab p.1 p.2
 inv : ∀ p ∈ invs, StandsI P tab p.1 p.2
 inl : ∀ p ∈ inls, FnOk P p.1 p.2
theorem Ready.gaOk {P : Program} {tab : List (Option TI)} {gas : List (Nat × Con)} {invs : List (String × Con)} {inls : List (Nat × Func)} {hints : List (Nat × Nat × Hint)} (h : Ready P tab gas invs inls) : GaOk P (mkCx2 tab gas invs hints inls) :=
 ⟨fun f G hG => EntOk.tt (cx := mkCx tab [] [] []) (cx' := mkCx2 tab gas invs hints inls) rfl (h.ga (f, G) (find_mem _ _ _ hG)), fun m G hG => EntOk.tt (cx := mkCx tab [] [] []) (cx' := mkCx2 tab gas invs hints inls) rfl (h.inv (m, G) (findS_mem _ _ _ hG)), fun f fn hf => h.inl (f, fn) (find_mem _ _ _ hf)⟩

def loopsIn (fn : Func) (inls : List (Nat × Func)) : List Code := (match fn.body with | some c => loopsOf c | none => []) ++ (inls.map fun p => match p.2.body with | some c => loopsOf c | none => []).flatten

def loopsAll : Code → List Code
 | .loop p => p :: loopsAll p
 | .seq a b | .cond _ a b => loopsAll a ++ loopsAll b
 | .block _ a | .scope a => loopsAll a
 | _ => []
def loopBy (fn : Func) (r : Nat) : Code := match fn.body with
 | some c => ((loopsAll c).find? fun b => firstReg b == r).getD .skip
 | none => .skip
def loopsInl (inls : List (Nat × Func)) : List Code := (inls.map fun p => match p.2.body with | some c => loopsOf c | none => []).flatten

theorem loop_ok2 {V : Type} {P : Program} {tab : List (Option TI)} {gas : List (Nat × Con)} {invs : List (String × Con)} {hints : List (Nat × Nat × Hint)} {inls : List (Nat × Func)} {L : Loops2} {n : Nat} (hcx : CxOk P (mkCx2 tab gas invs hints inls)) (h : Ready P tab gas invs inls)
    {f : FuncId} {body : Code} {Bs : List Code} (hB : loopsOf body ++ loopsInl inls = Bs) (hL : ∀ b ∈ Bs, ∀ T, L (firstReg b) = some T → LoopOk P (mkCx2 tab gas invs hints inls) b T)
    {hs : List Nat} {base : Nat} {keepX : List Nat} {mk : V → St} {ex : Nat → V → Ex × St} {r : V → Option (Option Nat × V)}
    (hr : ∀ v, round2 (mkCx2 tab gas invs hints inls) (hdI (mkCx2 tab gas invs hints inls) L inls none n) f body hs base keepX (mk v) = (r v).map (roundOut mk ex)) (hx : ∀ j v, exOk (ex j v).1 = true) :
    ∀ v j v', Lp r v = some (j, v') → Circles P (mkCx2 tab gas invs hints inls) body (mk v) (ex j v').1 (ex j v').2 := by
 refine loop_win hcx h.gaOk (hdI_ok (B := fun b => b ∈ Bs) hcx h.gaOk rfB_none prB_none (fun p hp => ⟨h.inl p hp, fun c hc b hb => ?_⟩) (fun b T hb hT => hL b hb T hT) n) ⟨fun p hp => ?_, fun _ _ => trivial⟩ hr hx
 ·rw [← hB]
  refine List.mem_append.2 (.inr (List.mem_flatten.2 ⟨loopsOf c, ?_, hb⟩))
  refine List.mem_map.2 ⟨p, hp, ?_⟩
  rw [hc]
 ·rw [← hB]
  exact List.mem_append.2 (.inl hp)

theorem win {T : Type} {o : Option T} {ret : Bool → T → Ret} {E : Option Ret} (d : T) (h : E = o.map (ret true)) (hok : o.isSome = true) : E = some (ret true (o.getD d)) := by
 cases o with
 | none => cases hok
 | some x => exact h

theorem noneI2 {P : Program} {tab : List (Option TI)} : ∀ p ∈ ([] : List (String × Con)), StandsI P tab p.1 p.2 := fun p hp => by cases hp
theorem noneG2 {P : Program} {tab : List (Option TI)} : ∀ p ∈ ([] : List (Nat × Con)), Stands P tab p.1 p.2 := fun p hp => by cases hp
theorem noneF2 {P : Program} : ∀ p ∈ ([] : List (Nat × Func)), FnOk P p.1 p.2 := fun p hp => by cases hp
theorem consG2 {P : Program} {tab : List (Option TI)} {f : Nat} {G : Con} {l : List (Nat × Con)} (h : Stands P tab f G) (hl : ∀ p ∈ l, Stands P tab p.1 p.2) : ∀ p ∈ (f, G) :: l, Stands P tab p.1 p.2 := fun p hp => by
 rcases List.mem_cons.1 hp with rfl | hp
 ·exact h
 ·exact hl p hp
theorem consI2 {P : Program} {tab : List (Option TI)} {f : String} {G : Con} {l : List (String × Con)} (h : StandsI P tab f G) (hl : ∀ p ∈ l, StandsI P tab p.1 p.2) : ∀ p ∈ (f, G) :: l, StandsI P tab p.1 p.2 := fun p hp => by
 rcases List.mem_cons.1 hp with rfl | hp
 ·exact h
 ·exact hl p hp
theorem consF2 {P : Program} {f : Nat} {fn : Func} {l : List (Nat × Func)} (h : FnOk P f fn) (hl : ∀ p ∈ l, FnOk P p.1 p.2) : ∀ p ∈ (f, fn) :: l, FnOk P p.1 p.2 := fun p hp => by
 rcases List.mem_cons.1 hp with rfl | hp
 ·exact h
 ·exact hl p hp
theorem nilB {P : Program} {cx : Cx} {L : Loops2} : ∀ b ∈ ([] : List Code), ∀ T, L (firstReg b) = some T → LoopOk P cx b T := fun b hb => by cases hb
theorem consB {P : Program} {cx : Cx} {L : Loops2} {b : Code} {l : List Code} (h : ∀ T, L (firstReg b) = some T → LoopOk P cx b T) (hl : ∀ b ∈ l, ∀ T, L (firstReg b) = some T → LoopOk P cx b T) : ∀ c ∈ b :: l, ∀ T, L (firstReg c) = some T → LoopOk P cx c T := fun c hc => by
 rcases List.mem_cons.1 hc with rfl | hc
 ·exact h
 ·exact hl c hc
end Go.Eng
