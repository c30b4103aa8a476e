/- Calls by contract. -/
import Derived.Test.YtnafjjkjogngjaaE17
set_option linter.unusedVariables false
set_option linter.unusedSimpArgs false
namespace Go.Eng
open Go Go.RowKit

/-- an operation comes to a value and a heap -/
def Sim (P : Program) (cx : Cx) (ok : Nat → Prop) (w0 : World) (ρ : Rho) (st : St) (a : Act) (w : World) (nm : Nat) (o : Oper) (v : V) (h' : Heap) : Prop :=
  ∀ (next : Act → World → Prop) (Q : Exit → Act → World → Prop), (∀ ρ' w' x, (∀ n, n ≠ nm → ρ' n = ρ n) → (∀ N, Ext N (okc ok w0.heap.size st.heap ρ) (okc ok w0.heap.size h' ρ') ρ ρ' w w') → HInv cx ok w0 ρ' h' w' →
    RV cx ρ' (okc ok w0.heap.size h' ρ') w' v x → next (a.put o.dst x) w') → o.wp P a w next Q

def one (nm : Nat) (ob : Option Nat) : Rho := fun n => if n = nm then ob else none

def okR (ok : Nat → Prop) (w : World) (ob : Option Nat) (k : Nat) : Prop := (ok k ∨ w.heap.size ≤ k) ∧ ob ≠ some k

def nameVals (nm : Nat) (vs : List Arg) : List Arg := vs.map fun (g, cs) => (g, cs.map (ownTo nm))

/-- what a call by contract has come to -/
def RowIs (cx : Cx) (ok : Nat → Prop) (w : World) (ob : Option Nat) : Option (TypeId × (t : ET) × List (Ty t)) → Prop
  | none => True
  | some (T, ⟨t, l⟩) => RB cx (one 0 ob) ok w 0 (.arr T t l)
def After (cx : Cx) (ok : Nat → Prop) (w : World) (r : Ret) (e : Ending) (w' : World) : Prop :=
  ∃ x ob, e = .returned x ∧ Below w.heap.size w w' ∧ (∀ b, ob = some b → w.heap.size ≤ b ∧ b < w'.heap.size) ∧ RowIs cx (okR ok w ob) w' ob r.row ∧ ∀ nm, RV cx (one nm ob) (okR ok w ob) w' (valOf (nameVals nm r.vals)) x

def EntOk (P : Program) (cx : Cx) (go : List Value → Sem Next) (G : List DArg → Option Ret) : Prop :=
  ∀ das r, G das = some r → r.ok = true → ∀ ok w xs, RAs cx (fun _ => none) ok w (liftA das) xs → ∃ f xs', (go xs).run P w = .ok (.enter f xs') w ∧ Calls P f xs' w (After cx ok w r)

structure FnOk (P : Program) (f : FuncId) (fn : Func) : Prop where
  at_ : P.funcs[f]? = some fn
  name : (fn.name == "runtime.NumGoroutine") = false
  body : fn.body.isNone = false

structure GaOk (P : Program) (cx : Cx) : Prop where
  ga : ∀ f G, cx.ga f = some G → EntOk P cx (fun xs => callFunc f xs.toArray) G
  inv : ∀ m G, cx.inv m = some G → EntOk P cx (fun xs => invoke (.fn (.method m) #[]) xs.toArray) G
  inl : ∀ f fn, cx.inl f = some fn → FnOk P f fn

section
variable {P : Program} {cx : Cx} {ok : Nat → Prop} {w0 : World} {ρ : Rho} {st : St} {a : Act} {w : World} {h : Heap}

theorem Does.sim {nm : Nat} {o : Oper} {v : V} {h' : Heap} (hd : Does P cx ok w0 ρ st a w nm o v h') : Sim P cx ok w0 ρ st a w nm o v h' := by
  obtain ⟨ρ', w', nx, x, h1, h2, h3, h4, h5, h6⟩ := hd
  intro next Q K
  have := K ρ' w' x h3 h4 h5 h6
  unfold Oper.wp
  rw [h1]
  rcases h2 with rfl | ⟨rfl, rfl⟩
  · exact this
  · exact this
theorem Gives.does (hi : Inv cx ok w0 ρ st a w) {nm : Nat} {o : Oper} {v : V} (hg : Gives P cx ok w0 ρ st a w o v) : Does P cx ok w0 ρ st a w nm o v st.heap := by
  obtain ⟨x, h1, h2⟩ := hg
  exact ⟨ρ, w, _, x, h1, .inl rfl, fun _ _ => rfl, fun N => Ext.refl N _ _ _, hi.hv, h2⟩

theorem run_callFunc {f : FuncId} {fn : Func} (hf : FnOk P f fn) (xs : Array Value) : (callFunc f xs).run P w = .ok (.enter f xs) w := by
  obtain ⟨h1, h2, h3⟩ := hf
  have h3' : fn.body ≠ none := by intro e; rw [e] at h3; cases h3
  have h2' : fn.name ≠ "runtime.NumGoroutine" := by simpa using h2
  simp [callFunc, h1, h2', h3']

theorem RAs_dist {das : List DArg} {xs : List Value} {ρ' : Rho} (h : RAs cx ρ ok w (liftA das) xs) : RAs cx ρ' ok w (liftA das) xs := by
  refine ⟨h.1, fun j hj => ?_⟩
  have h1 := h.2 j hj
  have hj' : j < das.length := by simpa [liftA] using hj
  obtain ⟨g, ds, e⟩ : ∃ g ds, (liftA das).getD j (false, []) = (g, ds.map C.d) := ⟨das[j].1, das[j].2, by simp [liftA, List.getD_eq_getElem?_getD, hj']⟩
  rw [e] at h1 ⊢
  have key : ∀ vs : List Value, RCs cx ρ ok w (ds.map C.d) vs → RCs cx ρ' ok w (ds.map C.d) vs := fun vs hr => ⟨hr.1, fun q hq => by
    have := hr.2 q hq
    have hq' : q < ds.length := by simpa using hq
    have e2 : (ds.map C.d).getD q (.d .nils) = .d (ds.getD q .nils) := by simp [List.getD_eq_getElem?_getD, hq']
    rw [e2] at this ⊢
    exact this⟩
  cases g with
  | true => obtain ⟨vs, h2, h3⟩ := h1; exact ⟨vs, h2, key vs h3⟩
  | false =>
    obtain ⟨c, h2, h3⟩ := h1
    refine ⟨c, h2, ?_⟩
    match ds, h2 with
    | [d], h2 => injection h2 with h2; subst h2; exact h3

theorem kill_less (ks : List Nat) (h : Heap) : Less h (kill h ks) ks :=
  ⟨fun n hn => by rw [lk_kill, if_pos hn], fun n hn => by
    rw [lk_kill] at hn
    split at hn
    · cases hn
    · exact hn⟩

/-- the heap behind a call by contract -/
def callHeap (h : Heap) (ks : List Nat) (nm : Nat) : Option (TypeId × (t : ET) × List (Ty t)) → Heap
  | none => kill h ks
  | some (e, ⟨t, l⟩) => (kill h ks).set nm (some (.arr e t l))

theorem one_sub {nm : Nat} {ob : Option Nat} {n b : Nat} (h : one nm ob n = some b) : n = nm ∧ ob = some b := by
  unfold one at h
  split at h
  · exact ⟨‹_›, h⟩
  · cases h

theorem after_ok (hi : HInv cx ok w0 ρ h w) {nm : Nat} (hρ : ρ nm = none) (hl : nm < h.length) (hk : lk h nm = none) {ks : List Nat} {r : Ret} {w' : World} {x : Value} {ob : Option Nat}
    (hb : Below w.heap.size w w') (ho : ∀ b, ob = some b → w.heap.size ≤ b ∧ b < w'.heap.size) (hrow : RowIs cx (okR (okc ok w0.heap.size (kill h ks) ρ) w ob) w' ob r.row) (hv : ∀ nm, RV cx (one nm ob) (okR (okc ok w0.heap.size (kill h ks) ρ) w ob) w' (valOf (nameVals nm r.vals)) x) :
    (∀ N, Ext N (okc ok w0.heap.size h ρ) (okc ok w0.heap.size (callHeap h ks nm r.row) (upd ρ nm ob)) ρ (upd ρ nm ob) w w') ∧ HInv cx ok w0 (upd ρ nm ob) (callHeap h ks nm r.row) w' ∧
      RV cx (upd ρ nm ob) (okc ok w0.heap.size (callHeap h ks nm r.row) (upd ρ nm ob)) w' (valOf (nameVals nm r.vals)) x := by
  have hless := kill_less ks h
  have live : ∀ n, (lk (callHeap h ks nm r.row) n).isSome = true → n ≠ nm → (lk (kill h ks) n).isSome = true := fun n hn hne => by
    unfold callHeap at hn
    split at hn
    · exact hn
    · rwa [lk_set_ne hne] at hn
  have hsz : w0.heap.size ≤ w.heap.size := hi.below.size
  have hsz' : w.heap.size ≤ w'.heap.size := hb.size
  -- what the callee's data may lie in is what the caller's may
  have okto : ∀ k, okR (okc ok w0.heap.size (kill h ks) ρ) w ob k → okc ok w0.heap.size (callHeap h ks nm r.row) (upd ρ nm ob) k := fun k hkk => ⟨by
    rcases hkk.1 with h1 | h1
    · exact h1.1
    · exact .inr (by omega), fun n hn e => by
    by_cases hne : n = nm
    · subst hne; rw [upd_same] at e; exact hkk.2 e
    · rw [upd_ne hne] at e
      rcases hkk.1 with h1 | h1
      · exact h1.2 n (live n hn hne) e
      · have := (hi.own n k e).2; omega⟩
  have hx : ∀ N, Ext N (okc ok w0.heap.size h ρ) (okc ok w0.heap.size (callHeap h ks nm r.row) (upd ρ nm ob)) ρ (upd ρ nm ob) w w' := fun N => by
    refine ⟨fun n b _ e => ?_, fun k hk _ => hb.block k hk, fun k hk hok => ⟨hok.1, fun n hn e => ?_⟩, fun k hk => roomOf_eq (hb.block k hk), hsz'⟩
    · have : n ≠ nm := fun e2 => by rw [e2, hρ] at e; cases e
      rw [upd_ne this]; exact e
    · by_cases hne : n = nm
      · subst hne; rw [upd_same] at e; have := (ho k e).1; omega
      · rw [upd_ne hne] at e; exact hok.2 n (hless.live n (live n hn hne)) e
  have hself : ∀ N, Ext N (okR (okc ok w0.heap.size (kill h ks) ρ) w ob) (okc ok w0.heap.size (callHeap h ks nm r.row) (upd ρ nm ob)) (one nm ob) (upd ρ nm ob) w' w' := fun N =>
    ⟨fun n b _ e => by obtain ⟨rfl, e2⟩ := one_sub e; rw [upd_same]; exact e2, fun _ _ _ => rfl, fun k _ hk => okto k hk, fun _ _ => rfl, Nat.le_refl _⟩
  refine ⟨hx, ⟨fun n c hn => ?_, fun n m k hn hm e1 e2 => ?_, fun n k e => ?_, fun n hn => ?_, hi.below.trans (hb.mono hsz)⟩, Ext.all_V hself (fun n b e => (ho b (one_sub e).2).2) (hv nm)⟩
  · by_cases hne : n = nm
    · subst hne
      unfold callHeap at hn hx okto
      split at hn
      · rename_i hr
        have := hless.live n (lk_some hn)
        rw [hk] at this; cases this
      · rename_i T t l hr
        rw [lk_set_same (by rw [kill_length]; exact hl)] at hn
        injection hn with hn; subst hn
        rw [hr] at hrow
        have hrow' : RB cx (one 0 ob) (okR (okc ok w0.heap.size (kill h ks) ρ) w ob) w' 0 (.arr T t l) := hrow
        rcases hrow' with ⟨q1, q2⟩ | ⟨b, vs, q1, q2, q3, q4⟩
        · exact .inl ⟨q1, by rw [upd_same]; exact q2⟩
        · refine .inr ⟨b, vs, by rw [upd_same]; exact (one_sub q1).2, q2, q3, fun i j hi' hj => (q4 i j hi' hj).ext (fun _ _ _ => rfl) (fun k _ hk => ?_) (Nat.le_refl _)⟩
          exact okto k hk
    · have hn' : lk h n = some c := by
        have h1 := live n (lk_some hn) hne
        have e1 : lk (kill h ks) n = some c := by
          unfold callHeap at hn
          split at hn
          · exact hn
          · rwa [lk_set_ne hne] at hn
        rw [lk_kill] at e1
        split at e1
        · cases e1
        · exact e1
      exact Ext.all_B hx hi.lt (fun k hk => hb.block k (hi.lt n k hk)) (fun h0 => by rw [upd_ne hne]; exact h0) (hi.heap n c hn')
  · by_cases h1 : n = nm <;> by_cases h2 : m = nm
    · rw [h1, h2]
    · rw [h1, upd_same] at e1; rw [upd_ne h2] at e2; have := (ho k e1).1; have := (hi.own m k e2).2; omega
    · rw [h2, upd_same] at e2; rw [upd_ne h1] at e1; have := (ho k e2).1; have := (hi.own n k e1).2; omega
    · rw [upd_ne h1] at e1; rw [upd_ne h2] at e2
      exact hi.inj n m k (hless.live n (live n hn h1)) (hless.live m (live m hm h2)) e1 e2
  · by_cases hne : n = nm
    · subst hne; rw [upd_same] at e; have := ho k e; exact ⟨by omega, this.2⟩
    · rw [upd_ne hne] at e; have := hi.own n k e; exact ⟨this.1, by omega⟩
  · have e : (callHeap h ks nm r.row).length = h.length := by
      unfold callHeap
      split <;> simp [kill_length]
    have : n ≠ nm := by omega
    rw [upd_ne this]; exact hi.fresh n (by omega)

theorem lend_rc {ok1 ok2 : Nat → Prop} {w : World} {c : C} {x : Value} (hc : lendC c = true) (h : RC cx ρ ok1 w c x) : RC cx ρ ok2 w c x := by
  cases c with
  | d y =>
    cases y with
    | sc s =>
      have h : RD cx ok1 w (.sc s) x := h
      cases h
      exact RD.sc s
    | th y =>
      have h : RD cx ok1 w (.th y) x := h
      cases h with
      | nilI => exact RD.nilI
      | one T s h1 => exact RD.one T s h1
      | val T v h1 => exact RD.val T v h1
    | sl _ _ _ _ => cases hc
    | nils => cases hc
    | fn _ _ _ => cases hc
    | ref _ => cases hc
    | nilf => cases hc
  | own n t full off len => exact h
  | ptr _ _ => cases hc
  | ep _ _ _ _ => cases hc
  | clo _ _ _ => cases hc
theorem lend_ra {ok1 ok2 : Nat → Prop} {w : World} {a : Arg} {x : Value} (hc : a.2.all lendC = true) (h : RA cx ρ ok1 w a x) : RA cx ρ ok2 w a x := by
  obtain ⟨g, cs⟩ := a
  cases g with
  | true =>
    obtain ⟨vs, h1, h2⟩ := h
    exact ⟨vs, h1, h2.1, fun j hj => lend_rc (List.all_eq_true.1 hc _ (getD_mem hj)) (h2.2 j hj)⟩
  | false =>
    obtain ⟨c, h1, h2⟩ := h
    refine ⟨c, h1, lend_rc (List.all_eq_true.1 hc _ ?_) h2⟩
    rw [h1]; exact List.mem_singleton.2 rfl
theorem lend_own {nm : Nat} {c : C} (h : lendC c = true) : lendC (ownTo nm c) = true := by
  cases c with
  | own _ _ _ _ _ => rfl
  | d _ => exact h
  | ptr _ _ => exact h
  | ep _ _ _ _ => exact h
  | clo _ _ _ => exact h
theorem lend_rv {ok1 ok2 : Nat → Prop} {w : World} {nm : Nat} {vals : List Arg} {x : Value} (hc : (vals.all fun a => a.2.all lendC) = true) (h : RV cx ρ ok1 w (valOf (nameVals nm vals)) x) : RV cx ρ ok2 w (valOf (nameVals nm vals)) x := by
  have key : ∀ a ∈ nameVals nm vals, a.2.all lendC = true := fun a ha => by
    simp only [nameVals, List.mem_map] at ha
    obtain ⟨⟨g, cs⟩, hg, rfl⟩ := ha
    have := List.all_eq_true.1 hc _ hg
    simp only [List.all_map, List.all_eq_true] at this ⊢
    exact fun c hcc => lend_own (this c hcc)
  generalize nameVals nm vals = vs at h key
  match vs, h with
  | [], _ => trivial
  | [(g, cs)], h => exact lend_ra (a := (g, cs)) (key _ (List.mem_singleton.2 rfl)) h
  | g1 :: g2 :: r, h =>
    obtain ⟨xs, e1, h1⟩ := h
    exact ⟨xs, e1, h1.1, fun j hj => lend_ra (key _ (getD_mem hj)) (h1.2 j hj)⟩
theorem flat_cell {ok1 ok2 : Nat → Prop} {w : World} {t : ET} (hf : t.flat = true) (y : Ty t) {j : Nat} (hj : j < width t) {x : Value} (h : RD cx ok1 w ((enc t y).getD j .nils) x) : RD cx ok2 w ((enc t y).getD j .nils) x := by
  have hl : lendC (.d ((enc t y).getD j .nils)) = true := by
    have hall : ((enc t y).all fun d => lendC (.d d)) = true := by
      cases t <;> first | rfl | cases hf
    exact List.all_eq_true.1 hall _ (getD_mem (by rw [enc_length]; exact hj))
  exact lend_rc (ρ := fun _ => none) (c := .d _) hl h
theorem lend_row {ok1 ok2 : Nat → Prop} {w : World} {n : Nat} {T : TypeId} {t : ET} {l : List (Ty t)} (hf : t.flat = true) (h : RB cx ρ ok1 w n (.arr T t l)) : RB cx ρ ok2 w n (.arr T t l) := by
  rcases h with h1 | ⟨b, vs, h1, h2, h3, h4⟩
  · exact .inl h1
  · exact .inr ⟨b, vs, h1, h2, h3, fun i j hi hj => flat_cell hf _ hj (h4 i j hi hj)⟩

theorem sim_gam (hi : Inv cx ok w0 ρ st a w) {nm : Nat} (hρ : ρ nm = none) (hl : nm < st.heap.length) (hk : lk st.heap nm = none) {o : Oper} {go : List Value → Sem Next} {G : List DArg → Option Ret} (hG : EntOk P cx go G) {as : List Arg} {xs : List Value}
    (hxs : RAs cx ρ (okc ok w0.heap.size st.heap ρ) w as xs) (hrun : ∀ f ys, (go xs).run P w = .ok (.enter f ys) w → (execOp a.eval o).run P w = .ok (.enter f ys) w) {e : Eff} (he : callG G nm st.heap as = some e) (hok : e.ok = true) : Sim P cx ok w0 ρ st a w nm o e.val e.heap := by
  unfold callG at he
  split at he
  · cases he
  · rename_i ds ks p hd
    split at he
    · cases he
    · rename_i r hr
      injection he with he; subst he
      simp only [Bool.and_eq_true] at hok
      have hargs := demArgs_ok hi.hv (h' := kill st.heap ks) as ds ks p xs hd hok.1 (kill_less ks st.heap) hxs (fun _ => none)
      obtain ⟨f, ys, h1, h2⟩ := hG ds r hr hok.2 _ w xs hargs
      intro next Q K
      have h3 := hrun f ys h1
      unfold Oper.wp
      rw [h3, Oper.upon_enter]
      refine h2.mono fun e w' ha => ?_
      obtain ⟨x, ob, rfl, hb, ho, hrow, hv⟩ := ha
      cases hle : r.lends with
      | false =>
        obtain ⟨k1, k2, k3⟩ := after_ok hi.hv hρ hl hk hb ho hrow hv
        rcases r with ⟨ro, row, vals⟩
        simp only [lentOf, hle] at K
        rcases row with _ | ⟨T, t, l⟩
        · exact K (upd ρ nm ob) w' x (fun n hn => upd_ne hn) k1 k2 k3
        · exact K (upd ρ nm ob) w' x (fun n hn => upd_ne hn) k1 k2 k3
      | true =>
        rcases r with ⟨ro, row, vals⟩
        simp only [Ret.lends, Bool.and_eq_true] at hle
        have hlents : Ret.lends ⟨ro, row, vals⟩ = true := by simp only [Ret.lends, Bool.and_eq_true]; exact hle
        simp only [lentOf, hlents, if_true] at K
        have hv2 : ∀ nm, RV cx (one nm ob) (okR (okc ok w0.heap.size (kill st.heap []) ρ) w ob) w' (valOf (nameVals nm vals)) x := fun nm => lend_rv hle.1 (hv nm)
        rcases row with _ | ⟨T, t, l⟩
        · obtain ⟨k1, k2, k3⟩ := after_ok (ks := []) (r := ⟨ro, none, vals⟩) hi.hv hρ hl hk hb ho trivial hv2
          exact K (upd ρ nm ob) w' x (fun n hn => upd_ne hn) k1 k2 k3
        · have hrow2 : RowIs cx (okR (okc ok w0.heap.size (kill st.heap []) ρ) w ob) w' ob (some (T, ⟨t, l⟩)) := lend_row (cx := cx) hle.2 hrow
          obtain ⟨k1, k2, k3⟩ := after_ok (ks := []) (r := ⟨ro, some (T, ⟨t, l⟩), vals⟩) hi.hv hρ hl hk hb ho hrow2 hv2
          exact K (upd ρ nm ob) w' x (fun n hn => upd_ne hn) k1 k2 k3
end
end Go.Eng
