/- Operations that read and reckon alone, sixth part: slices' parts, lengths. -/
import Derived.Test.YtnafjjkjogngjaaE10
set_option linter.unusedVariables false
set_option linter.unusedSimpArgs false
namespace Go.Eng
open Go Go.RowKit

def isB : Option Value → Option Int → Prop
  | none, none => True
  | some v, some n => ∃ k, v = .int k n
  | _, _ => False

section
variable {P : Program} {cx : Cx} {ok : Nat → Prop} {w0 : World} {ρ : Rho} {st : St} {a : Act} {w : World}

theorem isB_of (hi : Inv cx ok w0 ρ st a w) {x : Option Operand} {n : Option Int} (h : bnd st.env x = some n) : isB (x.map a.eval) n := by
  unfold bnd at h
  split at h
  · injection h with h; subst h; trivial
  · rename_i x
    split at h
    · rename_i k m hx
      injection h with h; subst h
      exact ⟨k, op_sc hi hx⟩
    · cases h

theorem run_bound {k : IntKind} {n : Int} {y : Nat} {code : BoundsCode} (h0 : 0 ≤ n) (h1 : n ≤ y) : (Instr.sliceBound (.int k n) y code).run P w = .ok n.toNat w := by
  simp [Instr.sliceBound, asIntOf, h0, h1]

theorem run_sliceBounds {s : Bool} {len cap : Nat} {lo hi mx : Option Int} {lv hv mv : Option Value} (hl : isB lv lo) (hh : isB hv hi) (hm : isB mv mx) (hle : len ≤ cap) {l h : Nat} {f : Bool} (hc : cut len lo hi mx = (true, l, h, f)) :
    ∃ m, (Instr.sliceBounds s len cap lv hv mv).run P w = .ok (l, h, m) w ∧ l ≤ h ∧ h ≤ m ∧ m ≤ cap ∧ h ≤ len ∧ (mx = none → m = cap) ∧ (mx ≠ none → f = true → m = h) ∧ (mx = none → f = true → h = len) ∧ (lo = none → l = 0) := by
  unfold cut at hc
  simp only [Prod.mk.injEq, Bool.and_eq_true] at hc
  obtain ⟨⟨⟨c1, c2⟩, c3⟩, e1, e2, e3⟩ := hc
  cases mx with
  | none =>
    cases mv with
    | some v => exact hm.elim
    | none =>
      cases hi with
      | none =>
        cases hv with
        | some v => exact hh.elim
        | none =>
          simp only at e2
          subst e2
          cases lo with
          | none =>
            cases lv with
            | some v => exact hl.elim
            | none =>
              simp only at e1; subst e1
              exact ⟨cap, by simp [Instr.sliceBounds], Nat.zero_le _, hle, Nat.le_refl _, Nat.le_refl _, fun _ => rfl, fun h => absurd rfl h, fun _ _ => rfl, fun _ => rfl⟩
          | some n =>
            cases lv with
            | none => exact hl.elim
            | some v =>
              obtain ⟨k, rfl⟩ := hl
              simp only [Bool.and_eq_true, decide_eq_true_eq] at c1
              simp only [Option.getD_some] at e1
              subst e1
              exact ⟨cap, by simp [Instr.sliceBounds, run_bound c1.1 c1.2], by omega, hle, Nat.le_refl _, Nat.le_refl _, fun _ => rfl, fun h => absurd rfl h, fun _ _ => rfl, (by intro h; cases h)⟩
      | some p =>
        cases hv with
        | none => exact hh.elim
        | some v =>
          obtain ⟨k2, rfl⟩ := hh
          simp only [Option.getD_none, Bool.and_eq_true, decide_eq_true_eq] at c2
          simp only at e2
          subst e2
          have hb : ∀ code, (Instr.sliceBound (.int k2 p) cap code).run P w = .ok p.toNat w := fun code => run_bound c2.1 (by omega)
          have hf : f = true → p.toNat = len := fun hf => by
            rw [hf] at e3
            simp only [decide_eq_true_eq] at e3
            omega
          cases lo with
          | none =>
            cases lv with
            | some v => exact hl.elim
            | none =>
              simp only at e1; subst e1
              exact ⟨cap, by simp [Instr.sliceBounds, hb], Nat.zero_le _, by omega, Nat.le_refl _, by omega, fun _ => rfl, fun h => absurd rfl h, fun _ => hf, fun _ => rfl⟩
          | some n =>
            cases lv with
            | none => exact hl.elim
            | some v =>
              obtain ⟨k, rfl⟩ := hl
              simp only [Bool.and_eq_true, decide_eq_true_eq] at c1
              simp only [Option.getD_some] at e1
              subst e1
              exact ⟨cap, by simp [Instr.sliceBounds, hb, run_bound (P := P) (w := w) (k := k) (n := n) (y := p.toNat) c1.1 (by omega)], by omega, by omega, Nat.le_refl _, by omega, fun _ => rfl, fun h => absurd rfl h, fun _ => hf, (by intro h; cases h)⟩
  | some m =>
    cases mv with
    | none => exact hm.elim
    | some v =>
      obtain ⟨k3, rfl⟩ := hm
      simp only [Bool.and_eq_true, decide_eq_true_eq] at c3
      cases hi with
      | none => simp at c3
      | some p =>
        cases hv with
        | none => exact hh.elim
        | some v =>
          obtain ⟨k2, rfl⟩ := hh
          simp only [Option.getD_some, Bool.and_eq_true, decide_eq_true_eq] at c2
          simp only at e2
          subst e2
          have hb3 : ∀ code, (Instr.sliceBound (.int k3 m) cap code).run P w = .ok m.toNat w := fun code => run_bound c3.1.1 (by omega)
          have hb : ∀ code, (Instr.sliceBound (.int k2 p) m.toNat code).run P w = .ok p.toNat w := fun code => run_bound c2.1 (by omega)
          have hf : f = true → m.toNat = p.toNat := fun hf => by
            rw [hf] at e3
            simp only [decide_eq_true_eq] at e3
            rw [e3]
          cases lo with
          | none =>
            cases lv with
            | some v => exact hl.elim
            | none =>
              simp only at e1; subst e1
              exact ⟨m.toNat, by simp [Instr.sliceBounds, hb, hb3], Nat.zero_le _, by omega, by omega, by omega, (by intro h; cases h), fun _ => hf, (by intro h; cases h), fun _ => rfl⟩
          | some n =>
            cases lv with
            | none => exact hl.elim
            | some v =>
              obtain ⟨k, rfl⟩ := hl
              simp only [Bool.and_eq_true, decide_eq_true_eq] at c1
              simp only [Option.getD_some] at e1
              subst e1
              exact ⟨m.toNat, by simp [Instr.sliceBounds, hb, hb3, run_bound (P := P) (w := w) (k := k) (n := n) (y := p.toNat) c1.1 (by omega)], by omega, by omega, by omega, by omega, (by intro h; cases h), fun _ => hf, (by intro h; cases h), (by intro h; cases h)⟩

theorem sub_length {α : Type} {l : List α} {p q : Nat} (h : q ≤ l.length) : (sub l p q).length = q - p := by simp [sub]; omega
theorem sub_getD {α : Type} {l : List α} {p q i : Nat} {d : α} (hi : i < q - p) : (sub l p q).getD i d = l.getD (p + i) d := by
  simp [sub, List.getD_eq_getElem?_getD, hi]

/-- a part of what is data is data -/
theorem RD_sub {nl : Option Bool} {full full' : Bool} {t : ET} {l : List (Ty t)} {A : Option Addr} {len cap p q m : Nat} (h : RD cx ok w (.sl nl full t l) (.slice A len cap)) (h1 : p ≤ q) (h2 : q ≤ m) (h3 : m ≤ cap) (h4 : q ≤ l.length) (hf : full' = true → m = q) :
    RD cx ok w (.sl none full' t (sub l p q)) (.slice (if m = p then A else A.map (·.add (p * width t))) (q - p) (m - p)) := by
  cases h with
  | sl0 _ _ _ _ _ g1 g2 g3 g4 =>
    simp at h4
    subst h4
    have hp : p = 0 := by omega
    subst hp
    simp only [sub, List.drop_nil, List.take_nil, Nat.sub_zero]
    refine RD.sl0 _ _ _ _ _ (fun e => by cases e) (fun e => by cases e) hf (fun hA => ?_)
    split at hA
    · assumption
    · cases A with
      | none => have := g4 rfl; omega
      | some _ => cases hA
  | sl _ _ _ _ b off _ vs g0 g1 g2 g3 g4 hc hr =>
    by_cases hpq : p = q
    · subst hpq
      have e : sub l p p = [] := by simp [sub]
      rw [e, Nat.sub_self]
      refine RD.sl0 _ _ _ _ _ (fun e => by cases e) (fun e => by cases e) (fun e => by have := hf e; omega) (fun hA => ?_)
      split at hA <;> cases hA
    · have hlt : p < q := by omega
      have hmp : ¬ m = p := by omega
      rw [if_neg hmp]
      have hsl : (sub l p q).length = q - p := sub_length h4
      have hne : sub l p q ≠ [] := fun e => by rw [e] at hsl; simp at hsl; omega
      simp only [Option.map_some, add_plain]
      have key := RD.sl (cx := cx) (ok := ok) (w := w) none full' t (sub l p q) b (off + p * width t) (m - p) (fun i j => vs (p + i) j) hne g1 (by omega) (fun e => by rw [hsl]; have := hf e; omega) (by simp) (fun i j hi hj => ?_) (fun i j hi hj => ?_)
      · rw [hsl] at key; exact key
      · rw [hsl] at hi
        have := hc (p + i) j (by omega) hj
        rw [Nat.add_mul] at this
        rw [show off + p * width t + (i * width t + j) = off + (p * width t + i * width t + j) from by omega]
        exact this
      · rw [hsl] at hi
        have := hr (p + i) j (by omega) hj
        unfold cellAt at this ⊢
        rw [sub_getD hi]
        exact this

theorem gives_sliceS (hcx : CxOk P cx) (hi : Inv cx ok w0 ρ st a w) {o : Oper} {T : TypeId} {x : Operand} {lo hi' : Option Operand} {ln hn : Option Int} {s : ByteArray} {n : Nat} {z : List D} {e : List (Option ET)} {p q : Nat} {f : Bool}
    (ho : o.op = .slice T x lo hi' none) (hlo : bnd st.env lo = some ln) (hhi : bnd st.env hi' = some hn) (hx : opv st.env x = .v false [.d (.sc (.str s))]) (hT : cx.tt T = some ⟨.str, n, z, e⟩) (hc : cut s.size ln hn none = (true, p, q, f)) :
    Gives P cx ok w0 ρ st a w o (.v false [.d (.s (s.extract p q))]) := by
  have hu : P.underlying T = some .string := und_of hcx hT
  obtain ⟨m, hr, _⟩ := run_sliceBounds (P := P) (w := w) (s := false) (mv := none) (isB_of hi hlo) (isB_of hi hhi) (by trivial) (Nat.le_refl _) hc
  refine ⟨.string (s.extract p q), ?_, RV_of_sc (.str _)⟩
  simp [execOp, ho, op_sc hi hx, Sc.val, Instr.sliceAt, run_underlying hu, Instr.slice, hr]

theorem run_sliceAt {T e : TypeId} {i : TI} (hu : P.underlying T = some (.slice e)) (he : TyOk P cx e i) {A : Option Addr} {len cap l h m : Nat} {lv hv mv : Option Value} (hr : (Instr.sliceBounds true len cap lv hv mv).run P w = .ok (l, h, m) w) :
    (Instr.sliceAt T (.slice A len cap) lv hv mv).run P w = .ok (.slice (if m = l then A else A.map (·.add (l * i.size))) (h - l) (m - l)) w := by
  simp [Instr.sliceAt, run_underlying hu, Instr.slice, hr, run_size he]

theorem gives_sliceD (hcx : CxOk P cx) (hi : Inv cx ok w0 ρ st a w) {o : Oper} {T e : TypeId} {x : Operand} {lo hi' mx : Option Operand} {ln hn mn : Option Int} {nl : Option Bool} {full : Bool} {t : ET} {l : List (Ty t)} {n : Nat} {z : List D} {es : List (Option ET)} {p q : Nat} {f : Bool}
    (ho : o.op = .slice T x lo hi' mx) (hlo : bnd st.env lo = some ln) (hhi : bnd st.env hi' = some hn) (hmx : bnd st.env mx = some mn) (hx : opv st.env x = .v false [.d (.sl nl full t l)]) (hT : cx.tt T = some ⟨.slice e t, n, z, es⟩)
    (hc : cut l.length ln hn mn = (true, p, q, f)) : Gives P cx ok w0 ρ st a w o (.v false [.d (.sl none (fullOf mn f full) t (sub l p q))]) := by
  obtain ⟨hu, ie, hie, hsz, _⟩ := und_of hcx hT
  have hv := op_c hi hx
  have hshape : ∃ A cap, a.eval x = .slice A l.length cap ∧ l.length ≤ cap ∧ (full = true → cap = l.length) := by
    generalize a.eval x = xe at hv
    cases hv with
    | sl0 _ _ _ A cap h1 h2 h3 h4 => exact ⟨A, cap, rfl, Nat.zero_le _, h3⟩
    | sl _ _ _ _ b off cap vs h0 h1 h2 h3 h4 hc hr => exact ⟨_, cap, rfl, h2, h3⟩
  obtain ⟨A, cap, hxe, hle, hfull⟩ := hshape
  obtain ⟨m, hr, g1, g2, g3, g4, g5, g6, g7, _⟩ := run_sliceBounds (P := P) (w := w) (s := true) (isB_of hi hlo) (isB_of hi hhi) (isB_of hi hmx) hle hc
  have hrun := run_sliceAt (A := A) hu (hcx.ty _ _ hie) hr
  rw [hsz] at hrun
  rw [hxe] at hv
  refine ⟨_, by simp [execOp, ho, hxe, hrun], RV_of_c (RD_sub hv g1 g2 g3 g4 (fun hf => ?_))⟩
  cases mn with
  | some _ => exact g6 (by simp) hf
  | none =>
    simp only [fullOf, Bool.and_eq_true] at hf
    rw [g5 rfl, hfull hf.1, g7 rfl hf.2]

theorem gives_sliceO (hcx : CxOk P cx) (hi : Inv cx ok w0 ρ st a w) {o : Oper} {T e : TypeId} {x : Operand} {lo hi' mx : Option Operand} {ln hn mn : Option Int} {k : Nat} {full : Bool} {off len : Nat} {t : ET} {n : Nat} {z : List D} {es : List (Option ET)} {p q : Nat} {f : Bool}
    (ho : o.op = .slice T x lo hi' mx) (hlo : bnd st.env lo = some ln) (hhi : bnd st.env hi' = some hn) (hmx : bnd st.env mx = some mn) (hx : opv st.env x = .v false [.own k t full off len]) (hT : cx.tt T = some ⟨.slice e t, n, z, es⟩)
    (hc : cut len ln hn mn = (true, p, q, f)) : Gives P cx ok w0 ρ st a w o (.v false [.own k t (fullOf mn f full) (offOf ln off p) (lenOf ln q p)]) := by
  obtain ⟨hu, ie, hie, hsz, _⟩ := und_of hcx hT
  obtain ⟨A, cap, hxe, hle, hfull, hA⟩ := op_c hi hx
  obtain ⟨m, hr, g1, g2, g3, g4, g5, g6, g7, g8⟩ := run_sliceBounds (P := P) (w := w) (s := true) (isB_of hi hlo) (isB_of hi hhi) (isB_of hi hmx) hle hc
  have hrun := run_sliceAt (A := A) hu (hcx.ty _ _ hie) hr
  rw [hsz] at hrun
  have e1 : (offOf ln off p) = off + p := by
    cases ln with
    | none => simp [offOf, lenOf, g8 rfl]
    | some _ => rfl
  have e2 : (lenOf ln q p) = q - p := by
    cases ln with
    | none => simp [offOf, lenOf, g8 rfl]
    | some _ => rfl
  rw [e1, e2]
  have hex : (execOp a.eval o).run P w = .ok (.value (.slice (if m = p then A else A.map (·.add (p * width t))) (q - p) (m - p))) w := by simp [execOp, ho, hxe, hrun]
  refine ⟨_, hex, RV_of_c ⟨if m = p then A else A.map (·.add (p * width t)), m - p, rfl, by omega, fun hf => ?_, fun hne => ?_⟩⟩
  · cases mn with
    | some _ => rw [g6 (by simp) hf]
    | none =>
      simp only [fullOf, Bool.and_eq_true] at hf
      rw [g5 rfl, hfull hf.1, g7 rfl hf.2]
  · obtain ⟨b, hb, hA', hroom⟩ := hA (by omega)
    refine ⟨b, hb, ?_, ?_⟩
    · rw [if_neg (by omega), hA', Option.map_some, add_plain, Nat.add_mul]
    · refine Nat.le_trans (Nat.mul_le_mul_right _ ?_) hroom
      omega

theorem gives_len (hcx : CxOk P cx) (hi : Inv cx ok w0 ρ st a w) {o : Oper} {x : Operand} {T : TypeId} {ts : List TypeId} {c : C} {n : Nat} {cl : Call} (ho : o.op = .call cl) (hb : cl.callee = .builtin .len) (hargs : cl.args.toList = [x]) (hts : cl.argTypes.toList = T :: ts) (hx : opv st.env x = .v false [c])
    (hn : lenC c = some n) (hT : (∃ m z e, cx.tt T = some ⟨.str, m, z, e⟩ ∧ ∃ s, c = .d (.sc (.str s))) ∨ (∃ e t m z es, cx.tt T = some ⟨.slice e t, m, z, es⟩ ∧ ∀ s, c ≠ .d (.sc (.str s)))) : Gives P cx ok w0 ρ st a w o (.i n) := by
  have hv := op_c hi hx
  have ea : cl.args = #[x] := Array.toList_inj.1 hargs
  have et : cl.argTypes[0]? = some T := by rw [← Array.getElem?_toList, hts]; rfl
  refine ⟨.int .i64 n, ?_, RV_of_sc (.int _ _)⟩
  have hl : (Builtin.len_ cl.argTypes o.type #[a.eval x]).run P w = .ok (.int .i64 n) w := by
    rcases hT with ⟨m, z, e, hT, s, rfl⟩ | ⟨e, t, m, z, es, hT, hc⟩
    · have hu : P.underlying T = some .string := und_of hcx hT
      simp only [lenC, Option.some.injEq] at hn
      subst hn
      generalize a.eval x = xe at hv
      cases hv
      simp [Builtin.len_, et, Sc.val, run_underlying hu, goInt]
    · have hu : P.underlying T = some (.slice e) := (und_of hcx hT).1
      have : ∃ A cap, a.eval x = .slice A n cap := by
        cases c with
        | d y =>
          generalize a.eval x = xe at hv
          cases hv with
          | sc s => cases s with
            | str s => exact absurd rfl (hc s)
            | _ => cases hn
          | nils => simp only [lenC, Option.some.injEq] at hn; subst hn; exact ⟨_, _, rfl⟩
          | sl0 _ _ _ A cap h1 h2 h3 h4 => simp only [lenC, List.length_nil, Option.some.injEq] at hn; subst hn; exact ⟨_, _, rfl⟩
          | sl _ _ _ _ b off cap vs h0 h1 h2 h3 h4 hc hr => simp only [lenC, Option.some.injEq] at hn; subst hn; exact ⟨_, _, rfl⟩
          | _ => cases hn
        | own k t' full off len =>
          obtain ⟨A, cap, hxe, _⟩ := hv
          simp only [lenC, Option.some.injEq] at hn; subst hn
          exact ⟨A, cap, hxe⟩
        | _ => cases hn
      obtain ⟨A, cap, hxe⟩ := this
      simp [Builtin.len_, et, hxe, run_underlying hu, goInt]
  simp [execOp, ho, resolve, hb, ea, invoke, builtin, hl]

theorem gives_max (hi : Inv cx ok w0 ρ st a w) {o : Oper} {x y : Operand} {k : IntKind} {p q : Int} {cl : Call} (ho : o.op = .call cl) (hb : cl.callee = .builtin .max) (hargs : cl.args.toList = [x, y]) (hx : opv st.env x = .v false [.d (.sc (.int k p))]) (hy : opv st.env y = .v false [.d (.sc (.int k q))]) :
    Gives P cx ok w0 ρ st a w o (.v false [.d (.sc (.int k (if q > p then q else p)))]) := by
  have ea : cl.args = #[x, y] := Array.toList_inj.1 hargs
  exact ⟨.int k (if q > p then q else p), by simp [execOp, ho, resolve, hb, ea, invoke, builtin, Builtin.max_, Builtin.max2, op_sc hi hx, op_sc hi hy, Sc.val], RV_of_sc (.int _ _)⟩
theorem gives_min (hi : Inv cx ok w0 ρ st a w) {o : Oper} {x y : Operand} {k : IntKind} {p q : Int} {cl : Call} (ho : o.op = .call cl) (hb : cl.callee = .builtin .min) (hargs : cl.args.toList = [x, y]) (hx : opv st.env x = .v false [.d (.sc (.int k p))]) (hy : opv st.env y = .v false [.d (.sc (.int k q))]) :
    Gives P cx ok w0 ρ st a w o (.v false [.d (.sc (.int k (if q < p then q else p)))]) := by
  have ea : cl.args = #[x, y] := Array.toList_inj.1 hargs
  exact ⟨.int k (if q < p then q else p), by simp [execOp, ho, resolve, hb, ea, invoke, builtin, Builtin.min_, Builtin.min2, op_sc hi hx, op_sc hi hy, Sc.val], RV_of_sc (.int _ _)⟩
end
end Go.Eng
