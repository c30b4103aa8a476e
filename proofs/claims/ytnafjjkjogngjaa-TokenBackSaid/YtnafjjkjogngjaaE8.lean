/- Operations that read and reckon alone, third part. -/
import Derived.Test.YtnafjjkjogngjaaE7
set_option linter.unusedVariables false
set_option linter.unusedSimpArgs false
namespace Go.Eng
open Go Go.RowKit

section
variable {P : Program} {cx : Cx} {ok : Nat → Prop} {w0 : World} {ρ : Rho} {st : St} {a : Act} {w : World}

theorem und_of (hcx : CxOk P cx) {T : TypeId} {k : Kd} {n : Nat} {z : List D} {e : List (Option ET)} (h : cx.tt T = some ⟨k, n, z, e⟩) : KdOk P cx T k := (hcx.ty T _ h).und

theorem run_eqlAny (T : TypeId) (x y : Value) (b : Bool) (h1 : ∀ k n, x ≠ .int k n) (h2 : ∀ s, x ≠ .string s) (h3 : ∀ k n, x ≠ .float k n) (h4 : ∀ k n m, x ≠ .complex k n m) (h5 : ∀ A, x ≠ .pointer A) (h6 : ∀ A, y ≠ .pointer A)
    (h : (Op.equalIn 10000 T x y).run P w = .ok b w) : (binOp .eql T x y).run P w = .ok (.bool b) w ∧ (binOp .neq T x y).run P w = .ok (.bool (!b)) w := by
  constructor <;> (cases x <;> first | exact absurd rfl (h1 _ _) | exact absurd rfl (h2 _) | exact absurd rfl (h3 _ _) | exact absurd rfl (h4 _ _ _) | exact absurd rfl (h5 _) | skip)
  all_goals (cases y <;> first | exact absurd rfl (h6 _) | skip)
  all_goals (simp only [binOp]; simp [Op.equal, Op.maxDepth, h])

theorem eqIn_nil (d : Nat) {T e : TypeId} (hu : P.underlying T = some (.slice e)) (A : Option Addr) (L Cp : Nat) : (Op.equalIn (d + 1) T (.slice A L Cp) (.slice none 0 0)).run P w = .ok A.isNone w := by
  cases A <;> simp [Op.equalIn, run_underlying hu]
theorem eqIn_nilIface (d : Nat) {T : TypeId} {ms : Array (String × TypeId)} (hu : P.underlying T = some (.interface ms)) : (Op.equalIn (d + 1) T .nilIface .nilIface).run P w = .ok true w := by
  simp [Op.equalIn, run_underlying hu]
theorem eqIn_someIface (d : Nat) {T : TypeId} {ms : Array (String × TypeId)} (hu : P.underlying T = some (.interface ms)) (T' : TypeId) (v : Value) : (Op.equalIn (d + 1) T (.iface T' v) .nilIface).run P w = .ok false w := by
  simp [Op.equalIn, run_underlying hu]

theorem gives_bin (hcx : CxOk P cx) (hi : Inv cx ok w0 ρ st a w) {o : Oper} {op : BinOp} {T Y : TypeId} {x y : Operand} {c : Bool} {v : V} (ho : o.op = .binOp op T x y Y)
    (he : binE cx op T (Region.isConst y) (opv st.env x) (opv st.env y) = some (c, v)) (hc : c = true) : Gives P cx ok w0 ρ st a w o v := by
  have hx := RV_op hi x
  have hy := RV_op hi y
  have fin : ∀ u, (eqGuard op T x y (a.eval x) (a.eval y)).run P w = .ok () w → (binOp op T (a.eval x) (a.eval y)).run P w = .ok u w → (execOp a.eval o).run P w = .ok (.value u) w := fun u h1 h2 => by
    simp [execOp, ho, h1, h2]
  unfold binE at he
  split at he
  · rename_i k p k' q hxe hye
    rw [hxe] at hx; rw [hye] at hy
    have e1 := RV_sc hx
    have e2 := RV_sc hy
    split at he
    · rename_i hk; subst hk
      obtain ⟨s, rfl, hr⟩ := run_intBin (P := P) (w := w) (T := T) he hc
      refine ⟨s.val, fin _ (eqGuard_plain (by rw [e1]; intro cs h; cases h) (.inl (by rw [e1]; intro h; cases h))) (by rw [e1, e2]; exact hr), RV_of_sc s⟩
    · cases he
  · rename_i p q hxe hye
    rw [hxe] at hx; rw [hye] at hy
    have e1 := RV_sc hx
    have e2 := RV_sc hy
    obtain ⟨s, rfl, hr⟩ := run_strBin (P := P) (w := w) (T := T) he
    exact ⟨s.val, fin _ (eqGuard_plain (by rw [e1]; intro cs h; cases h) (.inl (by rw [e1]; intro h; cases h))) (by rw [e1, e2]; exact hr), RV_of_sc s⟩
  · rename_i p q hxe hye
    rw [hxe] at hx; rw [hye] at hy
    have e1 := RV_sc hx
    have e2 := RV_sc hy
    split at he
    · rename_i n z e hT
      have hu : P.underlying T = some .bool := und_of hcx hT
      have hq : (Op.equalIn 10000 T (.bool p) (.bool q)).run P w = .ok (p == q) w := run_equalIn_bool' w 9999 T p q hu
      have hg := eqGuard_plain (P := P) (w := w) (op := op) (T := T) (x := x) (y := y) (u := a.eval x) (v := a.eval y) (by rw [e1]; intro cs h; cases h) (.inl (by rw [e1]; intro h; cases h))
      have hb := run_eqlAny (P := P) (w := w) T (.bool p) (.bool q) (p == q) (by intros; simp) (by intros; simp) (by intros; simp) (by intros; simp) (by intros; simp) (by intros; simp) hq
      split at he <;> first | (injection he with he; injection he with _ h2; subst h2) | cases he
      · exact ⟨.bool (p == q), fin _ hg (by rw [e1, e2]; exact hb.1), RV_of_sc (.bool _)⟩
      · exact ⟨.bool (!(p == q)), fin _ hg (by rw [e1, e2]; exact hb.2), RV_of_sc (.bool _)⟩
    · cases he
  · rename_i xs ys hxe hye
    rw [hxe] at hx; rw [hye] at hy
    obtain ⟨us, e1, r1⟩ := hx
    obtain ⟨vs, e2, r2⟩ := hy
    split at he
    · rename_i fs n z e hT
      split at he
      · rename_i p hp
        split at he
        · rename_i hz
          obtain ⟨hg, hq⟩ := hcx.eq T fs n z e hT hz
          unfold eqRow at hp
          split at hp
          · rename_i ss tt' h1 h2
            split at hp
            · rename_i hkk
              simp only [Bool.and_eq_true] at hkk
              have eu := RCs_scs xs ss us h1 r1
              have ev := RCs_scs ys tt' vs h2 r2
              subst eu; subst ev
              have hq' := hq ss tt' p hkk.1 hkk.2 hp w
              have hgd : (eqGuard op T x y (a.eval x) (a.eval y)).run P w = .ok () w := by rw [e1, e2]; exact run_eqGuard_agg w op T x y _ _ hg
              split at he <;> first | (injection he with he; injection he with _ g2; subst g2) | cases he
              · exact ⟨.bool p, fin _ hgd (by rw [e1, e2, run_eql_struct, hq']; rfl), RV_of_sc (.bool _)⟩
              · exact ⟨.bool (!p), fin _ hgd (by rw [e1, e2, run_neq_struct, hq']; rfl), RV_of_sc (.bool _)⟩
            · cases hp
          · cases hp
        · cases he
      · cases he
    · cases he
  · rename_i nl full t l hxe hye
    rw [hxe] at hx; rw [hye] at hy
    have r1 := RV_c hx
    have r2 := RV_c hy
    split at he
    · rename_i e' t' n z es hT
      have hu : P.underlying T = some (.slice e') := (und_of hcx hT).1
      have hq : ∀ A L Cp, (Op.equalIn 10000 T (.slice A L Cp) (.slice none 0 0)).run P w = .ok A.isNone w := eqIn_nil 9999 hu
      generalize hxv : a.eval x = xv at r1
      generalize hyv : a.eval y = yv at r2
      cases r2
      have main : ∀ A L Cp b, xv = .slice A L Cp → A.isNone = b → (op = .eql → v = .b b) → (op = .neq → v = .b (!b)) → (op = .eql ∨ op = .neq) → Gives P cx ok w0 ρ st a w o v := by
        intro A L Cp b h1 h2 h3 h4 h5
        have hg := eqGuard_plain (P := P) (w := w) (op := op) (T := T) (x := x) (y := y) (u := a.eval x) (v := a.eval y) (by rw [hxv, h1]; intro cs h; cases h) (.inl (by rw [hxv, h1]; intro h; cases h))
        have hb := run_eqlAny (P := P) (w := w) T (.slice A L Cp) (.slice none 0 0) b (by intros; simp) (by intros; simp) (by intros; simp) (by intros; simp) (by intros; simp) (by intros; simp) (by rw [hq, h2])
        rcases h5 with h5 | h5
        · subst h5; rw [h3 rfl]; exact ⟨.bool b, fin _ hg (by rw [hxv, hyv, h1]; exact hb.1), RV_of_sc (.bool _)⟩
        · subst h5; rw [h4 rfl]; exact ⟨.bool (!b), fin _ hg (by rw [hxv, hyv, h1]; exact hb.2), RV_of_sc (.bool _)⟩
      cases r1 with
      | sl0 _ _ _ A cap h1 h2 h3 h4 =>
        split at he <;> first | (injection he with he; injection he with g1 g2; subst g2) | cases he
        · rename_i b
          refine main A 0 cap b rfl ?_ (fun _ => rfl) (fun h => by cases h) (.inl rfl)
          cases b
          · cases A with
            | none => exact absurd rfl (h2 rfl)
            | some _ => rfl
          · rw [h1 rfl]; rfl
        · rename_i b
          refine main A 0 cap b rfl ?_ (fun h => by cases h) (fun _ => rfl) (.inr rfl)
          cases b
          · cases A with
            | none => exact absurd rfl (h2 rfl)
            | some _ => rfl
          · rw [h1 rfl]; rfl
        · subst g1; simp at hc
        · subst g1; simp at hc
      | sl _ _ _ _ b off cap vs h0 h1 h2 h3 h4 hc' hr =>
        split at he <;> first | (injection he with he; injection he with g1 g2; subst g2) | cases he
        · rename_i b'
          have : b' = false := by cases b' <;> simp_all
          subst this
          exact main _ _ _ false rfl rfl (fun _ => rfl) (fun h => by cases h) (.inl rfl)
        · rename_i b'
          have : b' = false := by cases b' <;> simp_all
          subst this
          exact main _ _ _ false rfl rfl (fun h => by cases h) (fun _ => rfl) (.inr rfl)
        · exact main _ _ _ false rfl rfl (fun _ => rfl) (fun h => by cases h) (.inl rfl)
        · exact main _ _ _ false rfl rfl (fun h => by cases h) (fun _ => rfl) (.inr rfl)
    · cases he
  · rename_i th hxe hye
    rw [hxe] at hx; rw [hye] at hy
    have r1 := RV_c hx
    have r2 := RV_c hy
    split at he
    · rename_i n z es hT
      obtain ⟨ms, hu⟩ := und_of hcx hT
      split at he
      · rename_i hyc
        generalize hxv : a.eval x = xv at r1
        generalize hyv : a.eval y = yv at r2
        cases r2
        have hq : (xv = .nilIface ∧ th.isNil = true) ∨ (∃ T' v', xv = .iface T' v' ∧ th.isNil = false) := by
          cases r1 with
          | nilI => exact .inl ⟨rfl, rfl⟩
          | one T' s h => exact .inr ⟨_, _, rfl, rfl⟩
          | val T' u h => exact .inr ⟨_, _, rfl, rfl⟩
        have hb : (binOp .eql T xv .nilIface).run P w = .ok (.bool th.isNil) w ∧ (binOp .neq T xv .nilIface).run P w = .ok (.bool (!th.isNil)) w := by
          rcases hq with ⟨rfl, h⟩ | ⟨T', v', rfl, h⟩ <;> rw [h]
          · exact run_eqlAny (P := P) (w := w) T _ _ _ (by intros; simp) (by intros; simp) (by intros; simp) (by intros; simp) (by intros; simp) (by intros; simp) (eqIn_nilIface 9999 hu)
          · exact run_eqlAny (P := P) (w := w) T _ _ _ (by intros; simp) (by intros; simp) (by intros; simp) (by intros; simp) (by intros; simp) (by intros; simp) (eqIn_someIface 9999 hu T' v')
        have hg := eqGuard_plain (P := P) (w := w) (op := op) (T := T) (x := x) (y := y) (u := a.eval x) (v := a.eval y) (by rw [hxv]; intro cs h; rcases hq with ⟨rfl, _⟩ | ⟨_, _, rfl, _⟩ <;> cases h) (.inr hyc)
        split at he <;> first | (injection he with he; injection he with g1 g2; subst g2) | cases he
        · exact ⟨_, fin _ hg (by rw [hxv, hyv]; exact hb.1), RV_of_sc (.bool _)⟩
        · exact ⟨_, fin _ hg (by rw [hxv, hyv]; exact hb.2), RV_of_sc (.bool _)⟩
      · cases he
    · cases he
  · cases he
end
end Go.Eng
