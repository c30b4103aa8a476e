/- A region as a whole. -/
import Derived.Test.YtnafjjkjogngjaaE26
set_option linter.unusedVariables false
set_option linter.unusedSimpArgs false
namespace Go.Eng
open Go Go.RowKit

structure Grow (fb : Nat) (ρ : Rho) (h : Heap) (ρ' : Rho) (h' : Heap) : Prop where
  rho : ∀ n, n < fb → ρ' n = ρ n
  dead : ∀ n, n < fb → lk h n = none → lk h' n = none
  len : fb ≤ h.length → fb ≤ h'.length

theorem Grow.refl (fb : Nat) (ρ : Rho) (h : Heap) : Grow fb ρ h ρ h := ⟨fun _ _ => rfl, fun _ _ h => h, id⟩
theorem Grow.trans {fb : Nat} {r1 r2 r3 : Rho} {h1 h2 h3 : Heap} (x : Grow fb r1 h1 r2 h2) (y : Grow fb r2 h2 r3 h3) : Grow fb r1 h1 r3 h3 :=
  ⟨fun n hn => (y.rho n hn).trans (x.rho n hn), fun n hn h => y.dead n hn (x.dead n hn h), fun h => y.len (x.len h)⟩
theorem Grow.mono {fb fb' : Nat} {ρ ρ' : Rho} {h h' : Heap} (g : Grow fb ρ h ρ' h') (hle : fb' ≤ fb) (hl : fb ≤ h.length) : Grow fb' ρ h ρ' h' :=
  ⟨fun n hn => g.rho n (Nat.lt_of_lt_of_le hn hle), fun n hn => g.dead n (Nat.lt_of_lt_of_le hn hle), fun _ => Nat.le_trans hle (g.len hl)⟩

/-- how the world went on since -/
structure Goes (ok : Nat → Prop) (B0 fb : Nat) (ρ : Rho) (h : Heap) (w : World) (ρ' : Rho) (h' : Heap) (w' : World) : Prop where
  ext : Ext fb (okc ok B0 h ρ) (okc ok B0 h' ρ') ρ ρ' w w'
  grow : Grow fb ρ h ρ' h'

theorem Goes.refl (ok : Nat → Prop) (B0 fb : Nat) (ρ : Rho) (h : Heap) (w : World) : Goes ok B0 fb ρ h w ρ h w := ⟨Ext.refl _ _ _ _, Grow.refl _ _ _⟩
theorem Goes.trans {ok : Nat → Prop} {B0 fb : Nat} {r1 r2 r3 : Rho} {h1 h2 h3 : Heap} {w1 w2 w3 : World} (x : Goes ok B0 fb r1 h1 w1 r2 h2 w2) (y : Goes ok B0 fb r2 h2 w2 r3 h3 w3) : Goes ok B0 fb r1 h1 w1 r3 h3 w3 :=
  ⟨x.ext.trans y.ext, x.grow.trans y.grow⟩

/-- an entered call -/
def ClSem (P : Program) (cx : Cx) : CL := fun fn f as h rs h' => FnOk P f fn → ∀ (ok : Nat → Prop) (w0 : World) (ρ : Rho) (w : World) (xs : List Value), HInv cx ok w0 ρ h w → RAs cx ρ (okc ok w0.heap.size h ρ) w as xs →
  Calls P f xs.toArray w fun e w' => ∃ x ρ', e = .returned x ∧ Goes ok w0.heap.size h.length ρ h w ρ' h' w' ∧ HInv cx ok w0 ρ' h' w' ∧ RV cx ρ' (okc ok w0.heap.size h' ρ') w' (valOf rs) x

section
variable {P : Program} {cx : Cx} {ok : Nat → Prop} {w0 : World} {ops : Array Oper}

theorem lk_patch_dead {n : Nat} : ∀ (dl : List (Nat × Option Blk)) (h : Heap), (∀ p ∈ dl, p.2 = none ∨ p.1 ≠ n) → lk h n = none → lk (patch h dl) n = none
  | [], _, _, h => h
  | p :: dl, h, hd, hn => by
    rw [patch]
    refine lk_patch_dead dl _ (fun q hq => hd q (List.mem_cons_of_mem _ hq)) ?_
    rw [lk_set]
    split
    · rename_i hc
      rcases hd p List.mem_cons_self with h1 | h1
      · exact h1
      · exact absurd hc.1.symm h1
    · exact hn

theorem wanted_of {ρ : Rho} {st : St} {a : Act} {w : World} (hi : Inv cx ok w0 ρ st a w) {o : Oper} {b : Bool} (hg : guardV ops st.env o = some b) : Region.wanted o (yielded ops a.tmps) = b := by
  unfold guardV at hg
  unfold Region.wanted
  cases ho : o.guard with
  | none => rw [ho] at hg; simp only at hg; injection hg
  | some gw =>
    obtain ⟨j, want⟩ := gw
    rw [ho] at hg
    simp only at hg ⊢
    cases hd : (ops[j]?).bind (·.dst) with
    | none => rw [hd] at hg; cases hg
    | some d =>
      rw [hd] at hg
      simp only at hg
      split at hg
      · rename_i t ht
        injection hg with hg
        have hl : d < st.env.length := by
          rcases Nat.lt_or_ge d st.env.length with h1 | h1
          · exact h1
          · rw [List.getD_eq_getElem?_getD, List.getElem?_eq_none h1] at ht; cases ht
        have hv := hi.env d hl
        rw [ht] at hv
        have hv' := RV_sc hv
        have hsz : d < a.tmps.size := by rw [hi.size]; exact hl
        have hy : yielded ops a.tmps j = some t := by
          have : a.tmps[d]? = some (.bool t) := by
            have : a.tmps.getD d undef = .bool t := hv'
            simpa [hsz] using this
          unfold yielded
          simp [hd, this]
        rw [hy, ← hg]
        cases t <;> cases want <;> rfl
      · rename_i ht
        injection hg with hg
        have hl : d < st.env.length := by
          rcases Nat.lt_or_ge d st.env.length with h1 | h1
          · exact h1
          · rw [List.getD_eq_getElem?_getD, List.getElem?_eq_none h1] at ht; cases ht
        have hv := hi.env d hl
        rw [ht] at hv
        obtain ⟨xs, hx, hr⟩ := hv
        have hsz : d < a.tmps.size := by rw [hi.size]; exact hl
        have hy : yielded ops a.tmps j = none := by
          have : a.tmps[d]? = some (.tuple xs.toArray) := by
            have : a.tmps.getD d undef = .tuple xs.toArray := hx
            simpa [hsz] using this
          unfold yielded
          simp [hd, this]
        rw [hy, ← hg]
        rfl
      · cases hg

/-- what the region's operations come to, in the order in which they are done -/
theorem exec_wp (hcx : CxOk P cx) (hga : GaOk P cx) {base fb : Nat} (hfb : fb ≤ base) {Q : Exit → Act → World → Prop} :
    ∀ (l : List Nat) (st st' : St) (ns : List Note), Exec cx (ClSem P cx) ops base l st st' ns → l.Nodup → ∀ (ρ : Rho) (a : Act) (w : World), Inv cx ok w0 ρ st a w → (∀ i ∈ l, ρ (base + i) = none ∧ lk st.heap (base + i) = none ∧ base + i < st.heap.length) →
      (∀ ρ' a' w', Inv cx ok w0 ρ' st' a' w' → Goes ok w0.heap.size fb ρ st.heap w ρ' st'.heap w' → Q .normal a' w') → wpOps P ops Q l a w
  | [], st, st', ns, h, _, ρ, a, w, hi, _, hQ => by
    cases h
    exact hQ ρ a w hi (Goes.refl _ _ _ _ _ _)
  | i :: l, st, st', ns, h, hnd, ρ, a, w, hi, hs, hQ => by
    have hnd' := List.nodup_cons.1 hnd
    have hne : ∀ j ∈ l, j ≠ i := fun j hj e => hnd'.1 (e ▸ hj)
    cases h with
    | cons h1 h2 =>
      have ih := exec_wp hcx hga hfb (Q := Q) l _ _ _ h2 hnd'.2
      cases h1 with
      | skip o g1 g2 =>
        simp only [wpOps, g1, wanted_of hi g2, Bool.false_eq_true, if_false]
        exact ih ρ _ w (hi.put ⟨[], rfl, rfl, fun j hj => absurd hj (Nat.not_lt_zero j)⟩) (fun j hj => hs j (List.mem_cons_of_mem _ hj)) hQ
      | run o v h' n g1 g2 g3 =>
        obtain ⟨s1, s2, s3⟩ := hs i List.mem_cons_self
        simp only [wpOps, g1, wanted_of hi g2, if_true]
        left
        cases g3 with
        | op e q1 q2 q3 =>
          refine op_sim hcx hga hi s1 s3 s2 q2 q3 _ _ (fun ρ' w' x k1 k2 k3 k4 => ?_)
          obtain ⟨dl, l1, l2, _⟩ := opE_local q2
          have hlen : e.heap.length = st.heap.length := by rw [l1, patch_length]
          have hgo : Goes ok w0.heap.size fb ρ st.heap w ρ' e.heap w' := by
            refine ⟨k2 fb, ⟨fun n hn => k1 n (by omega), fun n hn hd => ?_, fun h => by rw [hlen]; exact h⟩⟩
            rw [l1]
            refine lk_patch_dead dl _ (fun p hp => ?_) hd
            rcases (l2 p hp).2 with h | h | h
            · exact .inl h
            · right; rw [h]; omega
            · right; intro e2; rw [e2, hd] at h; cases h
          refine ih ρ' _ w' ((hi.go k2 k3).put k4) (fun j hj => ?_) (fun ρ'' a' w'' r1 r2 => hQ ρ'' a' w'' r1 (hgo.trans r2))
          obtain ⟨t1, t2, t3⟩ := hs j (List.mem_cons_of_mem _ hj)
          have hj' := hne j hj
          refine ⟨by rw [k1 _ (by omega)]; exact t1, ?_, by show base + j < e.heap.length; rw [hlen]; exact t3⟩
          show lk e.heap (base + j) = none
          rw [l1]
          refine lk_patch_dead dl _ (fun p hp => ?_) t2
          rcases (l2 p hp).2 with h | h | h
          · exact .inl h
          · right; rw [h]; omega
          · right; intro e2; rw [e2, t2] at h; cases h
        | inl fn f as rs h' q1 q2 =>
          unfold inlE at q1
          split at q1
          · rename_i c hop
            split at q1
            · cases q1
            · split at q1
              · rename_i fn' f' as' hw
                injection q1 with q1; injection q1 with e1 q1; injection q1 with e2 e3; subst e1; subst e2; subst e3
                obtain ⟨xs, r1, r2, r3⟩ := wayOf_inl hga hi hop hw
                unfold Oper.wp
                rw [r3, Oper.upon_enter]
                refine (q2 r1 ok w0 ρ w xs hi.hv r2).mono fun e w' ha => ?_
                obtain ⟨x, ρ', rfl, k1, k2, k3⟩ := ha
                have hrho : ∀ n b, ρ n = some b → ρ' n = some b := fun n b e => by
                  have hn : n < st.heap.length := by
                    rcases Nat.lt_or_ge n st.heap.length with h | h
                    · exact h
                    · rw [hi.fresh n h] at e; cases e
                  rw [k1.grow.rho n hn]; exact e
                have hext : ∀ N, Ext N (okc ok w0.heap.size st.heap ρ) (okc ok w0.heap.size h' ρ') ρ ρ' w w' := fun N => ⟨fun n b _ e => hrho n b e, k1.ext.cell, k1.ext.okk, k1.ext.room, k1.ext.size⟩
                have hle : fb ≤ st.heap.length := by omega
                have hgo : Goes ok w0.heap.size fb ρ st.heap w ρ' h' w' := ⟨hext fb, k1.grow.mono hle (Nat.le_refl _)⟩
                refine ih ρ' _ w' ((hi.go hext k2).put k3) (fun j hj => ?_) (fun ρ'' a' w'' t1 t2 => hQ ρ'' a' w'' t1 (hgo.trans t2))
                obtain ⟨t1, t2, t3⟩ := hs j (List.mem_cons_of_mem _ hj)
                exact ⟨(k1.grow.rho _ t3).trans t1, k1.grow.dead _ t3 t2, Nat.lt_of_lt_of_le t3 (k1.grow.len (Nat.le_refl _))⟩
              · cases q1
          · cases q1

/-- room for a region's blocks -/
theorem inv_room {ρ : Rho} {st : St} {a : Act} {w : World} (hi : Inv cx ok w0 ρ st a w) (k : Nat) : Inv cx ok w0 ρ ⟨st.env, st.heap ++ List.replicate k none, st.fb⟩ a w := by
  have he : ∀ k', okc ok w0.heap.size st.heap ρ k' ↔ okc ok w0.heap.size (st.heap ++ List.replicate k none) ρ k' := fun k' => by
    unfold okc
    simp only [lk_append]
  have hx : ∀ N, Ext N (okc ok w0.heap.size st.heap ρ) (okc ok w0.heap.size (st.heap ++ List.replicate k none) ρ) ρ ρ w w := fun N => ⟨fun _ _ _ e => e, fun _ _ _ => rfl, fun k' _ h => (he k').1 h, fun _ _ => rfl, Nat.le_refl _⟩
  refine ⟨hi.size, fun t ht => Ext.all_V hx hi.hv.lt (hi.env t ht), fun n b hn => ?_, fun n m b hn hm => ?_, hi.own, fun n hn => hi.fresh n (by simp at hn; omega), hi.below, hi.defers⟩
  · rw [lk_append] at hn
    exact Ext.all_B hx hi.hv.lt (fun _ _ => rfl) (fun h => h) (hi.heap n b hn)
  · rw [lk_append] at hn hm; exact hi.inj n m b hn hm
theorem goes_room {ρ : Rho} {h : Heap} {w : World} (k fb : Nat) : Goes ok w0.heap.size fb ρ h w ρ (h ++ List.replicate k none) w :=
  ⟨⟨fun _ _ _ e => e, fun _ _ _ => rfl, fun k' _ hk => ⟨hk.1, fun n hn => hk.2 n (by rwa [lk_append] at hn)⟩, fun _ _ => rfl, Nat.le_refl _⟩, fun _ _ => rfl, fun n _ hn => by rw [lk_append]; exact hn, fun hl => by simp; omega⟩

theorem Inv.drew {ρ : Rho} {st : St} {a : Act} {w : World} (hi : Inv cx ok w0 ρ st a w) : Inv cx ok w0 ρ st a { w with drawn := w.drawn + 1 } := by
  have hx : ∀ N, Ext N (okc ok w0.heap.size st.heap ρ) (okc ok w0.heap.size st.heap ρ) ρ ρ w { w with drawn := w.drawn + 1 } := fun N => ⟨fun _ _ _ e => e, fun _ _ _ => rfl, fun _ _ h => h, fun _ _ => rfl, Nat.le_refl _⟩
  exact ⟨hi.size, fun t ht => Ext.all_V hx hi.hv.lt (hi.env t ht), fun n b hn => Ext.all_B hx hi.hv.lt (fun _ _ => rfl) (fun h => h) (hi.heap n b hn), hi.inj, hi.own, hi.fresh, hi.below.trans ⟨rfl, rfl, rfl, Nat.le_refl _, fun _ _ => rfl⟩, hi.defers⟩

/-- what the evaluator says of a region -/
def RegSem (cx : Cx) (P : Program) (ops : Array Oper) (draw : Bool) (st st' : St) : Prop :=
  ∃ ns, Exec cx (ClSem P cx) ops st.heap.length (List.range ops.size) ⟨st.env, st.heap ++ List.replicate ops.size none, st.fb⟩ st' ns ∧ (draw = true → notesOk (Region.before ops) ns.reverse = true ∧ orderOk ops (Region.before ops) = true)

theorem exec_fb {cl : CL} {base : Nat} : ∀ (l : List Nat) (st st' : St) (ns : List Note), Exec cx cl ops base l st st' ns → st'.fb = st.fb ∧ st'.env.length = st.env.length
  | [], _, _, _, h => by cases h; exact ⟨rfl, rfl⟩
  | i :: l, st, st', ns, h => by
    cases h with
    | cons h1 h2 =>
      obtain ⟨k1, k2⟩ := exec_fb l _ _ _ h2
      have hp : ∀ dst v, (putV st.env dst v).length = st.env.length := fun dst v => by cases dst <;> simp [putV]
      cases h1 with
      | skip => exact ⟨k1, k2.trans (hp _ _)⟩
      | run => exact ⟨k1, k2.trans (hp _ _)⟩

theorem region_wp (hcx : CxOk P cx) (hga : GaOk P cx) {draw : Bool} {id : Nat} {st st' : St} (h : RegSem cx P ops draw st st') (hfb : st.fb ≤ st.heap.length) {Q : Exit → Act → World → Prop} {ρ : Rho} {a : Act} {w : World} (hi : Inv cx ok w0 ρ st a w)
    (hQ : ∀ ρ' a' w', Inv cx ok w0 ρ' st' a' w' → Goes ok w0.heap.size st.fb ρ st.heap w ρ' st'.heap w' → Q .normal a' w') : (Code.region id ops draw).wp P Q a w := by
  obtain ⟨ns, h1, h2⟩ := h
  have hs : ∀ i, i < ops.size → ρ (st.heap.length + i) = none ∧ lk (st.heap ++ List.replicate ops.size none) (st.heap.length + i) = none ∧ st.heap.length + i < (st.heap ++ List.replicate ops.size none).length := fun i hlt => by
    refine ⟨hi.fresh _ (by omega), ?_, by simp; omega⟩
    rw [lk_append]
    unfold lk
    rw [List.getD_eq_getElem?_getD, List.getElem?_eq_none (by omega)]; rfl
  cases draw with
  | false =>
    refine wp_region (exec_wp hcx hga hfb _ _ _ _ h1 List.nodup_range ρ a w (inv_room hi ops.size) (fun i hm => hs i (List.mem_range.1 hm)) (fun ρ' a' w' k1 k2 => ?_))
    exact hQ ρ' a' w' k1 ((goes_room _ _).trans k2)
  | true =>
    obtain ⟨g1, g2⟩ := h2 rfl
    refine wp_region_draw fun t => ?_
    rw [hcx.mixed]
    have hrev : notesOk (Region.before ops) ns.reverse = true := g1
    have hE := orderOk_spec g2
    have hnotes : ∀ x ∈ ns, ∀ y ∈ ns, x.i ≠ y.i → Free (Region.before ops) x.i y.i → meddle x y = false := fun x hx y hy => notes_sound ns.reverse g1 x (List.mem_reverse.2 hx) y (List.mem_reverse.2 hy)
    obtain ⟨k1, k2, k3⟩ := linearised hE.1 ops.size t (Array.replicate ops.size false) (by simp) (fun a b ha _ => by
      by_cases h : a < ops.size <;> simp [h] at ha) (by refine Nat.le_trans List.countP_le_length ?_; simp)
    have hsch : Region.schedule true ops t = Region.linearise.go .any ops ops.size t (Array.replicate ops.size false) [] := by simp [Region.schedule, Region.linearise]
    have hm : ∀ x, x ∈ Region.schedule true ops t ↔ x < ops.size := fun x => by
      rw [hsch, k2 x]
      exact ⟨fun h => h.1, fun h => ⟨h, by simp [h]⟩⟩
    obtain ⟨ns', q1, _⟩ := reorder (Region.schedule true ops t) (List.range ops.size) _ _ ns h1 ⟨hnotes, hE.2⟩ List.nodup_range (by rw [hsch]; exact k1) (fun x => by rw [hm x, List.mem_range]) (range_topo hE.1 rfl) (by rw [hsch]; exact k3)
    refine exec_wp hcx hga hfb _ _ _ _ q1 (by rw [hsch]; exact k1) ρ a _ (inv_room hi ops.size).drew (fun i hi' => hs i ((hm i).1 hi')) (fun ρ' a' w' r1 r2 => ?_)
    have hd : Goes ok w0.heap.size st.fb ρ (st.heap ++ List.replicate ops.size none) w ρ (st.heap ++ List.replicate ops.size none) { w with drawn := w.drawn + 1 } := ⟨⟨fun _ _ _ e => e, fun _ _ _ => rfl, fun _ _ h => h, fun _ _ => rfl, Nat.le_refl _⟩, Grow.refl _ _ _⟩
    exact hQ ρ' a' w' r1 ((goes_room _ _).trans (hd.trans r2))
end
end Go.Eng
