/- Slices read; what is given up reads as data. -/
import Derived.Test.YtnafjjkjogngjaaE13
import Derived.Deep.Upon
import Derived.Deep.AppendSrc
import Derived.Deep.DeepAppendWide
set_option linter.unusedVariables false
set_option linter.unusedSimpArgs false
namespace Go.Eng
open Go Go.RowKit

def RL (cx : Cx) (ok : Nat → Prop) (w : World) (t : ET) (l : List (Ty t)) (vs : List Value) : Prop :=
  ∀ i j, i < l.length → j < width t → RD cx ok w (cellAt t l i j) (vs.getD (i * width t + j) undef)

theorem idx_lt {i j n k : Nat} (hi : i < n) (hj : j < k) : i * k + j < n * k := by
  have : (i + 1) * k ≤ n * k := Nat.mul_le_mul_right _ hi
  rw [Nat.add_mul, Nat.one_mul] at this
  omega
theorem idx_div {q k : Nat} (hk : 0 < k) {n : Nat} (h : q < n * k) : q / k < n ∧ q % k < k ∧ q / k * k + q % k = q :=
  ⟨(Nat.div_lt_iff_lt_mul hk).2 h, Nat.mod_lt _ hk, by rw [Nat.mul_comm]; exact Nat.div_add_mod q k⟩

section
variable {P : Program} {cx : Cx} {ok : Nat → Prop} {w0 : World} {ρ : Rho} {st : St} {a : Act} {w : World} {h : Heap}

theorem RD_one {d : D} {x : Value} (hd : RD cx ok w d x) : x.oneCell' = true := RC_one (cx := cx) (ρ := fun _ => none) (ok := ok) (w := w) (c := .d d) hd

theorem RL_one {t : ET} {l : List (Ty t)} {vs : List Value} (hl : vs.length = l.length * width t) (hr : RL cx ok w t l vs) : ∀ u ∈ vs, u.oneCell' = true := by
  intro u hu
  obtain ⟨q, hq, rfl⟩ := List.getElem_of_mem hu
  obtain ⟨h1, h2, h3⟩ := idx_div (width_pos t) (by rw [← hl]; exact hq)
  have := hr _ _ h1 h2
  rw [h3] at this
  have e : vs.getD q undef = vs[q] := by simp [List.getD_eq_getElem?_getD, hq]
  rw [e] at this
  exact RD_one this

structure SlRead (cx : Cx) (ok : Nat → Prop) (w : World) (s : Sl) (v : Value) (A : Option Addr) (cap : Nat) (vs : List Value) : Prop where
  shape : v = .slice A s.l.length cap
  le : s.l.length ≤ cap
  full : s.full = true → cap = s.l.length
  len : vs.length = s.l.length * width s.t
  rl : RL cx ok w s.t s.l vs
  at_ : s.l ≠ [] → ∃ b off, A = some ⟨b, off, none⟩ ∧ ∀ q, q < vs.length → w.cell? ⟨b, off + q, none⟩ = some (vs.getD q undef)

theorem sl_read (hi : HInv cx ok w0 ρ h w) {c : C} {v : Value} {s : Sl} (hc : RC cx ρ (okc ok w0.heap.size h ρ) w c v) (hs : slOf h c = some s) (hok : s.ok = true) : ∃ A cap vs, SlRead cx (okc ok w0.heap.size h ρ) w s v A cap vs := by
  unfold slOf at hs
  split at hs
  · rename_i nl full t l
    injection hs with hs; subst hs
    cases hc with
    | sl0 _ _ _ A cap h1 h2 h3 h4 => exact ⟨A, cap, [], rfl, Nat.zero_le _, h3, by simp, fun i j hi => by simp at hi, fun hne => absurd rfl hne⟩
    | sl _ _ _ _ b off cap vs h0 h1 h2 h3 h4 hc hr =>
      have hget : ∀ i j, i < l.length → j < width t → ((List.range (l.length * width t)).map (fun q => vs (q / width t) (q % width t))).getD (i * width t + j) undef = vs i j := fun i j hi hj => by
        have hlt := idx_lt hi hj
        have e1 : (i * width t + j) / width t = i := by rw [Nat.mul_comm, Nat.mul_add_div (width_pos t), Nat.div_eq_of_lt hj, Nat.add_zero]
        have e2 : (i * width t + j) % width t = j := by rw [Nat.mul_comm, Nat.mul_add_mod, Nat.mod_eq_of_lt hj]
        simp [List.getD_eq_getElem?_getD, hlt, e1, e2]
      refine ⟨_, cap, (List.range (l.length * width t)).map (fun q => vs (q / width t) (q % width t)), rfl, h2, h3, by simp, fun i j hi hj => ?_, fun _ => ⟨b, off, rfl, fun q hq => ?_⟩⟩
      · rw [hget i j hi hj]; exact hr i j hi hj
      · simp at hq
        obtain ⟨g1, g2, g3⟩ := idx_div (width_pos t) hq
        have := hc _ _ g1 g2
        rw [g3] at this
        rw [this]
        simp [List.getD_eq_getElem?_getD, hq]
  · rename_i n t full off len
    split at hs
    · rename_i B t' l hk
      split at hs
      · rename_i ett; subst ett
        injection hs with hs; subst hs
        simp only [decide_eq_true_eq] at hok
        obtain ⟨A, cap, rfl, g1, g2, g3⟩ := hc
        have hsl : (sub l off (off + len)).length = len := by rw [sub_length hok]; omega
        have hsg : ∀ i, i < len → (sub l off (off + len)).getD i (dflt t') = l.getD (off + i) (dflt t') := fun i hi => sub_getD (by omega)
        by_cases hl0 : len = 0
        · subst hl0
          have e : sub l off (off + 0) = [] := List.length_eq_zero_iff.1 hsl
          refine ⟨A, cap, [], ?_, ?_, ?_, ?_, ?_, ?_⟩
          · show _ = Value.slice A (sub l off (off + 0)).length cap; rw [hsl]
          · show (sub l off (off + 0)).length ≤ cap; rw [hsl]; exact g1
          · intro hf; show cap = (sub l off (off + 0)).length; rw [hsl]; exact g2 hf
          · show 0 = (sub l off (off + 0)).length * _; rw [hsl]; simp
          · intro i j hi; have hi' : i < (sub l off (off + 0)).length := hi; rw [hsl] at hi'; omega
          · intro hne; exact absurd e hne
        · obtain ⟨b, hb, hA, hroom⟩ := g3 (by omega)
          rcases hi.heap n _ hk with ⟨q1, _⟩ | ⟨b', vs, q1, q2, q3, q4⟩
          · subst q1; simp at hok; omega
          · rw [hb] at q1; injection q1 with q1; subst q1
            have hbound : off * width t' + len * width t' ≤ vs.length := by
              rw [← Nat.add_mul]
              exact Nat.le_trans (Nat.mul_le_mul_right _ hok) q3
            have hvl : (seg vs (off * width t') (len * width t')).length = len * width t' := seg_length hbound
            refine ⟨A, cap, seg vs (off * width t') (len * width t'), ?_, ?_, ?_, ?_, ?_, ?_⟩
            · show _ = Value.slice A (sub l off (off + len)).length cap; rw [hsl]
            · show (sub l off (off + len)).length ≤ cap; rw [hsl]; exact g1
            · intro hf; show cap = (sub l off (off + len)).length; rw [hsl]; exact g2 hf
            · show _ = (sub l off (off + len)).length * _; rw [hsl, hvl]
            · intro i j hi hj
              have hi' : i < (sub l off (off + len)).length := hi
              rw [hsl] at hi'
              show RD cx _ w (cellAt t' (sub l off (off + len)) i j) _
              unfold cellAt
              rw [hsg i hi', seg_getD hbound (idx_lt hi' hj)]
              have := q4 (off + i) j (by omega) hj
              rw [Nat.add_mul, Nat.add_assoc] at this
              exact this
            · intro _
              refine ⟨b, off * width t', hA, fun q hq => ?_⟩
              rw [hvl] at hq
              rw [seg_getD hbound hq]
              exact cell_of_block q2 (by omega)
      · cases hs
    · cases hs
  · cases hs

theorem SlRead.src {s : Sl} {v : Value} {A : Option Addr} {cap : Nat} {vs : List Value} (hr : SlRead cx ok w s v A cap vs) {tx e' : TypeId} (hk : P.underlying tx = some (.slice e')) : Src P (width s.t) tx v s.l.length vs w := by
  obtain ⟨rfl, h1, h2, h3, h4, h5⟩ := hr
  by_cases hl : s.l = []
  · have e0 : s.l.length = 0 := by rw [hl]; rfl
    have ev : vs = [] := by apply List.length_eq_zero_iff.1; rw [h3, e0, Nat.zero_mul]
    subst ev
    rw [e0]
    cases A with
    | none => exact Src.ofNil w hk cap
    | some a => exact Src.ofSlice w hk a 0 cap [] (by simp) (fun j u hj => by simp at hj) (fun u hu => by simp at hu)
  · obtain ⟨b, off, rfl, hc⟩ := h5 hl
    refine Src.ofSlice w hk _ _ _ vs h3 (fun j u hj => ?_) (RL_one h3 h4)
    have hj' : j < vs.length := by
      rcases Nat.lt_or_ge j vs.length with h | h
      · exact h
      · rw [List.getElem?_eq_none h] at hj; cases hj
    rw [add_plain, hc j hj']
    rw [List.getD_eq_getElem?_getD, hj]
    rfl

/-- the heap without some names -/
structure Less (h h' : Heap) (ks : List Nat) : Prop where
  gone : ∀ n ∈ ks, lk h' n = none
  live : ∀ n, (lk h' n).isSome = true → (lk h n).isSome = true

theorem Less.okc {h' : Heap} {ks : List Nat} {B0 k : Nat} (l : Less h h' ks) (ho : okc ok B0 h ρ k) : okc ok B0 h' ρ k := ⟨ho.1, fun n hn => ho.2 n (l.live n hn)⟩
theorem Less.sub {h' : Heap} {ks ks' : List Nat} (l : Less h h' ks) (hs : ∀ n ∈ ks', n ∈ ks) : Less h h' ks' := ⟨fun n hn => l.gone n (hs n hn), l.live⟩
theorem Less.ext {h' : Heap} {ks : List Nat} {B0 : Nat} (l : Less h h' ks) (N : Nat) : Ext N (Eng.okc ok B0 h ρ) (Eng.okc ok B0 h' ρ) ρ ρ w w :=
  ⟨fun _ _ _ e => e, fun _ _ _ => rfl, fun _ _ ho => l.okc ho, fun _ _ => rfl, Nat.le_refl _⟩

theorem own_okc (hi : HInv cx ok w0 ρ h w) {h' : Heap} {ks : List Nat} (l : Less h h' ks) {n b : Nat} (hn : n ∈ ks) (hs : (lk h n).isSome = true) (hb : ρ n = some b) : okc ok w0.heap.size h' ρ b :=
  ⟨.inr (hi.own n b hb).1, fun m hm e => by
    have hm' := l.live m hm
    have := hi.inj m n b hm' hs e hb
    subst this
    rw [l.gone m hn] at hm
    cases hm⟩

theorem dem0_ok (hi : HInv cx ok w0 ρ h w) {h' : Heap} {c : C} {d : D} {ks : List Nat} {p : Bool} {x : Value} (he : dem0 h c = some (d, ks, p)) (hp : p = true) (l : Less h h' ks) (hc : RC cx ρ (okc ok w0.heap.size h ρ) w c x) :
    RD cx (okc ok w0.heap.size h' ρ) w d x := by
  unfold dem0 at he
  split at he
  · injection he with he; injection he with e1 e2; injection e2 with e2 e3; subst e1; subst e2
    exact RD.of_ext (l.ext 0) hc
  · rename_i n t full off len
    split at he
    · rename_i B t' l' hk
      split at he
      · rename_i ett; subst ett
        injection he with he; injection he with e1 e2; injection e2 with e2 e3; subst e1; subst e2
        have hok : off + len ≤ l'.length := by rw [hp] at e3; simpa using e3
        obtain ⟨A, cap, vs, hr⟩ := sl_read hi (s := ⟨t', sub l' off (off + len), full, [n], true⟩) hc (by simp [slOf, hk, hok]) rfl
        obtain ⟨hv, h1, h2, h3, h4, h5⟩ := hr
        simp only at hv h1 h2 h3 h4 h5
        rw [hv]
        by_cases hl : sub l' off (off + len) = []
        · rw [hl] at hv h1 h2 ⊢
          refine RD.sl0 _ _ _ _ _ (fun e => by cases e) (fun e => by cases e) (fun e => by simpa using h2 e) (fun e => ?_)
          obtain ⟨A', cap', hv', g1, g2, g3⟩ := hc
          rw [hv] at hv'
          injection hv' with q1 q2 q3
          subst q1; subst q3
          by_cases hcap : cap = 0
          · exact hcap
          · obtain ⟨b, _, hA, _⟩ := g3 hcap
            rw [e] at hA; cases hA
        · obtain ⟨A', cap', hv', g1, g2, g3⟩ := hc
          rw [hv] at hv'
          injection hv' with q1 q2 q3
          subst q1; subst q3
          have hpos : 0 < (sub l' off (off + len)).length := List.length_pos_iff.2 hl
          obtain ⟨b, hb, hA, _⟩ := g3 (by omega)
          obtain ⟨b', off', hA', hcell⟩ := h5 hl
          rw [hA] at hA'
          injection hA' with hA'; injection hA' with r1 r2 r3
          subst r1; subst r2
          rw [hA]
          refine RD.sl _ _ _ _ b (off * width t') cap (fun i j => vs.getD (i * width t' + j) undef) hl (own_okc hi l (List.mem_singleton.2 rfl) (lk_some hk) hb) h1 h2 (by simp) (fun i j hi' hj => ?_) (fun i j hi' hj => ?_)
          · exact hcell _ (by rw [h3]; exact idx_lt hi' hj)
          · exact RD.of_ext (l.ext 0) (h4 i j hi' hj)
      · cases he
    · cases he
  · cases he

theorem demL0_ok (hi : HInv cx ok w0 ρ h w) {h' : Heap} : ∀ (cs : List C) (ds : List D) (ks : List Nat) (p : Bool) (vs : List Value), demL0 h cs = some (ds, ks, p) → p = true → Less h h' ks → RCs cx ρ (okc ok w0.heap.size h ρ) w cs vs →
    vs.length = ds.length ∧ ∀ j, j < ds.length → RD cx (okc ok w0.heap.size h' ρ) w (ds.getD j .nils) (vs.getD j undef)
  | [], ds, ks, p, vs, he, hp, l, hr => by
    simp only [demL0, Option.some.injEq, Prod.mk.injEq] at he
    obtain ⟨rfl, _⟩ := he
    exact ⟨hr.1, fun j hj => by simp at hj⟩
  | c :: cs, ds, ks, p, vs, he, hp, l, hr => by
    obtain ⟨v, vs', rfl, h1, h2⟩ := RCs_inv hr
    simp only [demL0] at he
    split at he
    · rename_i x a p1 xs b p2 g1 g2
      simp only [Option.some.injEq, Prod.mk.injEq] at he
      obtain ⟨rfl, rfl, hpp⟩ := he
      rw [hp] at hpp
      simp only [Bool.and_eq_true] at hpp
      have r1 := dem0_ok hi g1 hpp.1 (l.sub fun n hn => List.mem_append.2 (.inl hn)) h1
      have r2 := demL0_ok hi cs xs b p2 vs' g2 hpp.2 (l.sub fun n hn => List.mem_append.2 (.inr hn)) h2
      refine ⟨by simp [r2.1], fun j hj => ?_⟩
      cases j with
      | zero => exact r1
      | succ j => simpa using r2.2 j (by simpa using hj)
    · cases he

theorem demBoxes_ok (hi : HInv cx ok w0 ρ h w) {h' : Heap} : ∀ (ns : List Nat) (rs : List (List D)) (ks : List Nat) (p : Bool) (vs : List Value), demBoxes h ns = some (rs, ks, p) → p = true → Less h h' ks → ptrsTo ρ ns vs →
    vs.length = rs.length ∧ ∀ j, j < rs.length → RD cx (okc ok w0.heap.size h' ρ) w (.ref (rs.getD j [])) (vs.getD j undef)
  | [], rs, ks, p, vs, he, hp, l, hr => by
    simp only [demBoxes, Option.some.injEq, Prod.mk.injEq] at he
    obtain ⟨rfl, _⟩ := he
    exact ⟨hr.1, fun j hj => by simp at hj⟩
  | n :: ns, rs, ks, p, vs, he, hp, l, hr => by
    cases vs with
    | nil => have := hr.1; simp at this
    | cons v vs' =>
      have hr' : ptrsTo ρ ns vs' := ⟨by have := hr.1; simpa using this, fun i hi => by simpa using hr.2 (i + 1) (by simpa using hi)⟩
      obtain ⟨b, hb, hv⟩ := hr.2 0 (by simp)
      simp only [demBoxes] at he
      split at he
      · rename_i B cs hk
        split at he
        · rename_i xs a p1 r b' p2 g1 g2
          simp only [Option.some.injEq, Prod.mk.injEq] at he
          obtain ⟨rfl, rfl, hpp⟩ := he
          rw [hp] at hpp
          simp only [Bool.and_eq_true] at hpp
          obtain ⟨b2, us, q1, q2, q3⟩ := hi.heap n _ hk
          have hb' : ρ n = some b := hb
          rw [hb'] at q1; injection q1 with q1; subst q1
          have r1 := demL0_ok hi cs xs a p1 us g1 hpp.1 (l.sub fun m hm => List.mem_cons.2 (.inr (List.mem_append.2 (.inl hm)))) q3
          have r2 := demBoxes_ok hi ns r b' p2 vs' g2 hpp.2 (l.sub fun m hm => List.mem_cons.2 (.inr (List.mem_append.2 (.inr hm)))) hr'
          refine ⟨by simp [r2.1], fun j hj => ?_⟩
          cases j with
          | zero =>
            have hv' : v = .pointer (some ⟨b, 0, none⟩) := hv
            show RD cx _ w (.ref xs) v
            rw [hv']
            refine RD.ref xs b 0 (fun q => us.getD q undef) (own_okc hi l (List.mem_cons.2 (.inl rfl)) (lk_some hk) hb') (hi.lt n b hb') (fun q hq => ?_) (fun q hq => r1.2 q hq)
            rw [Nat.zero_add]
            exact cell_of_block q2 (by rw [r1.1]; exact hq)
          | succ j => simpa using r2.2 j (by simpa using hj)
        · cases he
      · cases he

theorem dem_ok (hi : HInv cx ok w0 ρ h w) {h' : Heap} {c : C} {d : D} {ks : List Nat} {p : Bool} {x : Value} (he : dem h c = some (d, ks, p)) (hp : p = true) (l : Less h h' ks) (hc : RC cx ρ (okc ok w0.heap.size h ρ) w c x) :
    RD cx (okc ok w0.heap.size h' ρ) w d x := by
  unfold dem at he
  split at he
  · rename_i f first caps
    split at he
    · rename_i a x1 p1 b y p2 g1 g2
      simp only [Option.some.injEq, Prod.mk.injEq] at he
      obtain ⟨rfl, rfl, hpp⟩ := he
      rw [hp] at hpp
      simp only [Bool.and_eq_true] at hpp
      obtain ⟨u, v, rfl, r1, r2⟩ := hc
      have q1 := demBoxes_ok hi first a x1 p1 u g1 hpp.1 (l.sub fun m hm => List.mem_append.2 (.inl hm)) r1
      have q2 := demBoxes_ok hi caps b y p2 v g2 hpp.2 (l.sub fun m hm => List.mem_append.2 (.inr hm)) r2
      exact RD.fn f a b u v q1.1 q2.1 q1.2 q2.2
    · cases he
  · exact dem0_ok hi he hp l hc

theorem demL_ok (hi : HInv cx ok w0 ρ h w) {h' : Heap} : ∀ (cs : List C) (ds : List D) (ks : List Nat) (p : Bool) (vs : List Value), demL h cs = some (ds, ks, p) → p = true → Less h h' ks → RCs cx ρ (okc ok w0.heap.size h ρ) w cs vs →
    vs.length = ds.length ∧ ∀ j, j < ds.length → RD cx (okc ok w0.heap.size h' ρ) w (ds.getD j .nils) (vs.getD j undef)
  | [], ds, ks, p, vs, he, hp, l, hr => by
    simp only [demL, Option.some.injEq, Prod.mk.injEq] at he
    obtain ⟨rfl, _⟩ := he
    exact ⟨hr.1, fun j hj => by simp at hj⟩
  | c :: cs, ds, ks, p, vs, he, hp, l, hr => by
    obtain ⟨v, vs', rfl, h1, h2⟩ := RCs_inv hr
    simp only [demL] at he
    split at he
    · rename_i x a p1 xs b p2 g1 g2
      simp only [Option.some.injEq, Prod.mk.injEq] at he
      obtain ⟨rfl, rfl, hpp⟩ := he
      rw [hp] at hpp
      simp only [Bool.and_eq_true] at hpp
      have r1 := dem_ok hi g1 hpp.1 (l.sub fun n hn => List.mem_append.2 (.inl hn)) h1
      have r2 := demL_ok hi cs xs b p2 vs' g2 hpp.2 (l.sub fun n hn => List.mem_append.2 (.inr hn)) h2
      refine ⟨by simp [r2.1], fun j hj => ?_⟩
      cases j with
      | zero => exact r1
      | succ j => simpa using r2.2 j (by simpa using hj)
    · cases he

/-- data as arguments -/
def liftA (as : List DArg) : List Arg := as.map fun (g, ds) => (g, ds.map .d)

theorem demArgs_ok (hi : HInv cx ok w0 ρ h w) {h' : Heap} : ∀ (as : List Arg) (ds : List DArg) (ks : List Nat) (p : Bool) (xs : List Value), demArgs h as = some (ds, ks, p) → p = true → Less h h' ks → RAs cx ρ (okc ok w0.heap.size h ρ) w as xs →
    ∀ ρ', RAs cx ρ' (okc ok w0.heap.size h' ρ) w (liftA ds) xs
  | [], ds, ks, p, xs, he, hp, l, hr, ρ' => by
    simp only [demArgs, Option.some.injEq, Prod.mk.injEq] at he
    obtain ⟨rfl, _⟩ := he
    exact ⟨hr.1, fun j hj => by simp [liftA] at hj⟩
  | (g, cs) :: as, ds, ks, p, xs, he, hp, l, hr, ρ' => by
    cases xs with
    | nil => have := hr.1; simp at this
    | cons x xs' =>
      have hr' : RAs cx ρ (okc ok w0.heap.size h ρ) w as xs' := ⟨by have := hr.1; simpa using this, fun i hi => by simpa using hr.2 (i + 1) (by simpa using hi)⟩
      have hx : RA cx ρ (okc ok w0.heap.size h ρ) w (g, cs) x := hr.2 0 (by simp)
      simp only [demArgs] at he
      split at he
      · rename_i ys a p1 zs b p2 g1 g2
        simp only [Option.some.injEq, Prod.mk.injEq] at he
        obtain ⟨rfl, rfl, hpp⟩ := he
        rw [hp] at hpp
        simp only [Bool.and_eq_true] at hpp
        have ih := demArgs_ok hi as zs b p2 xs' g2 hpp.2 (l.sub fun n hn => List.mem_append.2 (.inr hn)) hr' ρ'
        obtain ⟨vs, e1, e2, e3⟩ := RA_cells hx
        have r1 := demL_ok hi cs ys a p1 vs g1 hpp.1 (l.sub fun n hn => List.mem_append.2 (.inl hn)) e2
        have hlen : cs.length = ys.length := by rw [← e2.1]; exact r1.1
        refine ⟨by have := ih.1; simpa [liftA] using this, fun j hj => ?_⟩
        cases j with
        | zero =>
          show RA cx ρ' _ w (g, ys.map .d) x
          rw [e3]
          refine RA_mkv (RCs_map_d r1.1 r1.2) (fun hg => ?_)
          subst hg
          obtain ⟨c, hc, _⟩ := hx
          rw [List.length_map, ← hlen, hc]; rfl
        | succ j => simpa [liftA] using ih.2 j (by simpa [liftA] using hj)
      · cases he
end
end Go.Eng
