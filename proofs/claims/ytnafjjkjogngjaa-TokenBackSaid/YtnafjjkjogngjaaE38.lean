/- Arguments that can be read are opened: what they hold, as the evaluator has it. -/
import Derived.Test.YtnafjjkjogngjaaE37
import Derived.Carry
import Derived.ChangeOld
set_option linter.unusedVariables false
set_option linter.unusedSimpArgs false
namespace Go.Eng
open Go Go.RowKit

inductive KD where
  | int (k : IntKind) | bool | str | sl (t : ET) | no
  deriving DecidableEq
def kd : D → KD
  | .sc (.int k _) => .int k
  | .sc (.bool _) => .bool
  | .sc (.str _) => .str
  | .sl _ _ t _ => .sl t
  | _ => .no

def wfI (n : Int) : Prop := -9223372036854775808 ≤ n ∧ n ≤ 9223372036854775807
def wfU (n : Int) : Prop := 0 ≤ n ∧ n ≤ 18446744073709551615
def wfS (s : ByteArray) : Prop := s.size ≤ maxLen
def wfL {α : Type} (p : α → Prop) (l : List α) : Prop := l.length ≤ maxLen ∧ ∀ x ∈ l, p x
def wfMat (m : Mat) : Prop := wfI m.start ∧ wfI m.fin ∧ wfI m.agg
def wfRun (r : Run) : Prop := wfI r.first ∧ wfI r.at_ ∧ wfI r.step ∧ wfI r.n ∧ wfI r.many ∧ wfI r.agg
def wfPass (p : Pass) : Prop := wfU p.token ∧ wfI p.sess ∧ wfI p.conn ∧ wfI p.off
def wfVal (v : Val) : Prop := wfI v.kind ∧ wfI v.n ∧ wfS v.s
def wfOpn (o : Opn) : Prop := wfI o.code ∧ wfI o.arg ∧ wfVal o.v
def wfStep (x : Step) : Prop := wfS x.name ∧ wfL wfOpn x.ifs ∧ wfI x.min ∧ wfI x.max ∧ wfS x.notName ∧ wfL wfOpn x.notIf
def wfEvt (e : Evt) : Prop := wfS e.name ∧ wfI e.at_ ∧ wfL wfVal e.v
def wfPred (p : Pred) : Prop := wfS p.name ∧ wfL wfOpn p.ifs
def wfQuery (q : Query) : Prop := wfL wfStep q.steps ∧ wfI q.within ∧ wfI q.agg ∧ wfI q.aggStep ∧ wfI q.aggF
def wfTy : (t : ET) → Ty t → Prop
  | .mat => wfMat | .run => wfRun | .pass => wfPass | .val => wfVal | .op => wfOpn | .step => wfStep | .evt => wfEvt | .pred => wfPred | .query => wfQuery
  | .int => wfI | .bool => fun _ => True | .thing => fun _ => True
def wfD : D → Prop
  | .sc (.int k n) => (Lit.int k n).wf = true
  | .sc (.str s) => wfS s
  | .sl _ _ t l => wfL (wfTy t) l
  | _ => True
/-- of a slice's own flags nothing is said but whether it is nil -/
def flagsD : D → Prop
  | .sl nl full _ _ => nl.isSome = true ∧ full = false
  | _ => True

theorem wfI_of {n : Int} (h : (Lit.int .i64 n).wf = true) : wfI n := by
  simp only [Lit.wf, Bool.and_eq_true, decide_eq_true_eq] at h
  exact h
theorem wfU_of {n : Int} (h : (Lit.int .u64 n).wf = true) : wfU n := by
  simp only [Lit.wf, Bool.and_eq_true, decide_eq_true_eq] at h
  exact h

theorem kd_int {d : D} {k : IntKind} (h : kd d = .int k) : ∃ n, d = .sc (.int k n) := by
  unfold kd at h
  split at h <;> first | (injection h with h; subst h; exact ⟨_, rfl⟩) | (cases h; done)
theorem kd_bool {d : D} (h : kd d = .bool) : ∃ b, d = .sc (.bool b) := by
  unfold kd at h
  split at h <;> first | exact ⟨_, rfl⟩ | (cases h; done)
theorem kd_str {d : D} (h : kd d = .str) : ∃ s, d = .sc (.str s) := by
  unfold kd at h
  split at h <;> first | exact ⟨_, rfl⟩ | (cases h; done)
theorem kd_sl {d : D} {t : ET} (h : kd d = .sl t) : ∃ nl full l, d = .sl nl full t l := by
  unfold kd at h
  split at h <;> first | (injection h with h; subst h; exact ⟨_, _, _, rfl⟩) | (cases h; done)
theorem map_cons {ds : List D} {k : KD} {ks : List KD} (h : ds.map kd = k :: ks) : ∃ d r, ds = d :: r ∧ kd d = k ∧ r.map kd = ks := by
  cases ds with
  | nil => cases h
  | cons d r => simp only [List.map_cons, List.cons.injEq] at h; exact ⟨d, r, rfl, h.1, h.2⟩
theorem map_nil {ds : List D} (h : ds.map kd = []) : ds = [] := by simpa using h

/-- an element out of its cells -/
theorem el_of : ∀ (t : ET) (ds : List D), t ≠ .thing → ds.map kd = (enc t (dflt t)).map kd → (∀ d ∈ ds, wfD d) → ∃ x : Ty t, wfTy t x ∧ enc t x = ds.map weak
  | .mat, ds, _, h, hw => by
    obtain ⟨d1, r1, rfl, h1, h⟩ := map_cons h; obtain ⟨d2, r2, rfl, h2, h⟩ := map_cons h; obtain ⟨d3, r3, rfl, h3, h⟩ := map_cons h; obtain ⟨d4, r4, rfl, h4, h⟩ := map_cons h
    obtain rfl := map_nil h
    obtain ⟨a, rfl⟩ := kd_int h1; obtain ⟨b, rfl⟩ := kd_int h2; obtain ⟨c, rfl⟩ := kd_int h3; obtain ⟨d, rfl⟩ := kd_bool h4
    exact ⟨(⟨a, b, c, d⟩ : Mat), ⟨wfI_of (hw (.sc (.int .i64 a)) (by simp)), wfI_of (hw (.sc (.int .i64 b)) (by simp)), wfI_of (hw (.sc (.int .i64 c)) (by simp))⟩, rfl⟩
  | .run, ds, _, h, hw => by
    obtain ⟨d1, r1, rfl, h1, h⟩ := map_cons h; obtain ⟨d2, r2, rfl, h2, h⟩ := map_cons h; obtain ⟨d3, r3, rfl, h3, h⟩ := map_cons h; obtain ⟨d4, r4, rfl, h4, h⟩ := map_cons h
    obtain ⟨d5, r5, rfl, h5, h⟩ := map_cons h; obtain ⟨d6, r6, rfl, h6, h⟩ := map_cons h; obtain ⟨d7, r7, rfl, h7, h⟩ := map_cons h
    obtain rfl := map_nil h
    obtain ⟨a, rfl⟩ := kd_int h1; obtain ⟨b, rfl⟩ := kd_int h2; obtain ⟨c, rfl⟩ := kd_int h3; obtain ⟨d, rfl⟩ := kd_int h4; obtain ⟨e, rfl⟩ := kd_int h5; obtain ⟨f, rfl⟩ := kd_int h6; obtain ⟨g, rfl⟩ := kd_bool h7
    exact ⟨(⟨a, b, c, d, e, f, g⟩ : Run), ⟨wfI_of (hw (.sc (.int .i64 a)) (by simp)), wfI_of (hw (.sc (.int .i64 b)) (by simp)), wfI_of (hw (.sc (.int .i64 c)) (by simp)), wfI_of (hw (.sc (.int .i64 d)) (by simp)), wfI_of (hw (.sc (.int .i64 e)) (by simp)), wfI_of (hw (.sc (.int .i64 f)) (by simp))⟩, rfl⟩
  | .pass, ds, _, h, hw => by
    obtain ⟨d1, r1, rfl, h1, h⟩ := map_cons h; obtain ⟨d2, r2, rfl, h2, h⟩ := map_cons h; obtain ⟨d3, r3, rfl, h3, h⟩ := map_cons h; obtain ⟨d4, r4, rfl, h4, h⟩ := map_cons h
    obtain rfl := map_nil h
    obtain ⟨a, rfl⟩ := kd_int h1; obtain ⟨b, rfl⟩ := kd_int h2; obtain ⟨c, rfl⟩ := kd_int h3; obtain ⟨d, rfl⟩ := kd_int h4
    exact ⟨(⟨a, b, c, d⟩ : Pass), ⟨wfU_of (hw (.sc (.int .u64 a)) (by simp)), wfI_of (hw (.sc (.int .i64 b)) (by simp)), wfI_of (hw (.sc (.int .i64 c)) (by simp)), wfI_of (hw (.sc (.int .i64 d)) (by simp))⟩, rfl⟩
  | .val, ds, _, h, hw => by
    obtain ⟨d1, r1, rfl, h1, h⟩ := map_cons h; obtain ⟨d2, r2, rfl, h2, h⟩ := map_cons h; obtain ⟨d3, r3, rfl, h3, h⟩ := map_cons h
    obtain rfl := map_nil h
    obtain ⟨a, rfl⟩ := kd_int h1; obtain ⟨b, rfl⟩ := kd_int h2; obtain ⟨c, rfl⟩ := kd_str h3
    exact ⟨(⟨a, b, c⟩ : Val), ⟨wfI_of (hw (.sc (.int .i64 a)) (by simp)), wfI_of (hw (.sc (.int .i64 b)) (by simp)), hw (.sc (.str c)) (by simp)⟩, rfl⟩
  | .op, ds, _, h, hw => by
    obtain ⟨d1, r1, rfl, h1, h⟩ := map_cons h; obtain ⟨d2, r2, rfl, h2, h⟩ := map_cons h; obtain ⟨d3, r3, rfl, h3, h⟩ := map_cons h; obtain ⟨d4, r4, rfl, h4, h⟩ := map_cons h; obtain ⟨d5, r5, rfl, h5, h⟩ := map_cons h
    obtain rfl := map_nil h
    obtain ⟨a, rfl⟩ := kd_int h1; obtain ⟨b, rfl⟩ := kd_int h2; obtain ⟨c, rfl⟩ := kd_int h3; obtain ⟨d, rfl⟩ := kd_int h4; obtain ⟨e, rfl⟩ := kd_str h5
    exact ⟨(⟨a, b, ⟨c, d, e⟩⟩ : Opn), ⟨wfI_of (hw (.sc (.int .i64 a)) (by simp)), wfI_of (hw (.sc (.int .i64 b)) (by simp)), wfI_of (hw (.sc (.int .i64 c)) (by simp)), wfI_of (hw (.sc (.int .i64 d)) (by simp)), hw (.sc (.str e)) (by simp)⟩, rfl⟩
  | .step, ds, _, h, hw => by
    obtain ⟨d1, r1, rfl, h1, h⟩ := map_cons h; obtain ⟨d2, r2, rfl, h2, h⟩ := map_cons h; obtain ⟨d3, r3, rfl, h3, h⟩ := map_cons h; obtain ⟨d4, r4, rfl, h4, h⟩ := map_cons h
    obtain ⟨d5, r5, rfl, h5, h⟩ := map_cons h; obtain ⟨d6, r6, rfl, h6, h⟩ := map_cons h; obtain ⟨d7, r7, rfl, h7, h⟩ := map_cons h
    obtain rfl := map_nil h
    obtain ⟨a, rfl⟩ := kd_str h1; obtain ⟨n1, f1, b, rfl⟩ := kd_sl h2; obtain ⟨c, rfl⟩ := kd_int h3; obtain ⟨d, rfl⟩ := kd_int h4; obtain ⟨e, rfl⟩ := kd_bool h5; obtain ⟨f, rfl⟩ := kd_str h6; obtain ⟨n2, f2, g, rfl⟩ := kd_sl h7
    exact ⟨(⟨a, b, c, d, e, f, g⟩ : Step), ⟨hw (.sc (.str a)) (by simp), hw (.sl n1 f1 .op b) (by simp), wfI_of (hw (.sc (.int .i64 c)) (by simp)), wfI_of (hw (.sc (.int .i64 d)) (by simp)), hw (.sc (.str f)) (by simp), hw (.sl n2 f2 .op g) (by simp)⟩, rfl⟩
  | .evt, ds, _, h, hw => by
    obtain ⟨d1, r1, rfl, h1, h⟩ := map_cons h; obtain ⟨d2, r2, rfl, h2, h⟩ := map_cons h; obtain ⟨d3, r3, rfl, h3, h⟩ := map_cons h
    obtain rfl := map_nil h
    obtain ⟨a, rfl⟩ := kd_str h1; obtain ⟨b, rfl⟩ := kd_int h2; obtain ⟨n1, f1, c, rfl⟩ := kd_sl h3
    exact ⟨(⟨a, b, c⟩ : Evt), ⟨hw (.sc (.str a)) (by simp), wfI_of (hw (.sc (.int .i64 b)) (by simp)), hw (.sl n1 f1 .val c) (by simp)⟩, rfl⟩
  | .pred, ds, _, h, hw => by
    obtain ⟨d1, r1, rfl, h1, h⟩ := map_cons h; obtain ⟨d2, r2, rfl, h2, h⟩ := map_cons h
    obtain rfl := map_nil h
    obtain ⟨a, rfl⟩ := kd_str h1; obtain ⟨n1, f1, c, rfl⟩ := kd_sl h2
    exact ⟨(⟨a, c⟩ : Pred), ⟨hw (.sc (.str a)) (by simp), hw (.sl n1 f1 .op c) (by simp)⟩, rfl⟩
  | .query, ds, _, h, hw => by
    obtain ⟨d1, r1, rfl, h1, h⟩ := map_cons h; obtain ⟨d2, r2, rfl, h2, h⟩ := map_cons h; obtain ⟨d3, r3, rfl, h3, h⟩ := map_cons h; obtain ⟨d4, r4, rfl, h4, h⟩ := map_cons h; obtain ⟨d5, r5, rfl, h5, h⟩ := map_cons h
    obtain rfl := map_nil h
    obtain ⟨n1, f1, a, rfl⟩ := kd_sl h1; obtain ⟨b, rfl⟩ := kd_int h2; obtain ⟨c, rfl⟩ := kd_int h3; obtain ⟨d, rfl⟩ := kd_int h4; obtain ⟨e, rfl⟩ := kd_int h5
    exact ⟨(⟨a, b, c, d, e⟩ : Query), ⟨hw (.sl n1 f1 .step a) (by simp), wfI_of (hw (.sc (.int .i64 b)) (by simp)), wfI_of (hw (.sc (.int .i64 c)) (by simp)), wfI_of (hw (.sc (.int .i64 d)) (by simp)), wfI_of (hw (.sc (.int .i64 e)) (by simp))⟩, rfl⟩
  | .int, ds, _, h, hw => by
    obtain ⟨d1, r1, rfl, h1, h⟩ := map_cons h
    obtain rfl := map_nil h
    obtain ⟨a, rfl⟩ := kd_int h1
    exact ⟨(a : Int), wfI_of (hw (.sc (.int .i64 a)) (by simp)), rfl⟩
  | .bool, ds, _, h, hw => by
    obtain ⟨d1, r1, rfl, h1, h⟩ := map_cons h
    obtain rfl := map_nil h
    obtain ⟨a, rfl⟩ := kd_bool h1
    exact ⟨(a : Bool), trivial, rfl⟩
  | .thing, ds, ht, _, _ => absurd rfl ht

/-- a type's form, down to what lies in its slices -/
def opFs (P : Program) (rec : TypeId → List D → Bool) : List Field → Nat → List D → Bool
  | [], _, z => z.isEmpty
  | f :: fs, off, z => f.offset == off && decide (P.cellsOf f.type ≤ z.length) && rec f.type (z.take (P.cellsOf f.type)) && opFs P rec fs (off + P.cellsOf f.type) (z.drop (P.cellsOf f.type))
def opC (P : Program) : Nat → TypeId → List D → Bool
  | 0, _, _ => false
  | d + 1, T, z => match P.underlying T, z with
    | some (.int k), [.sc (.int k' _)] => decide (k = k')
    | some .bool, [.sc (.bool _)] => true
    | some .string, [.sc (.str _)] => true
    | some (.slice e), [.sl _ _ t _] => P.cellsOf e == width t && decide (t ≠ .thing) && opC P d e (enc t (dflt t))
    | some (.struct fs), z => P.cellsOf T == z.length && opFs P (opC P d) fs.toList 0 z
    | _, _ => false

section
variable {H : Type} {enc' : TypeId × Value → H} {P : Program} {cx : Cx} {w : World} {sp : Nat → Bool} {held : Bool}

abbrev RDs (cx : Cx) (w : World) (ds : List D) (cs : List Value) : Prop := cs.length = ds.length ∧ ∀ j, j < ds.length → RD cx (fun _ => True) w (ds.getD j .nils) (cs.getD j undef)

theorem exists_list {α : Type} {p : Nat → α → Prop} : ∀ (n : Nat), (∀ i, i < n → ∃ x, p i x) → ∃ l : List α, l.length = n ∧ ∀ i (d : α), i < n → p i (l.getD i d)
  | 0, _ => ⟨[], rfl, fun i _ h => by omega⟩
  | n + 1, h => by
    obtain ⟨l, h1, h2⟩ := exists_list n (fun i hi => h i (by omega))
    obtain ⟨x, hx⟩ := h n (by omega)
    refine ⟨l ++ [x], by simp [h1], fun i d hi => ?_⟩
    by_cases hin : i < n
    · rw [List.getD_eq_getElem?_getD, List.getElem?_append_left (by omega), ← List.getD_eq_getElem?_getD]; exact h2 i d hin
    · have : i = n := by omega
      subst this
      rw [List.getD_eq_getElem?_getD, List.getElem?_append_right (by omega), h1]
      simpa using hx

theorem mapM_at {α β : Type} {f : α → Option β} : ∀ {l : List α} {r : List β}, l.mapM f = some r → r.length = l.length ∧ ∀ i (h : i < l.length), ∃ y, f l[i] = some y
  | [], r, h => by
    simp at h; subst h; exact ⟨rfl, fun i hi => by simp at hi⟩
  | x :: l, r, h => by
    rw [List.mapM_cons] at h
    cases hx : f x with
    | none => rw [hx] at h; cases h
    | some y =>
      rw [hx] at h
      cases hl : l.mapM f with
      | none => rw [hl] at h; cases h
      | some ys =>
        rw [hl] at h
        obtain ⟨h1, h2⟩ := mapM_at hl
        injection h with h; subst h
        refine ⟨by simp [h1], fun i hi => ?_⟩
        cases i with
        | zero => exact ⟨y, hx⟩
        | succ i => exact h2 i (by simpa using hi)

theorem RDs_append {d1 d2 : List D} {c1 c2 : List Value} (h1 : RDs cx w d1 c1) (h2 : RDs cx w d2 c2) : RDs cx w (d1 ++ d2) (c1 ++ c2) := by
  refine ⟨by simp [h1.1, h2.1], fun j hj => ?_⟩
  by_cases hj1 : j < d1.length
  · rw [List.getD_eq_getElem?_getD, List.getD_eq_getElem?_getD, List.getElem?_append_left hj1, List.getElem?_append_left (by rw [h1.1]; exact hj1), ← List.getD_eq_getElem?_getD, ← List.getD_eq_getElem?_getD]
    exact h1.2 j hj1
  · rw [List.getD_eq_getElem?_getD, List.getD_eq_getElem?_getD, List.getElem?_append_right (by omega), List.getElem?_append_right (by rw [h1.1]; omega), ← List.getD_eq_getElem?_getD, ← List.getD_eq_getElem?_getD, h1.1]
    exact h2.2 _ (by simp at hj; omega)

theorem open_fs {rec : TypeId → List D → Bool} {fuel : Nat}
    (hrec : ∀ T z cs x, rec T z = true → DataW.trod enc' P w 0 sp held fuel T cs = some x → ∃ ds : List D, ds.map kd = z.map kd ∧ (∀ d ∈ ds, wfD d) ∧ (∀ d ∈ ds, flagsD d) ∧ RDs cx w ds cs) :
    ∀ (fs : List Field) (off : Nat) (z : List D) (cs : List Value), opFs P rec fs off z = true → cs.length = off + z.length →
      (∀ f ∈ fs, ∃ x, DataW.trod enc' P w 0 sp held fuel f.type ((cs.drop f.offset).take (P.cellsOf f.type)) = some x) →
      ∃ ds : List D, ds.map kd = z.map kd ∧ (∀ d ∈ ds, wfD d) ∧ (∀ d ∈ ds, flagsD d) ∧ RDs cx w ds (cs.drop off)
  | [], off, z, cs, h, hl, _ => by
    simp only [opFs, List.isEmpty_iff] at h
    subst h
    simp only [List.length_nil, Nat.add_zero] at hl
    exact ⟨[], rfl, (by intro d hd; cases hd), (by intro d hd; cases hd), by rw [List.drop_eq_nil_of_le (by omega)]; rfl, fun j hj => by simp at hj⟩
  | f :: fs, off, z, cs, h, hl, hm => by
    simp only [opFs, Bool.and_eq_true, beq_iff_eq, decide_eq_true_eq] at h
    obtain ⟨⟨⟨ho, hle⟩, h1⟩, h2⟩ := h
    obtain ⟨y, hx⟩ := hm f List.mem_cons_self
    obtain ⟨d1, k1, w1, g1, r1⟩ := hrec _ _ _ _ h1 hx
    obtain ⟨d2, k2, w2, g2, r2⟩ := open_fs hrec fs (off + P.cellsOf f.type) (z.drop (P.cellsOf f.type)) cs h2 (by rw [List.length_drop]; omega) (fun f hf => hm f (List.mem_cons_of_mem _ hf))
    refine ⟨d1 ++ d2, ?_, fun d hd => (List.mem_append.1 hd).elim (w1 d) (w2 d), fun d hd => (List.mem_append.1 hd).elim (g1 d) (g2 d), ?_⟩
    · rw [List.map_append, k1, k2, ← List.map_append, List.take_append_drop]
    · have := RDs_append r1 r2
      rw [ho] at this
      rw [← List.drop_drop, List.take_append_drop] at this
      exact this

theorem add_none {a : Addr} (h : a.spot = none) (n : Nat) : a.add n = ⟨a.block, a.off + n, none⟩ := by
  unfold Addr.add
  split
  · rename_i e; subst e; cases a; simp at h; subst h; rfl
  · rfl

theorem map_getD_kd {ds : List D} (j : Nat) : (ds.map weak).getD j .nils = weak (ds.getD j .nils) := by
  rw [List.getD_eq_getElem?_getD, List.getElem?_map, List.getD_eq_getElem?_getD]
  cases ds[j]? <;> rfl

theorem open_ty : ∀ (d fuel : Nat) (T : TypeId) (z : List D) (cs : List Value) (x : DataW H × List MemPlace), opC P d T z = true → DataW.trod enc' P w 0 sp held fuel T cs = some x →
    ∃ ds : List D, ds.map kd = z.map kd ∧ (∀ d ∈ ds, wfD d) ∧ (∀ d ∈ ds, flagsD d) ∧ RDs cx w ds cs
  | 0, _, _, _, _, _, h, _ => by cases h
  | d + 1, 0, _, _, _, _, _, ht => by cases ht
  | d + 1, fuel + 1, T, z, cs, x, h, ht => by
    have one : ∀ (y : D) (v : Value), RD cx (fun _ => True) w y v → RDs cx w [y] [v] := fun y v hy => ⟨rfl, fun j hj => by
      have : j = 0 := by simp at hj; omega
      subst this; exact hy⟩
    unfold opC at h
    split at h
    · rename_i k k' n hu
      simp only [decide_eq_true_eq] at h; subst h
      obtain ⟨m, rfl, _, hw⟩ := DataW.trod_int hu ht
      exact ⟨[.sc (.int k m)], rfl, by simpa [wfD] using hw, by simp [flagsD], one _ _ (.sc (.int k m))⟩
    · rename_i b hu
      obtain ⟨b', rfl, _⟩ := DataW.trod_bool hu ht
      exact ⟨[.sc (.bool b')], rfl, by simp [wfD], by simp [flagsD], one _ _ (.sc (.bool b'))⟩
    · rename_i s hu
      obtain ⟨s', rfl, _, hw⟩ := DataW.trod_string hu ht
      exact ⟨[.sc (.str s')], rfl, by simpa [wfD, wfS] using hw, by simp [flagsD], one _ _ (.sc (.str s'))⟩
    · rename_i e nl full t l hu
      simp only [Bool.and_eq_true, beq_iff_eq, decide_eq_true_eq] at h
      obtain ⟨⟨hce, hne⟩, hrec⟩ := h
      rcases DataW.trod_slice hu ht with ⟨rfl, _⟩ | ⟨a, len, cap, es, rest, n, hfu, rfl, _, _, hlc, hcm, hel, hat', _⟩
      · exact ⟨[.sl (some true) false t []], rfl, by simp [wfD, wfL], by simp [flagsD], one _ _ (.sl0 _ _ _ _ _ (fun _ => rfl) (fun h => by cases h) (fun h => by cases h) (fun _ => rfl))⟩
      · injection hfu with hfu; subst hfu
        have hat : ∀ i, i < len → ∃ y, (w.cells? 0 (a.add (i * P.cellsOf e)) (P.cellsOf e)).bind (DataW.trod enc' P w 0 sp held fuel e) = some y := fun i hi => by
          rw [hat' i hi]; exact ⟨es[i], List.getElem?_eq_getElem (by omega)⟩
        clear ht hat'
        by_cases hlen : len = 0
        · subst hlen
          exact ⟨[.sl (some false) false t []], rfl, by simp [wfD, wfL], by simp [flagsD], one _ _ (.sl0 _ _ _ _ _ (fun h => by cases h) (fun _ h => by cases h) (fun h => by cases h) (fun h => by cases h))⟩
        · have spot : a.spot = none := by
            obtain ⟨y, hy⟩ := hat 0 (by omega)
            simp only [Nat.zero_mul] at hy
            cases hc : w.cells? 0 (a.add 0) (P.cellsOf e) with
            | none => rw [hc] at hy; cases hy
            | some row =>
              unfold World.cells? at hc
              rw [if_pos (Nat.zero_le _)] at hc
              obtain ⟨_, hc2⟩ := mapM_at hc
              obtain ⟨v, hv⟩ := hc2 0 (by have := width_pos t; simp; omega)
              simp only [List.getElem_range, Addr.add, if_true] at hv
              unfold World.cell? at hv
              split at hv
              · split at hv
                · cases hv
                · rename_i hs; simpa using hs
              · cases hv
          have key : ∀ i, i < len → ∃ y : Ty t × List Value, wfTy t y.1 ∧ y.2.length = width t ∧ (∀ j, j < width t → w.cell? ⟨a.block, a.off + (i * width t + j), none⟩ = some (y.2.getD j undef)) ∧ ∀ j, j < width t → RD cx (fun _ => True) w ((enc t y.1).getD j .nils) (y.2.getD j undef) := fun i hi => by
            obtain ⟨y, hy⟩ := hat i hi
            cases hc : w.cells? 0 (a.add (i * P.cellsOf e)) (P.cellsOf e) with
            | none => rw [hc] at hy; cases hy
            | some row =>
              rw [hc] at hy
              obtain ⟨ds, k1, k2, _, k3⟩ := open_ty d fuel e _ row y hrec hy
              obtain ⟨v, v1, v2⟩ := el_of t ds hne k1 k2
              have hdl : ds.length = width t := by
                have := congrArg List.length k1
                simpa [enc_length] using this
              unfold World.cells? at hc
              rw [if_pos (Nat.zero_le _)] at hc
              refine ⟨(v, row), v1, by rw [k3.1, hdl], fun j hj => ?_, fun j hj => ?_⟩
              · have hcell : ∀ (l : List Nat) (row : List Value), (l.mapM fun i_1 => w.cell? ((a.add (i * P.cellsOf e)).add i_1)) = some row → ∀ j (h : j < l.length), w.cell? ((a.add (i * P.cellsOf e)).add l[j]) = some (row.getD j undef) := by
                  intro l
                  induction l with
                  | nil => intro row _ j h; simp at h
                  | cons q l ih =>
                    intro row hm j hj
                    rw [List.mapM_cons] at hm
                    cases hq : w.cell? ((a.add (i * P.cellsOf e)).add q) with
                    | none => rw [hq] at hm; cases hm
                    | some v0 =>
                      rw [hq] at hm
                      cases hl : l.mapM fun i_1 => w.cell? ((a.add (i * P.cellsOf e)).add i_1) with
                      | none => rw [hl] at hm; cases hm
                      | some vs =>
                        rw [hl] at hm
                        injection hm with hm; subst hm
                        cases j with
                        | zero => simpa using hq
                        | succ j => simpa using ih vs hl j (by simpa using hj)
                have := hcell _ _ hc j (by simp; omega)
                simp only [List.getElem_range] at this
                rw [add_none spot, add_none rfl, hce, Nat.add_assoc] at this
                exact this
              · show RD cx _ w ((enc t v).getD j .nils) _
                rw [v2, map_getD_kd]
                exact (k3.2 j (by omega)).weak
          obtain ⟨ys, y1, y2⟩ := exists_list len key
          refine ⟨[.sl (some false) false t (ys.map (·.1))], rfl, ?_, by simp [flagsD], one _ _ ?_⟩
          · intro dd hd
            simp only [List.mem_singleton] at hd
            subst hd
            refine ⟨by simp [y1]; omega, fun q hq => ?_⟩
            obtain ⟨y, hy, rfl⟩ := List.mem_map.1 hq
            obtain ⟨i, hi, rfl⟩ := List.getElem_of_mem hy
            have := (y2 i (dflt t, []) (by omega)).1
            rw [List.getD_eq_getElem?_getD, List.getElem?_eq_getElem hi] at this
            exact this
          · have hl2 : (ys.map (·.1)).length = len := by simp [y1]
            have e1 : (Value.slice (some a) len cap) = .slice (some ⟨a.block, a.off, none⟩) (ys.map (·.1)).length cap := by
              rw [hl2]
              cases a with | mk b o s => simp at spot; subst spot; rfl
            rw [e1]
            refine RD.sl (ok := fun _ => True) (some false) false t (ys.map (·.1)) a.block a.off cap (fun i j => (ys.getD i (dflt t, [])).2.getD j undef) ?_ trivial (by omega) (fun h => by cases h) (fun h => by cases h) (fun i j hi hj => ?_) (fun i j hi hj => ?_)
            · intro h
              rw [h] at hl2; simp at hl2; omega
            · exact (y2 i (dflt t, []) (by omega)).2.2.1 j hj
            · have e2 : (ys.map (·.1)).getD i (dflt t) = (ys.getD i (dflt t, [])).1 := by
                rw [List.getD_eq_getElem?_getD, List.getElem?_map, List.getD_eq_getElem?_getD]
                cases ys[i]? <;> rfl
              unfold cellAt
              rw [e2]
              exact (y2 i (dflt t, []) (by omega)).2.2.2 j hj
    · rename_i fs hu
      simp only [Bool.and_eq_true, beq_iff_eq] at h
      obtain ⟨xs, n, hfu, _, hcl, hxl, hat⟩ := DataW.trod_struct hu ht
      injection hfu with hfu; subst hfu
      have := open_fs (cx := cx) (fun T z cs x h1 h2 => open_ty d fuel T z cs x h1 h2) fs.toList 0 _ cs h.2 (by omega) (fun f hf => by
        obtain ⟨i, hi, rfl⟩ := List.getElem_of_mem hf
        have hi' : i < fs.size := by simpa using hi
        have := hat i fs.toList[i] (by simp)
        rw [this]
        exact ⟨xs[i], List.getElem?_eq_getElem (by omega)⟩)
      simpa using this
    · cases h
termination_by d => d
end
end Go.Eng
