/- The evaluator, part 3: the texts E38, E39, E40, E41, E42, E43, E44, E45, E46 in one file. -/
import Derived.Test.YtoohnjneocohnaaGreatZE2
import Derived.Carry
import Derived.ChangeOld
import Derived.Handed
import Derived.JoinedOf
import Derived.ChangeSame
import Derived.RowKit
/- Arguments that can be read are opened: what they hold, as the evaluator has it. -/
set_option linter.unusedVariables false
set_option linter.unusedSimpArgs false
namespace Go.Eng
open Go Go.RowKit

inductive KD where
 | int (k : IntKind) | bool | str | sl (t : ET) | no
 deriving DecidableEq
def kd : D → KD
 | .sc (.int k _) => .int k
 | .sc (.bool _) => .bool
 | .sc (.str _) => .str
 | .sl _ _ t _ => .sl t
 | _ => .no

def wfI (n : Int) : Prop := -9223372036854775808 ≤ n ∧ n ≤ 9223372036854775807
def wfU (n : Int) : Prop := 0 ≤ n ∧ n ≤ 18446744073709551615
def wfS (s : ByteArray) : Prop := s.size ≤ maxLen
def wfL {α : Type} (p : α → Prop) (l : List α) : Prop := l.length ≤ maxLen ∧ ∀ x ∈ l, p x
def wfMat (m : Mat) : Prop := wfI m.start ∧ wfI m.fin ∧ wfI m.agg
def wfRun (r : Run) : Prop := wfI r.first ∧ wfI r.at_ ∧ wfI r.step ∧ wfI r.n ∧ wfI r.many ∧ wfI r.agg
def wfPass (p : Pass) : Prop := wfU p.token ∧ wfI p.sess ∧ wfI p.conn ∧ wfI p.off
def wfVal (v : Val) : Prop := wfI v.kind ∧ wfI v.n ∧ wfS v.s
def wfOpn (o : Opn) : Prop := wfI o.code ∧ wfI o.arg ∧ wfVal o.v
def wfStep (x : Step) : Prop := wfS x.name ∧ wfL wfOpn x.ifs ∧ wfI x.min ∧ wfI x.max ∧ wfS x.notName ∧ wfL wfOpn x.notIf
def wfEvt (e : Evt) : Prop := wfS e.name ∧ wfI e.at_ ∧ wfL wfVal e.v
def wfPred (p : Pred) : Prop := wfS p.name ∧ wfL wfOpn p.ifs
def wfQuery (q : Query) : Prop := wfL wfStep q.steps ∧ wfI q.within ∧ wfI q.agg ∧ wfI q.aggStep ∧ wfI q.aggF
def wfTy : (t : ET) → Ty t → Prop
 | .mat => wfMat | .run => wfRun | .pass => wfPass | .val => wfVal | .op => wfOpn | .step => wfStep | .evt => wfEvt | .pred => wfPred | .query => wfQuery
 | .int => wfI | .bool => fun _ => True | .thing => fun _ => True
def wfD : D → Prop
 | .sc (.int k n) => (Lit.int k n).wf = true
 | .sc (.str s) => wfS s
 | .sl _ _ t l => wfL (wfTy t) l
 | _ => True
def flagsD : D → Prop
 | .sl nl full _ _ => nl.isSome = true ∧ full = false
 | _ => True

theorem wfI_of {n : Int} (h : (Lit.int .i64 n).wf = true) : wfI n := by
 simp only [Lit.wf, Bool.and_eq_true, decide_eq_true_eq] at h
 exact h
theorem wfU_of {n : Int} (h : (Lit.int .u64 n).wf = true) : wfU n := by
 simp only [Lit.wf, Bool.and_eq_true, decide_eq_true_eq] at h
 exact h

theorem kd_int {d : D} {k : IntKind} (h : kd d = .int k) : ∃ n, d = .sc (.int k n) := by
 unfold kd at h
 split at h <;> first | (injection h with h; subst h; exact ⟨_, rfl⟩) | (cases h; done)
theorem kd_bool {d : D} (h : kd d = .bool) : ∃ b, d = .sc (.bool b) := by
 unfold kd at h
 split at h <;> first | exact ⟨_, rfl⟩ | (cases h; done)
theorem kd_str {d : D} (h : kd d = .str) : ∃ s, d = .sc (.str s) := by
 unfold kd at h
 split at h <;> first | exact ⟨_, rfl⟩ | (cases h; done)
theorem kd_sl {d : D} {t : ET} (h : kd d = .sl t) : ∃ nl full l, d = .sl nl full t l := by
 unfold kd at h
 split at h <;> first | (injection h with h; subst h; exact ⟨_, _, _, rfl⟩) | (cases h; done)
theorem map_cons {ds : List D} {k : KD} {ks : List KD} (h : ds.map kd = k :: ks) : ∃ d r, ds = d :: r ∧ kd d = k ∧ r.map kd = ks := by
 cases ds with
 | nil => cases h
 | cons d r => simp only [List.map_cons, List.cons.injEq] at h; exact ⟨d, r, rfl, h.1, h.2⟩
theorem map_nil {ds : List D} (h : ds.map kd = []) : ds = [] := by simpa using h

theorem el_of : ∀ (t : ET) (ds : List D), t ≠ .thing → ds.map kd = (enc t (dflt t)).map kd → (∀ d ∈ ds, wfD d) → ∃ x : Ty t, wfTy t x ∧ enc t x = ds.map weak
 | .mat, ds, _, h, hw => by
  obtain ⟨d1, r1, rfl, h1, h⟩ := map_cons h; obtain ⟨d2, r2, rfl, h2, h⟩ := map_cons h; obtain ⟨d3, r3, rfl, h3, h⟩ := map_cons h; obtain ⟨d4, r4, rfl, h4, h⟩ := map_cons h
  obtain rfl := map_nil h
  obtain ⟨a, rfl⟩ := kd_int h1; obtain ⟨b, rfl⟩ := kd_int h2; obtain ⟨c, rfl⟩ := kd_int h3; obtain ⟨d, rfl⟩ := kd_bool h4
  exact ⟨(⟨a, b, c, d⟩ : Mat), ⟨wfI_of (hw (.sc (.int .i64 a)) (by simp)), wfI_of (hw (.sc (.int .i64 b)) (by simp)), wfI_of (hw (.sc (.int .i64 c)) (by simp))⟩, rfl⟩
 | .run, ds, _, h, hw => by
  obtain ⟨d1, r1, rfl, h1, h⟩ := map_cons h; obtain ⟨d2, r2, rfl, h2, h⟩ := map_cons h; obtain ⟨d3, r3, rfl, h3, h⟩ := map_cons h; obtain ⟨d4, r4, rfl, h4, h⟩ := map_cons h
  obtain ⟨d5, r5, rfl, h5, h⟩ := map_cons h; obtain ⟨d6, r6, rfl, h6, h⟩ := map_cons h; obtain ⟨d7, r7, rfl, h7, h⟩ := map_cons h
  obtain rfl := map_nil h
  obtain ⟨a, rfl⟩ := kd_int h1; obtain ⟨b, rfl⟩ := kd_int h2; obtain ⟨c, rfl⟩ := kd_int h3; obtain ⟨d, rfl⟩ := kd_int h4; obtain ⟨e, rfl⟩ := kd_int h5; obtain ⟨f, rfl⟩ := kd_int h6; obtain ⟨g, rfl⟩ := kd_bool h7
  exact ⟨(⟨a, b, c, d, e, f, g⟩ : Run), ⟨wfI_of (hw (.sc (.int .i64 a)) (by simp)), wfI_of (hw (.sc (.int .i64 b)) (by simp)), wfI_of (hw (.sc (.int .i64 c)) (by simp)), wfI_of (hw (.sc (.int .i64 d)) (by simp)), wfI_of (hw (.sc (.int .i64 e)) (by simp)), wfI_of (hw (.sc (.int .i64 f)) (by simp))⟩, rfl⟩
 | .pass, ds, _, h, hw => by
  obtain ⟨d1, r1, rfl, h1, h⟩ := map_cons h; obtain ⟨d2, r2, rfl, h2, h⟩ := map_cons h; obtain ⟨d3, r3, rfl, h3, h⟩ := map_cons h; obtain ⟨d4, r4, rfl, h4, h⟩ := map_cons h
  obtain rfl := map_nil h
  obtain ⟨a, rfl⟩ := kd_int h1; obtain ⟨b, rfl⟩ := kd_int h2; obtain ⟨c, rfl⟩ := kd_int h3; obtain ⟨d, rfl⟩ := kd_int h4
  exact ⟨(⟨a, b, c, d⟩ : Pass), ⟨wfU_of (hw (.sc (.int .u64 a)) (by simp)), wfI_of (hw (.sc (.int .i64 b)) (by simp)), wfI_of (hw (.sc (.int .i64 c)) (by simp)), wfI_of (hw (.sc (.int .i64 d)) (by simp))⟩, rfl⟩
 | .val, ds, _, h, hw => by
  obtain ⟨d1, r1, rfl, h1, h⟩ := map_cons h; obtain ⟨d2, r2, rfl, h2, h⟩ := map_cons h; obtain ⟨d3, r3, rfl, h3, h⟩ := map_cons h
  obtain rfl := map_nil h
  obtain ⟨a, rfl⟩ := kd_int h1; obtain ⟨b, rfl⟩ := kd_int h2; obtain ⟨c, rfl⟩ := kd_str h3
  exact ⟨(⟨a, b, c⟩ : Val), ⟨wfI_of (hw (.sc (.int .i64 a)) (by simp)), wfI_of (hw (.sc (.int .i64 b)) (by simp)), hw (.sc (.str c)) (by simp)⟩, rfl⟩
 | .op, ds, _, h, hw => by
  obtain ⟨d1, r1, rfl, h1, h⟩ := map_cons h; obtain ⟨d2, r2, rfl, h2, h⟩ := map_cons h; obtain ⟨d3, r3, rfl, h3, h⟩ := map_cons h; obtain ⟨d4, r4, rfl, h4, h⟩ := map_cons h; obtain ⟨d5, r5, rfl, h5, h⟩ := map_cons h
  obtain rfl := map_nil h
  obtain ⟨a, rfl⟩ := kd_int h1; obtain ⟨b, rfl⟩ := kd_int h2; obtain ⟨c, rfl⟩ := kd_int h3; obtain ⟨d, rfl⟩ := kd_int h4; obtain ⟨e, rfl⟩ := kd_str h5
  exact ⟨(⟨a, b, ⟨c, d, e⟩⟩ : Opn), ⟨wfI_of (hw (.sc (.int .i64 a)) (by simp)), wfI_of (hw (.sc (.int .i64 b)) (by simp)), wfI_of (hw (.sc (.int .i64 c)) (by simp)), wfI_of (hw (.sc (.int .i64 d)) (by simp)), hw (.sc (.str e)) (by simp)⟩, rfl⟩
 | .step, ds, _, h, hw => by
  obtain ⟨d1, r1, rfl, h1, h⟩ := map_cons h; obtain ⟨d2, r2, rfl, h2, h⟩ := map_cons h; obtain ⟨d3, r3, rfl, h3, h⟩ := map_cons h; obtain ⟨d4, r4, rfl, h4, h⟩ := map_cons h
  obtain ⟨d5, r5, rfl, h5, h⟩ := map_cons h; obtain ⟨d6, r6, rfl, h6, h⟩ := map_cons h; obtain ⟨d7, r7, rfl, h7, h⟩ := map_cons h
  obtain rfl := map_nil h
  obtain ⟨a, rfl⟩ := kd_str h1; obtain ⟨n1, f1, b, rfl⟩ := kd_sl h2; obtain ⟨c, rfl⟩ := kd_int h3; obtain ⟨d, rfl⟩ := kd_int h4; obtain ⟨e, rfl⟩ := kd_bool h5; obtain ⟨f, rfl⟩ := kd_str h6; obtain ⟨n2, f2, g, rfl⟩ := kd_sl h7
  exact ⟨(⟨a, b, c, d, e, f, g⟩ : Step), ⟨hw (.sc (.str a)) (by simp), hw (.sl n1 f1 .op b) (by simp), wfI_of (hw (.sc (.int .i64 c)) (by simp)), wfI_of (hw (.sc (.int .i64 d)) (by simp)), hw (.sc (.str f)) (by simp), hw (.sl n2 f2 .op g) (by simp)⟩, rfl⟩
 | .evt, ds, _, h, hw => by
  obtain ⟨d1, r1, rfl, h1, h⟩ := map_cons h; obtain ⟨d2, r2, rfl, h2, h⟩ := map_cons h; obtain ⟨d3, r3, rfl, h3, h⟩ := map_cons h
  obtain rfl := map_nil h
  obtain ⟨a, rfl⟩ := kd_str h1; obtain ⟨b, rfl⟩ := kd_int h2; obtain ⟨n1, f1, c, rfl⟩ := kd_sl h3
  exact ⟨(⟨a, b, c⟩ : Evt), ⟨hw (.sc (.str a)) (by simp), wfI_of (hw (.sc (.int .i64 b)) (by simp)), hw (.sl n1 f1 .val c) (by simp)⟩, rfl⟩
 | .pred, ds, _, h, hw => by
  obtain ⟨d1, r1, rfl, h1, h⟩ := map_cons h; obtain ⟨d2, r2, rfl, h2, h⟩ := map_cons h
  obtain rfl := map_nil h
  obtain ⟨a, rfl⟩ := kd_str h1; obtain ⟨n1, f1, c, rfl⟩ := kd_sl h2
  exact ⟨(⟨a, c⟩ : Pred), ⟨hw (.sc (.str a)) (by simp), hw (.sl n1 f1 .op c) (by simp)⟩, rfl⟩
 | .query, ds, _, h, hw => by
  obtain ⟨d1, r1, rfl, h1, h⟩ := map_cons h; obtain ⟨d2, r2, rfl, h2, h⟩ := map_cons h; obtain ⟨d3, r3, rfl, h3, h⟩ := map_cons h; obtain ⟨d4, r4, rfl, h4, h⟩ := map_cons h; obtain ⟨d5, r5, rfl, h5, h⟩ := map_cons h
  obtain rfl := map_nil h
  obtain ⟨n1, f1, a, rfl⟩ := kd_sl h1; obtain ⟨b, rfl⟩ := kd_int h2; obtain ⟨c, rfl⟩ := kd_int h3; obtain ⟨d, rfl⟩ := kd_int h4; obtain ⟨e, rfl⟩ := kd_int h5
  exact ⟨(⟨a, b, c, d, e⟩ : Query), ⟨hw (.sl n1 f1 .step a) (by simp), wfI_of (hw (.sc (.int .i64 b)) (by simp)), wfI_of (hw (.sc (.int .i64 c)) (by simp)), wfI_of (hw (.sc (.int .i64 d)) (by simp)), wfI_of (hw (.sc (.int .i64 e)) (by simp))⟩, rfl⟩
 | .int, ds, _, h, hw => by
  obtain ⟨d1, r1, rfl, h1, h⟩ := map_cons h
  obtain rfl := map_nil h
  obtain ⟨a, rfl⟩ := kd_int h1
  exact ⟨(a : Int), wfI_of (hw (.sc (.int .i64 a)) (by simp)), rfl⟩
 | .bool, ds, _, h, hw => by
  obtain ⟨d1, r1, rfl, h1, h⟩ := map_cons h
  obtain rfl := map_nil h
  obtain ⟨a, rfl⟩ := kd_bool h1
  exact ⟨(a : Bool), trivial, rfl⟩
 | .thing, ds, ht, _, _ => absurd rfl ht

def opFs (P : Program) (rec : TypeId → List D → Bool) : List Field → Nat → List D → Bool
 | [], _, z => z.isEmpty
 | f :: fs, off, z => f.offset == off && decide (P.cellsOf f.type ≤ z.length) && rec f.type (z.take (P.cellsOf f.type)) && opFs P rec fs (off + P.cellsOf f.type) (z.drop (P.cellsOf f.type))
def opC (P : Program) : Nat → TypeId → List D → Bool
 | 0, _, _ => false
 | d + 1, T, z => match P.underlying T, z with
  | some (.int k), [.sc (.int k' _)] => decide (k = k')
  | some .bool, [.sc (.bool _)] => true
  | some .string, [.sc (.str _)] => true
  | some (.slice e), [.sl _ _ t _] => P.cellsOf e == width t && decide (t ≠ .thing) && opC P d e (enc t (dflt t))
  | some (.struct fs), z => P.cellsOf T == z.length && opFs P (opC P d) fs.toList 0 z
  | _, _ => false

section
variable {H : Type} {enc' : TypeId × Value → H} {P : Program} {cx : Cx} {w : World} {sp : Nat → Bool} {held : Bool}

abbrev RDs (cx : Cx) (w : World) (ds : List D) (cs : List Value) : Prop := cs.length = ds.length ∧ ∀ j, j < ds.length → RD cx (fun _ => True) w (ds.getD j .nils) (cs.getD j undef)

theorem exists_list {α : Type} {p : Nat → α → Prop} : ∀ (n : Nat), (∀ i, i < n → ∃ x, p i x) → ∃ l : List α, l.length = n ∧ ∀ i (d : α), i < n → p i (l.getD i d)
 | 0, _ => ⟨[], rfl, fun i _ h => by omega⟩
 | n + 1, h => by
  obtain ⟨l, h1, h2⟩ := exists_list n (fun i hi => h i (by omega))
  obtain ⟨x, hx⟩ := h n (by omega)
  refine ⟨l ++ [x], by simp [h1], fun i d hi => ?_⟩
  by_cases hin : i < n
  ·rw [List.getD_eq_getElem?_getD, List.getElem?_append_left (by omega), ← List.getD_eq_getElem?_getD]; exact h2 i d hin
  ·have : i = n := by omega
   subst this
   rw [List.getD_eq_getElem?_getD, List.getElem?_append_right (by omega), h1]
   simpa using hx

theorem mapM_at {α β : Type} {f : α → Option β} : ∀ {l : List α} {r : List β}, l.mapM f = some r → r.length = l.length ∧ ∀ i (h : i < l.length), ∃ y, f l[i] = some y
 | [], r, h => by
  simp at h; subst h; exact ⟨rfl, fun i hi => by simp at hi⟩
 | x :: l, r, h => by
  rw [List.mapM_cons] at h
  cases hx : f x with
  | none => rw [hx] at h; cases h
  | some y =>
   rw [hx] at h
   cases hl : l.mapM f with
   | none => rw [hl] at h; cases h
   | some ys =>
    rw [hl] at h
    obtain ⟨h1, h2⟩ := mapM_at hl
    injection h with h; subst h
    refine ⟨by simp [h1], fun i hi => ?_⟩
    cases i with
    | zero => exact ⟨y, hx⟩
    | succ i => exact h2 i (by simpa using hi)

theorem RDs_append {d1 d2 : List D} {c1 c2 : List Value} (h1 : RDs cx w d1 c1) (h2 : RDs cx w d2 c2) : RDs cx w (d1 ++ d2) (c1 ++ c2) := by
 refine ⟨by simp [h1.1, h2.1], fun j hj => ?_⟩
 by_cases hj1 : j < d1.length
 ·rw [List.getD_eq_getElem?_getD, List.getD_eq_getElem?_getD, List.getElem?_append_left hj1, List.getElem?_append_left (by rw [h1.1]; exact hj1), ← List.getD_eq_getElem?_getD, ← List.getD_eq_getElem?_getD]
  exact h1.2 j hj1
 ·rw [List.getD_eq_getElem?_getD, List.getD_eq_getElem?_getD, List.getElem?_append_right (by omega), List.getElem?_append_right (by rw [h1.1]; omega), ← List.getD_eq_getElem?_getD, ← List.getD_eq_getElem?_getD, h1.1]
  exact h2.2 _ (by simp at hj; omega)

theorem open_fs {rec : TypeId → List D → Bool} {fuel : Nat}
    (hrec : ∀ T z cs x, rec T z = true → DataW.trod enc' P w 0 sp held fuel T cs = some x → ∃ ds : List D, ds.map kd = z.map kd ∧ (∀ d ∈ ds, wfD d) ∧ (∀ d ∈ ds, flagsD d) ∧ RDs cx w ds cs) :
    ∀ (fs : List Field) (off : Nat) (z : List D) (cs : List Value), opFs P rec fs off z = true → cs.length = off + z.length →
     (∀ f ∈ fs, ∃ x, DataW.trod enc' P w 0 sp held fuel f.type ((cs.drop f.offset).take (P.cellsOf f.type)) = some x) →
     ∃ ds : List D, ds.map kd = z.map kd ∧ (∀ d ∈ ds, wfD d) ∧ (∀ d ∈ ds, flagsD d) ∧ RDs cx w ds (cs.drop off)
 | [], off, z, cs, h, hl, _ => by
  simp only [opFs, List.isEmpty_iff] at h
  subst h
  simp only [List.length_nil, Nat.add_zero] at hl
  exact ⟨[], rfl, (by intro d hd; cases hd), (by intro d hd; cases hd), by rw [List.drop_eq_nil_of_le (by omega)]; rfl, fun j hj => by simp at hj⟩
 | f :: fs, off, z, cs, h, hl, hm => by
  simp only [opFs, Bool.and_eq_true, beq_iff_eq, decide_eq_true_eq] at h
  obtain ⟨⟨⟨ho, hle⟩, h1⟩, h2⟩ := h
  obtain ⟨y, hx⟩ := hm f List.mem_cons_self
  obtain ⟨d1, k1, w1, g1, r1⟩ := hrec _ _ _ _ h1 hx
  obtain ⟨d2, k2, w2, g2, r2⟩ := open_fs hrec fs (off + P.cellsOf f.type) (z.drop (P.cellsOf f.type)) cs h2 (by rw [List.length_drop]; omega) (fun f hf => hm f (List.mem_cons_of_mem _ hf))
  refine ⟨d1 ++ d2, ?_, fun d hd => (List.mem_append.1 hd).elim (w1 d) (w2 d), fun d hd => (List.mem_append.1 hd).elim (g1 d) (g2 d), ?_⟩
  ·rw [List.map_append, k1, k2, ← List.map_append, List.take_append_drop]
  ·have := RDs_append r1 r2
   rw [ho] at this
   rw [← List.drop_drop, List.take_append_drop] at this
   exact this

theorem add_none {a : Addr} (h : a.spot = none) (n : Nat) : a.add n = ⟨a.block, a.off + n, none⟩ := by
 unfold Addr.add
 split
 ·rename_i e; subst e; cases a; simp at h; subst h; rfl
 ·rfl

theorem map_getD_kd {ds : List D} (j : Nat) : (ds.map weak).getD j .nils = weak (ds.getD j .nils) := by
 rw [List.getD_eq_getElem?_getD, List.getElem?_map, List.getD_eq_getElem?_getD]
 cases ds[j]? <;> rfl

theorem open_ty : ∀ (d fuel : Nat) (T : TypeId) (z : List D) (cs : List Value) (x : DataW H × List MemPlace), opC P d T z = true → DataW.trod enc' P w 0 sp held fuel T cs = some x →
    ∃ ds : List D, ds.map kd = z.map kd ∧ (∀ d ∈ ds, wfD d) ∧ (∀ d ∈ ds, flagsD d) ∧ RDs cx w ds cs
 | 0, _, _, _, _, _, h, _ => by cases h
 | d + 1, 0, _, _, _, _, _, ht => by cases ht
 | d + 1, fuel + 1, T, z, cs, x, h, ht => by
  have one : ∀ (y : D) (v : Value), RD cx (fun _ => True) w y v → RDs cx w [y] [v] := fun y v hy => ⟨rfl, fun j hj => by
   have : j = 0 := by simp at hj; omega
   subst this; exact hy⟩
  unfold opC at h
  split at h
  ·rename_i k k' n hu
   simp only [decide_eq_true_eq] at h; subst h
   obtain ⟨m, rfl, _, hw⟩ := DataW.trod_int hu ht
   exact ⟨[.sc (.int k m)], rfl, by simpa [wfD] using hw, by simp [flagsD], one _ _ (.sc (.int k m))⟩
  ·rename_i b hu
   obtain ⟨b', rfl, _⟩ := DataW.trod_bool hu ht
   exact ⟨[.sc (.bool b')], rfl, by simp [wfD], by simp [flagsD], one _ _ (.sc (.bool b'))⟩
  ·rename_i s hu
   obtain ⟨s', rfl, _, hw⟩ := DataW.trod_string hu ht
   exact ⟨[.sc (.str s')], rfl, by simpa [wfD, wfS] using hw, by simp [flagsD], one _ _ (.sc (.str s'))⟩
  ·rename_i e nl full t l hu
   simp only [Bool.and_eq_true, beq_iff_eq, decide_eq_true_eq] at h
   obtain ⟨⟨hce, hne⟩, hrec⟩ := h
   rcases DataW.trod_slice hu ht with ⟨rfl, _⟩ | ⟨a, len, cap, es, rest, n, hfu, rfl, _, _, hlc, hcm, hel, hat', _⟩
   ·exact ⟨[.sl (some true) false t []], rfl, by simp [wfD, wfL], by simp [flagsD], one _ _ (.sl0 _ _ _ _ _ (fun _ => rfl) (fun h => by cases h) (fun h => by cases h) (fun _ => rfl))⟩
   ·injection hfu with hfu; subst hfu
    have hat : ∀ i, i < len → ∃ y, (w.cells? 0 (a.add (i * P.cellsOf e)) (P.cellsOf e)).bind (DataW.trod enc' P w 0 sp held fuel e) = some y := fun i hi => by
     rw [hat' i hi]; exact ⟨es[i], List.getElem?_eq_getElem (by omega)⟩
    clear ht hat'
    by_cases hlen : len = 0
    ·subst hlen
     exact ⟨[.sl (some false) false t []], rfl, by simp [wfD, wfL], by simp [flagsD], one _ _ (.sl0 _ _ _ _ _ (fun h => by cases h) (fun _ h => by cases h) (fun h => by cases h) (fun h => by cases h))⟩
    ·have spot : a.spot = none := by
       obtain ⟨y, hy⟩ := hat 0 (by omega)
       simp only [Nat.zero_mul] at hy
       cases hc : w.cells? 0 (a.add 0) (P.cellsOf e) with
       | none => rw [hc] at hy; cases hy
       | some row =>
        unfold World.cells? at hc
        rw [if_pos (Nat.zero_le _)] at hc
        obtain ⟨_, hc2⟩ := mapM_at hc
        obtain ⟨v, hv⟩ := hc2 0 (by have := width_pos t; simp; omega)
        simp only [List.getElem_range, Addr.add, if_true] at hv
        unfold World.cell? at hv
        split at hv
        ·split at hv
         ·cases hv
         ·rename_i hs; simpa using hs
        ·cases hv
     have key : ∀ i, i < len → ∃ y : Ty t × List Value, wfTy t y.1 ∧ y.2.length = width t ∧ (∀ j, j < width t → w.cell? ⟨a.block, a.off + (i * width t + j), none⟩ = some (y.2.getD j undef)) ∧ ∀ j, j < width t → RD cx (fun _ => True) w ((enc t y.1).getD j .nils) (y.2.getD j undef) := fun i hi => by
      obtain ⟨y, hy⟩ := hat i hi
      cases hc : w.cells? 0 (a.add (i * P.cellsOf e)) (P.cellsOf e) with
      | none => rw [hc] at hy; cases hy
      | some row =>
       rw [hc] at hy
       obtain ⟨ds, k1, k2, _, k3⟩ := open_ty d fuel e _ row y hrec hy
       obtain ⟨v, v1, v2⟩ := el_of t ds hne k1 k2
       have hdl : ds.length = width t := by
        have := congrArg List.length k1
        simpa [enc_length] using this
       unfold World.cells? at hc
       rw [if_pos (Nat.zero_le _)] at hc
       refine ⟨(v, row), v1, by rw [k3.1, hdl], fun j hj => ?_, fun j hj => ?_⟩
       ·have hcell : ∀ (l : List Nat) (row : List Value), (l.mapM fun i_1 => w.cell? ((a.add (i * P.cellsOf e)).add i_1)) = some row → ∀ j (h : j < l.length), w.cell? ((a.add (i * P.cellsOf e)).add l[j]) = some (row.getD j undef) := by
          intro l
          induction l with
          | nil => intro row _ j h; simp at h
          | cons q l ih =>
           intro row hm j hj
           rw [List.mapM_cons] at hm
           cases hq : w.cell? ((a.add (i * P.cellsOf e)).add q) with
           | none => rw [hq] at hm; cases hm
           | some v0 =>
            rw [hq] at hm
            cases hl : l.mapM fun i_1 => w.cell? ((a.add (i * P.cellsOf e)).add i_1) with
            | none => rw [hl] at hm; cases hm
            | some vs =>
             rw [hl] at hm
             injection hm with hm; subst hm
             cases j with
             | zero => simpa using hq
             | succ j => simpa using ih vs hl j (by simpa using hj)
        have := hcell _ _ hc j (by simp; omega)
        simp only [List.getElem_range] at this
        rw [add_none spot, add_none rfl, hce, Nat.add_assoc] at this
        exact this
       ·show RD cx _ w ((enc t v).getD j .nils) _
        rw [v2, map_getD_kd]
        exact (k3.2 j (by omega)).weak
     obtain ⟨ys, y1, y2⟩ := exists_list len key
     refine ⟨[.sl (some false) false t (ys.map (·.1))], rfl, ?_, by simp [flagsD], one _ _ ?_⟩
     ·intro dd hd
      simp only [List.mem_singleton] at hd
      subst hd
      refine ⟨by simp [y1]; omega, fun q hq => ?_⟩
      obtain ⟨y, hy, rfl⟩ := List.mem_map.1 hq
      obtain ⟨i, hi, rfl⟩ := List.getElem_of_mem hy
      have := (y2 i (dflt t, []) (by omega)).1
      rw [List.getD_eq_getElem?_getD, List.getElem?_eq_getElem hi] at this
      exact this
     ·have hl2 : (ys.map (·.1)).length = len := by simp [y1]
      have e1 : (Value.slice (some a) len cap) = .slice (some ⟨a.block, a.off, none⟩) (ys.map (·.1)).length cap := by
       rw [hl2]
       cases a with | mk b o s => simp at spot; subst spot; rfl
      rw [e1]
      refine RD.sl (ok := fun _ => True) (some false) false t (ys.map (·.1)) a.block a.off cap (fun i j => (ys.getD i (dflt t, [])).2.getD j undef) ?_ trivial (by omega) (fun h => by cases h) (fun h => by cases h) (fun i j hi hj => ?_) (fun i j hi hj => ?_)
      ·intro h
       rw [h] at hl2; simp at hl2; omega
      ·exact (y2 i (dflt t, []) (by omega)).2.2.1 j hj
      ·have e2 : (ys.map (·.1)).getD i (dflt t) = (ys.getD i (dflt t, [])).1 := by
         rw [List.getD_eq_getElem?_getD, List.getElem?_map, List.getD_eq_getElem?_getD]
         cases ys[i]? <;> rfl
       unfold cellAt
       rw [e2]
       exact (y2 i (dflt t, []) (by omega)).2.2.2 j hj
  ·rename_i fs hu
   simp only [Bool.and_eq_true, beq_iff_eq] at h
   obtain ⟨xs, n, hfu, _, hcl, hxl, hat⟩ := DataW.trod_struct hu ht
   injection hfu with hfu; subst hfu
   have := open_fs (cx := cx) (fun T z cs x h1 h2 => open_ty d fuel T z cs x h1 h2) fs.toList 0 _ cs h.2 (by omega) (fun f hf => by
    obtain ⟨i, hi, rfl⟩ := List.getElem_of_mem hf
    have hi' : i < fs.size := by simpa using hi
    have := hat i fs.toList[i] (by simp)
    rw [this]
    exact ⟨xs[i], List.getElem?_eq_getElem (by omega)⟩)
   simpa using this
  ·cases h
termination_by d => d
end
end Go.Eng
/- What closes a law's row: a function of which it is known that it hands back true, whatever data it is called with. -/
set_option linter.unusedVariables false
set_option linter.unusedSimpArgs false
namespace Go.Eng
open Go Go.RowKit

abbrev Shape := Bool × List D
def Fit1 (s : Shape) (a : DArg) : Prop := a.1 = s.1 ∧ a.2.map kd = s.2.map kd ∧ (∀ d ∈ a.2, wfD d) ∧ ∀ d ∈ a.2, flagsD d
def Fits : List Shape → List DArg → Prop
 | [], [] => True
 | s :: ss, a :: as => Fit1 s a ∧ Fits ss as
 | _, _ => False
theorem fits_cons {s : Shape} {ss : List Shape} {das : List DArg} (h : Fits (s :: ss) das) : ∃ a as, das = a :: as ∧ Fit1 s a ∧ Fits ss as := by
 cases das with
 | nil => exact h.elim
 | cons a as => exact ⟨a, as, rfl, h.1, h.2⟩
theorem fits_nil {das : List DArg} (h : Fits [] das) : das = [] := by
 cases das with
 | nil => rfl
 | cons a as => exact h.elim

section
variable {H : Type} {enc : TypeId × Value → H} {P : Program} {cx : Cx} {W : World}

theorem cells_one {r : Reach} {b : Nat} {t : TypeId} {v : Value} (hv : Value.okWide P W r b t v) {d : Nat} {z : List D} (ho : opC P d t z = true) (hs : ∀ fs, P.underlying t ≠ some (.struct fs)) : v.cells = #[v] ∧ z.length = 1 := by
 cases d with
 | zero => cases ho
 | succ d =>
  unfold opC at ho
  unfold Value.okWide at hv
  split at ho
  ·rename_i k k' n hu
   rw [hu] at hv
   simp only [Cell.okWide, hu, Cell.ok] at hv
   refine ⟨?_, rfl⟩
   cases v <;> first | rfl | exact absurd hv (by simp)
  ·rename_i b hu
   rw [hu] at hv
   simp only [Cell.okWide, hu, Cell.ok] at hv
   refine ⟨?_, rfl⟩
   cases v <;> first | rfl | exact absurd hv (by simp)
  ·rename_i s hu
   rw [hu] at hv
   simp only [Cell.okWide, hu, Cell.ok] at hv
   refine ⟨?_, rfl⟩
   cases v <;> first | rfl | exact absurd hv (by simp)
  ·rename_i e nl full t' l hu
   rw [hu] at hv
   simp only [Cell.okWide, hu, Cell.ok] at hv
   refine ⟨?_, rfl⟩
   cases v <;> first | rfl | exact absurd hv (by simp)
  ·rename_i fs hu; exact absurd hu (hs fs)
  ·cases ho

structure IsLaw (s : ChangeSpec) (n : Nat) : Prop where
 vars : s.vars = []
 fn : ∀ (H : Type) (ds : List (DataW H)), ds.length = n → s.fn H ds = { results := [.lit (.bool true)], args := ds }

theorem trodAll_stay (hl : laidOutB P = true) {W W' : World} (hb : Below W.heap.size W W') : ∀ {ts : List TypeId} {vs : List Value} {ds : List (DataW H)} {ps : List MemPlace} {sp : Nat → Bool},
    (∀ t ∈ ts, P.readableRec t = true ∧ t < P.types.size) → DataW.TrodAll enc P W 0 (fun _ => true) true ts vs ds ps → (∀ p ∈ ps, p.block < W.heap.size) → (∀ p ∈ ps, sp p.block = true) → DataW.TrodAll enc P W' 0 sp true ts vs ds ps
 | [], [], [], _, _, _, h, _, _ => h
 | [], [], _ :: _, _, _, _, h, _, _ => h.elim
 | [], _ :: _, _, _, _, _, h, _, _ => h.elim
 | _ :: _, [], _, _, _, _, h, _, _ => h.elim
 | _ :: _, _ :: _, [], _, _, _, h, _, _ => h.elim
 | t :: ts, v :: vs, d :: ds, ps, sp, hr, h, hlt, hsp => by
  obtain ⟨p, q, h1, h2, e⟩ := h
  subst e
  refine ⟨p, q, WideElems.Trod_stays hl (hr t List.mem_cons_self).1 (hr t List.mem_cons_self).2 h1 (fun x hx => hb.same (hlt x (List.mem_append.2 (.inl hx)))) (fun x hx => hsp x (List.mem_append.2 (.inl hx))), ?_, rfl⟩
  exact trodAll_stay hl hb (fun t ht => hr t (List.mem_cons_of_mem _ ht)) h2 (fun x hx => hlt x (List.mem_append.2 (.inr hx))) (fun x hx => hsp x (List.mem_append.2 (.inr hx)))

end
end Go.Eng
/- A nil slice that is handed out stands for a row of the call's own that has no elements; what is alike for a nil slice and for one that is not. -/
set_option linter.unusedVariables false
set_option linter.unusedSimpArgs false
namespace Go.Eng
open Go Go.RowKit

def promA (T : TypeId) (rs : List Arg) (h : Heap) : List Arg × Heap := match rs with
 | (false, [.d (.sl _ true t [])]) :: r => ((false, [.own h.length t false 0 0]) :: r, h ++ [some (.arr T t [])])
 | rs => (rs, h)
def promO (own : Option TypeId) (rs : List Arg) (h : Heap) : List Arg × Heap := match own with
 | some T => promA T rs h
 | none => (rs, h)

def evR2 {R : Type} (cx : Cx) (hd : Hd R) (fail : R) (fn : Func) (f : FuncId) (own : Option TypeId) (as : List DArg) (K : Ret → R) : R :=
 evFun cx hd fail fn f (liftA as) [] fun rs h => match retOf own.isSome (promO own rs h).1 (promO own rs h).2 with
  | some r => cond r.ok (K ⟨true, r.row, r.vals⟩) fail
  | none => fail

section
variable {P : Program} {cx : Cx} {ok : Nat → Prop} {w0 : World} {ρ : Rho} {w : World} {h : Heap}

theorem prom_hv (T : TypeId) (t : ET) (hi : HInv cx ok w0 ρ h w) : HInv cx ok w0 ρ (h ++ [some (.arr T t [])]) w ∧ ∀ k, okc ok w0.heap.size h ρ k ↔ okc ok w0.heap.size (h ++ [some (.arr T t [])]) ρ k := by
 have h0 : Inv cx ok w0 ρ ⟨[], h, 0⟩ { tmps := #[], defers := [] } w := ⟨rfl, fun t ht => by simp at ht, hi.heap, hi.inj, hi.own, hi.fresh, hi.below⟩
 obtain ⟨h1, h2⟩ := turns_push T t ok w0 ρ _ w h0
 exact ⟨h1.hv, h2⟩
theorem HInv.lt' (hi : HInv cx ok w0 ρ h w) : ∀ n b, ρ n = some b → b < w.heap.size := fun n b e => (hi.own n b e).2

theorem prom_rv (T : TypeId) (hi : HInv cx ok w0 ρ h w) {rs : List Arg} {x : Value} (hr : RV cx ρ (okc ok w0.heap.size h ρ) w (valOf rs) x) :
    HInv cx ok w0 ρ (promA T rs h).2 w ∧ (∀ k, okc ok w0.heap.size h ρ k ↔ okc ok w0.heap.size (promA T rs h).2 ρ k) ∧ RV cx ρ (okc ok w0.heap.size (promA T rs h).2 ρ) w (valOf (promA T rs h).1) x := by
 unfold promA
 split
 ·rename_i nl t r
  obtain ⟨h1, h2⟩ := prom_hv (cx := cx) T t hi
  refine ⟨h1, h2, ?_⟩
  have hx : ∀ N, Ext N (okc ok w0.heap.size h ρ) (okc ok w0.heap.size (h ++ [some (.arr T t [])]) ρ) ρ ρ w w := fun N => ⟨fun _ _ _ e => e, fun _ _ _ => rfl, fun k _ hk => (h2 k).1 hk, fun _ _ => rfl, Nat.le_refl _⟩
  have key : ∀ v, RA cx ρ (okc ok w0.heap.size h ρ) w (false, [.d (.sl nl true t [])]) v → RA cx ρ (okc ok w0.heap.size (h ++ [some (.arr T t [])]) ρ) w (false, [.own h.length t false 0 0]) v := fun v hv => by
   obtain ⟨c, hc, hd⟩ := hv
   simp only [List.cons.injEq, and_true] at hc
   subst hc
   have hd : RD cx (okc ok w0.heap.size h ρ) w (.sl nl true t []) v := hd
   refine ⟨_, rfl, ?_⟩
   cases hd with
   | sl0 _ _ _ A cap q1 q2 q3 q4 => exact ⟨A, cap, rfl, Nat.zero_le _, (by intro h; cases h), fun hc => absurd (q3 rfl) hc⟩
   | sl _ _ _ _ b off cap vs q0 => exact absurd rfl q0
  match r, hr with
  | [], hr => exact key x hr
  | g :: r, hr =>
   obtain ⟨xs, e1, q1⟩ := hr
   refine ⟨xs, e1, q1.1, fun j hj => ?_⟩
   cases j with
   | zero => exact key _ (q1.2 0 (by simp))
   | succ j => exact Ext.all_A hx hi.lt' (q1.2 (j + 1) (by simpa using hj))
 ·exact ⟨hi, fun k => Iff.rfl, hr⟩
theorem promO_rv (own : Option TypeId) (hi : HInv cx ok w0 ρ h w) {rs : List Arg} {x : Value} (hr : RV cx ρ (okc ok w0.heap.size h ρ) w (valOf rs) x) :
    HInv cx ok w0 ρ (promO own rs h).2 w ∧ (∀ k, okc ok w0.heap.size h ρ k ↔ okc ok w0.heap.size (promO own rs h).2 ρ k) ∧ RV cx ρ (okc ok w0.heap.size (promO own rs h).2 ρ) w (valOf (promO own rs h).1) x := by
 cases own with
 | some T => exact prom_rv T hi hr
 | none => exact ⟨hi, fun k => Iff.rfl, hr⟩

theorem evR2_of {X : Type} {fn : Func} {f : FuncId} {own : Option TypeId} {das : List DArg} {K : Ret → Option X} {y : X} {rs : List Arg} {h' : Heap} (h1 : ClSem P cx fn f (liftA das) [] rs h')
    (h2 : (match (generalizing := false) retOf own.isSome (promO own rs h').1 (promO own rs h').2 with
     | some r => cond r.ok (K ⟨true, r.row, r.vals⟩) none
     | none => none) = some y) :
    ∃ r, K r = some y ∧ ∀ (hf : FnOk P f fn) (ok : Nat → Prop) (w : World) (xs : List Value) (hx : RAs cx (fun _ => none) ok w (liftA das) xs), Calls P f xs.toArray w (After cx ok w r) := by
 split at h2
 case h_2 => cases h2
 rename_i r0 hr0
 cases hok : r0.ok with
 | false => rw [hok] at h2; cases h2
 | true =>
 rw [hok] at h2
 refine ⟨_, h2, fun hf ok w xs hx => ?_⟩
 clear h2
 have h0 : HInv cx ok w (fun _ => none) [] w := ⟨fun n b hn => by simp [lk] at hn, fun n m b hn => by simp [lk] at hn, (by intro n b e; cases e), fun _ _ => rfl, Below.refl _ _⟩
 have hx' : RAs cx (fun _ => none) (okc ok w.heap.size [] (fun _ => none)) w (liftA das) xs := by
  refine hx.ext (N := 0) ⟨fun _ _ h => by omega, fun _ _ _ => rfl, fun k _ hk => ⟨.inl hk, fun n hn => by simp [lk] at hn⟩, fun _ _ => rfl, Nat.le_refl _⟩ (by intro n b e; cases e) (fun a ha c hc => ?_)
  simp only [liftA, List.mem_map] at ha
  obtain ⟨d, _, rfl⟩ := ha
  simp only [List.mem_map] at hc
  obtain ⟨y, _, rfl⟩ := hc
  trivial
 refine (h1.fn hf ok w (fun _ => none) w xs h0 hx').mono fun e w' ha => ?_
 obtain ⟨x, ρ', rfl, k1, k2, k3⟩ := ha
 obtain ⟨k2, _, k3⟩ := promO_rv own k2 k3
 generalize (promO own rs h').1 = rs2 at hr0 k3
 generalize (promO own rs h').2 = h3 at hr0 k2 k3
 unfold retOf at hr0
 split at hr0
 ·split at hr0
  ·rename_i vs p hv
   injection hr0 with hr0; subst hr0
   have hnone : ρ' h3.length = none := k2.fresh _ (Nat.le_refl _)
   refine ⟨x, none, rfl, k2.below, (by intro b e; cases e), trivial, fun nm => ?_⟩
   have := ret_vals k2 (n := h3.length) (by intro b e; rw [hnone] at e; cases e) hv hok k3 nm
   rw [hnone] at this
   exact this
  ·cases hr0
 ·rename_i n0 hn0
  split at hr0
  ·rename_i T t l vs p hk hv
   injection hr0 with hr0; subst hr0
   refine ⟨x, ρ' n0, rfl, k2.below, fun b e => k2.own n0 b e, ?_, fun nm => ret_vals k2 (fun _ _ => lkh hk) hv hok k3 nm⟩
   have hto : ∀ k, okc ok w.heap.size h3 ρ' k → okR ok w (ρ' n0) k := fun k hk' => ⟨hk'.1, hk'.2 n0 (lkh hk)⟩
   show RB cx (one 0 (ρ' n0)) (okR ok w (ρ' n0)) w' 0 (.arr T t l)
   rcases k2.heap n0 _ hk with ⟨q1, q2⟩ | ⟨b, us, q1, q2, q3, q4⟩
   ·exact .inl ⟨q1, by simp [one, q2]⟩
   ·exact .inr ⟨b, us, by simp [one, q1], q2, q3, fun i j hi hj => (q4 i j hi hj).ext (fun _ _ _ => rfl) (fun k _ => hto k) (Nat.le_refl _)⟩
  ·cases hr0

theorem evR2_adq {X : Type} {m : Bool} {B : Code → Prop} {G : RF → Prop} {hd : Hd (Option X)} (hcx : CxOk P cx) (hga : GaOk P cx) (hH : HdOk P cx m hd B G) {fn : Func} {f : FuncId} {own : Option TypeId} {das : List DArg} {K : Ret → Option X} {y : X} (hB : ∀ c, fn.body = some c → (∀ p ∈ loopsOf c, B p) ∧ ∀ q ∈ rfsOf c, G q) (he : evR2 cx hd none fn f own das K = some y) :
    ∃ r, K r = some y ∧ ∀ (hf : FnOk P f fn) (ok : Nat → Prop) (w : World) (xs : List Value) (hx : RAs cx (fun _ => none) ok w (liftA das) xs), Calls P f xs.toArray w (After cx ok w r) := by
 obtain ⟨rs, h', h1, h2⟩ := fun_adq hcx hga hH hB he
 exact evR2_of h1 h2

theorem ent_of_ev2 {m : Bool} {B : Code → Prop} {GG : RF → Prop} {hd : Hd (Option Ret)} (hcx : CxOk P cx) (hga : GaOk P cx) (hH : HdOk P cx m hd B GG) {fn : Func} {f : FuncId} (hf : FnOk P f fn) (hB : ∀ c, fn.body = some c → (∀ p ∈ loopsOf c, B p) ∧ ∀ q ∈ rfsOf c, GG q) {G : List DArg → Option Ret}
    (h : ∀ das r, G das = some r → r.ok = true → ∃ own b, evR2 cx hd none fn f own das some = some ⟨b, r.row, r.vals⟩) : EntOk P cx (fun xs => callFunc f xs.toArray) G := by
 intro das r hG hr ok w xs hx
 obtain ⟨own, b, he⟩ := h das r hG hr
 obtain ⟨r0, h0, h1⟩ := evR2_adq hcx hga hH hB he
 injection h0 with h0; subst h0
 exact ⟨f, xs.toArray, run_callFunc hf _, h1 hf ok w xs hx⟩
end

theorem stands3 {P : Program} {tab : List (Option TI)} {gas : List (Nat × Con)} {invs : List (String × Con)} {hints : List (Nat × Nat × Hint)} {inls : List (Nat × Func)} {L : Loops2} {n : Nat} (hcx : CxOk P (mkCx2 tab gas invs hints inls)) (h : Ready P tab gas invs inls)
    {fn : Func} {f : FuncId} (hf : FnOk P f fn) {Bs : List Code} (hB : loopsIn fn inls = Bs) (hL : ∀ b ∈ Bs, ∀ T, L (firstReg b) = some T → LoopOk P (mkCx2 tab gas invs hints inls) b T) {G : Con}
    (hG : ∀ das r, G das = some r → r.ok = true → ∃ own b, evR2 (mkCx2 tab gas invs hints inls) (hdI (mkCx2 tab gas invs hints inls) L inls none n) none fn f own das some = some ⟨b, r.row, r.vals⟩) : Stands P tab f G := by
 refine EntOk.tt (cx := mkCx2 tab gas invs hints inls) (cx' := mkCx tab [] [] []) rfl (ent_of_ev2 (B := fun b => b ∈ Bs) hcx h.gaOk (hdI_ok hcx h.gaOk rfB_none prB_none (fun p hp => ⟨h.inl p hp, fun c hc b hb => ?_⟩) (fun b T hb hT => hL b hb T hT) n) hf (fun c hc => ⟨fun p hp => ?_, fun _ _ => trivial⟩) hG)
 ·rw [← hB]
  refine List.mem_append.2 (.inr (List.mem_flatten.2 ⟨loopsOf c, ?_, hb⟩))
  refine List.mem_map.2 ⟨p, hp, ?_⟩
  rw [hc]
 ·rw [← hB]
  refine List.mem_append.2 (.inl ?_)
  rw [hc]; exact hp

def Ret.like (a b : Ret) : Prop := a.ok = b.ok ∧ a.row = b.row ∧ ∀ nm, nameVals nm a.vals = nameVals nm b.vals
theorem After.like {cx : Cx} {ok : Nat → Prop} {w : World} {a b : Ret} {e : Ending} {w' : World} (h : Ret.like a b) (ha : After cx ok w a e w') : After cx ok w b e w' := by
 obtain ⟨x, ob, h1, h2, h3, h4, h5⟩ := ha
 refine ⟨x, ob, h1, h2, h3, by rw [← h.2.1]; exact h4, fun nm => by rw [← h.2.2 nm]; exact h5 nm⟩

theorem nil_split {P : Program} {tab : List (Option TI)} {f : FuncId} {t : ET} {G1 G2 : Con} {r : List (Ty t) → Ret} (h1 : Stands P tab f G1) (h2 : Stands P tab f G2) {r0 : Ret} (e1 : G1 [(false, [.sl (some true) true t []])] = some r0) (e0 : Ret.like r0 (r [])) (e2 : ∀ l, G2 [(false, [.sl (some false) false t l])] = some (r l)) :
    Stands P tab f (fun das => match das with
     | [(false, [.sl _ _ t' l])] => if e : t' = t then some (r (e ▸ l)) else none
     | _ => none) := by
 intro das r0 hG hr ok w xs hx
 dsimp only at hG
 split at hG
 ·rename_i nl fl t' l
  split at hG
  ·rename_i e; subst e
   injection hG with hG; subst hG
   have hl : xs.length = 1 := hx.1
   match xs, hl, hx with
   | [v], _, hx =>
    obtain ⟨c, hc, hd⟩ := hx.2 0 (by simp [liftA])
    simp only [List.map_cons, List.map_nil, List.cons.injEq, and_true] at hc
    subst hc
    have hd : RD (mkCx tab [] [] []) ok w (.sl nl fl t' l) v := hd
    have mk : ∀ y : D, RD (mkCx tab [] [] []) ok w y v → RAs (mkCx tab [] [] []) (fun _ => none) ok w (liftA [(false, [y])]) [v] := fun y hy => ⟨rfl, fun j hj => by
     have : j = 0 := by simp [liftA] at hj; omega
     subst this; exact ⟨.d y, rfl, hy⟩⟩
    cases hd with
    | sl0 _ _ _ A cap q1 q2 q3 q4 =>
     cases A with
     | none =>
      have hcap := q4 rfl
      subst hcap
      obtain ⟨f', ys, k1, k2⟩ := h1 _ _ e1 (by rw [e0.1]; exact hr) ok w [_] (mk _ (.sl0 _ _ _ _ _ (fun _ => rfl) (fun h => by cases h) (fun _ => rfl) (fun _ => rfl)))
      exact ⟨f', ys, k1, k2.mono fun e w' ha => ha.like e0⟩
     | some a => exact h2 _ _ (e2 []) hr ok w [_] (mk _ (.sl0 _ _ _ _ _ (fun h => by cases h) (fun _ h => by cases h) (fun h => by cases h) (fun h => by cases h)))
    | sl _ _ _ _ b off cap vs q0 q1 q2 q3 q4 hc hr' =>
     exact h2 _ _ (e2 l) hr ok w [_] (mk _ (.sl _ _ _ _ b off cap vs q0 q1 q2 (fun h => by cases h) (fun h => by cases h) hc hr'))
  ·cases hG
 ·cases hG
end Go.Eng
/- Plain facts on rounds: a search through a list, a comparison of two lists. -/
set_option linter.unusedVariables false
set_option linter.unusedSimpArgs false
namespace Go.Eng
theorem Lp_idx {V α : Type} {r : V → Option (Option Nat × V)} (mk : Int → V) (l : List α) (p : α → Bool)
    (h1 : ∀ (i : Nat) (h : i < l.length), r (mk i) = if p l[i] = true then some (some 0, mk i) else some (none, mk ((i + 1 : Nat) : Int))) (h2 : r (mk l.length) = some (some 1, mk l.length)) :
    Lp r (mk 0) = match l.findIdx? p with
     | some j => some (0, mk j)
     | none => some (1, mk l.length) := by
 have key : ∀ (k i : Nat), i + k = l.length → Lp r (mk i) = match (l.drop i).findIdx? p with
     | some j => some (0, mk ((i + j : Nat) : Int))
     | none => some (1, mk l.length) := by
  intro k
  induction k with
  | zero =>
   intro i hi
   have e : l.drop i = [] := List.drop_eq_nil_of_le (by omega)
   have hi' : i = l.length := by omega
   rw [e, hi']
   exact Lp_exit h2
  | succ k ih =>
   intro i hi
   have hlt : i < l.length := by omega
   have hr := h1 i hlt
   rw [List.drop_eq_getElem_cons hlt, List.findIdx?_cons]
   cases hp : p l[i] with
   | true =>
    rw [hp, if_pos rfl] at hr
    simp only [if_true]
    rw [Lp_exit hr]
    rfl
   | false =>
    rw [hp, if_neg (by simp)] at hr
    rw [Lp_cont hr, ih (i + 1) (by omega)]
    simp only [Bool.false_eq_true, if_false]
    cases (l.drop (i + 1)).findIdx? p with
    | none => rfl
    | some j =>
     simp only [Option.map_some]
     congr 3
     omega
 have := key l.length 0 (by omega)
 simpa using this
theorem getD_of {α : Type} (l : List α) (i : Nat) (d : α) (h : i < l.length) : l.getD i d = l[i] := by
 rw [List.getD_eq_getElem?_getD, List.getElem?_eq_getElem h]; rfl
end Go.Eng
/- Plain facts: a tree all of whose ways end well; rounds that keep something. -/
set_option linter.unusedVariables false
set_option linter.unusedSimpArgs false
namespace Go.Eng
def DT.all {α : Type} (P : α → Prop) : DT α → Prop
 | .leaf a => P a
 | .fail => False
 | .br c x y => (c = true → DT.all P x) ∧ (c = false → DT.all P y)
theorem DT.all_leaf {α : Type} (P : α → Prop) (a : α) : DT.all P (.leaf a) = P a := rfl
theorem DT.all_fail {α : Type} (P : α → Prop) : DT.all P (.fail) = False := rfl
theorem DT.all_br {α : Type} (P : α → Prop) (c : Bool) (x y : DT α) : DT.all P (.br c x y) = ((c = true → DT.all P x) ∧ (c = false → DT.all P y)) := rfl
theorem DT.all_run {α : Type} {P : α → Prop} : ∀ {t : DT α}, t.all P → ∃ a, t.run = some a ∧ P a
 | .leaf a, h => ⟨a, rfl, h⟩
 | .fail, h => h.elim
 | .br true x y, h => DT.all_run (t := x) (h.1 rfl)
 | .br false x y, h => DT.all_run (t := y) (h.2 rfl)
theorem DT.all_is {α : Type} {P : α → Prop} {t : DT α} (h : t.all P) : t.run.isSome = true := by
 obtain ⟨a, h1, _⟩ := DT.all_run h
 rw [h1]; rfl
theorem DT.all_o {α : Type} [Inhabited α] {P : α → Prop} {t : DT α} (h : t.all P) : P (t.run.getD default) := by
 obtain ⟨a, h1, h2⟩ := DT.all_run h
 rw [h1]; exact h2
def Stp {V : Type} (I : V → Prop) (Q : Nat → V → Prop) (m : V → Nat) (k : Nat) : Option Nat × V → Prop
 | (none, v) => I v ∧ m v < k
 | (some j, v) => Q j v
theorem Stp_none {V : Type} (I : V → Prop) (Q : Nat → V → Prop) (m : V → Nat) (k : Nat) (v : V) : Stp I Q m k (none, v) = (I v ∧ m v < k) := rfl
theorem Stp_some {V : Type} (I : V → Prop) (Q : Nat → V → Prop) (m : V → Nat) (k j : Nat) (v : V) : Stp I Q m k (some j, v) = Q j v := rfl
theorem Lp_tot {V : Type} {r : V → Option (Option Nat × V)} (I : V → Prop) (Q : Nat → V → Prop) (m : V → Nat)
    (h : ∀ v, I v → ∃ x, r v = some x ∧ Stp I Q m (m v) x) : ∀ v, I v → ∃ j v', Lp r v = some (j, v') ∧ Q j v' := by
 intro v hv
 generalize hk : m v = k
 induction k using Nat.strongRecOn generalizing v with
 | _ k ih =>
  obtain ⟨⟨o, v'⟩, h1, h2⟩ := h v hv
  cases o with
  | none =>
   obtain ⟨h3, h4⟩ := h2
   obtain ⟨j, w, g1, g2⟩ := ih (m v') (by omega) v' h3 rfl
   exact ⟨j, w, by rw [Lp_cont h1, g1], g2⟩
  | some j => exact ⟨j, v', Lp_exit h1, h2⟩
theorem Lp_all {V : Type} {R : V → DT (Option Nat × V)} {r : V → Option (Option Nat × V)} (hr : ∀ v, r v = (R v).run) (I : V → Prop) (Q : Nat → V → Prop) (m : V → Nat)
    (h : ∀ v, I v → (R v).all (Stp I Q m (m v))) (v : V) (hv : I v) : ∃ j v', Lp r v = some (j, v') ∧ Q j v' :=
 Lp_tot I Q m (fun v hv => by rw [hr]; exact DT.all_run (h v hv)) v hv
theorem e_xeqI (a b : Int) : xeqI a b = decide (a = b) := by rw [Bool.eq_iff_iff]; simp [xeqI]
theorem e_xneI (a b : Int) : xneI a b = decide (a ≠ b) := by rw [Bool.eq_iff_iff]; simp [xneI]
theorem e_wrap {n : Int} (h1 : -9223372036854775808 ≤ n) (h2 : n ≤ 9223372036854775807) : IntKind.i64.wrap n = n := by rw [IntKind.wrap_i64]; omega
theorem e_wrap1 {n : Nat} (h2 : n ≤ 1048576) : IntKind.i64.wrap ((n : Int) + 1) = ((n + 1 : Nat) : Int) := by rw [e_wrap (by omega) (by omega)]; omega
theorem Lp_walk {V : Type} {r : V → Option (Option Nat × V)} (mk : Nat → V) (n e : Nat) (h1 : ∀ i, i < n → r (mk i) = some (none, mk (i + 1))) (h2 : r (mk n) = some (some e, mk n)) : Lp r (mk 0) = some (e, mk n) := by
 have key : ∀ k i, i + k = n → Lp r (mk i) = some (e, mk n) := by
  intro k
  induction k with
  | zero => intro i hi; have : i = n := by omega
            subst this; exact Lp_exit h2
  | succ k ih => intro i hi; rw [Lp_cont (h1 i (by omega))]; exact ih (i + 1) (by omega)
 exact key n 0 (by omega)
end Go.Eng
/- A loop over a function: the function's own loop, entered in place, whose rounds are the loop's rounds. -/
set_option linter.unusedVariables false
set_option linter.unusedSimpArgs false
namespace Go.Eng
open Go Go.RowKit

def rfGo {R : Type} (cx : Cx) (hd : Hd R) (fail : R) (f : FuncId) (fn : Func) (F : FuncId) (caps : List Arg) (body : Code) (st : St) (K : Ex → St → R) : R :=
 evFun cx hd fail fn F ((false, [.yld st.heap.length]) :: caps) (st.heap ++ [some (.lp (firstReg body) (keepOnly (cx.hint f (firstReg body)).keep st.env) 0 none)]) fun _ h =>
  match lk h st.heap.length with
  | some (.lp _ _ 1 _) => fail
  | some (.lp _ _ _ none) => K .normal ⟨st.env, h.set st.heap.length none, st.fb⟩
  | some (.lp _ _ _ (some none)) => K .ret ⟨st.env, h.set st.heap.length none, st.fb⟩
  | some (.lp _ _ _ (some (some id))) => K (.exit id) ⟨st.env, h.set st.heap.length none, st.fb⟩
  | _ => fail
def rfRun {R : Type} (cx : Cx) (hd : Hd R) (inls : List (Nat × Func)) (fail : R) (f : FuncId) (g : Operand) (body : Code) (st : St) (K : Ex → St → R) : R :=
 match opv st.env g with
 | .v false [.d (.fn F [] ks)] => match find inls F with
  | some fn => rfGo cx hd fail f fn F (ks.map fun r => (false, [C.d (.ref r)])) body st K
  | none => fail
 | .v false [.clo F [] ks] => match find inls F with
  | some fn => rfGo cx hd fail f fn F (ks.map fun n => (false, [C.ptr n 0])) body st K
  | none => fail
 | _ => fail
def hdT {R : Type} (cx : Cx) (L : Loops2) (inls : List (Nat × Func)) (fail : R) (n : Nat) : Hd R :=
 { lp := (hdI cx L inls fail n).lp, cl := (hdI cx L inls fail n).cl, rf := rfRun cx (hdI cx L inls fail n) inls fail }

section
variable {P : Program} {cx : Cx} {st st' : St}

theorem Ext.alloc2 {ok : Nat → Prop} {w0 : World} {ρ : Rho} {a : Act} {w : World} (hi : Inv cx ok w0 ρ st a w) (o1 o2 : Obj) (b : Blk) (N : Nat) :
    Ext N (okc ok w0.heap.size st.heap ρ) (okc ok w0.heap.size (st.heap ++ [some b]) (upd ρ st.heap.length (some (w.heap.size + 1)))) ρ (upd ρ st.heap.length (some (w.heap.size + 1))) w ((w.alloc o1).alloc o2) := by
 have hn0 : ρ st.heap.length = none := hi.fresh _ (Nat.le_refl _)
 have hh : ∀ k, k < w.heap.size → ((w.alloc o1).alloc o2).heap[k]? = w.heap[k]? := fun k hk => (Below.heap_alloc _ _ _ (by simp; omega)).trans (Below.heap_alloc _ _ _ hk)
 refine ⟨fun n b _ e => ?_, fun k hk _ => hh k hk, fun k hk h => ⟨h.1, fun n hn => ?_⟩, fun k hk => roomOf_eq (hh k hk), by simp; omega⟩
 ·have : n ≠ st.heap.length := fun e2 => by rw [e2, hn0] at e; cases e
  rw [upd_ne this]; exact e
 ·by_cases e : n = st.heap.length
  ·subst e; rw [upd_same]; intro h; injection h with h; omega
  ·rw [upd_ne e]
   rw [lk_push, if_neg e] at hn
   exact h.2 n hn

theorem HInv.lp {ok : Nat → Prop} {w0 : World} {ρ : Rho} {a : Act} {w : World} (hi : Inv cx ok w0 ρ st a w) {d : Option (List Deferred)} {r : Loop} {k : Nat} {keep : List Nat} (ht : r.tmps = a.tmps) (hr : ∃ fid, cx.rf k = some (fid, r.params, r.assign, r.body)) (hs : r.state = .ready) (hp : r.pending = none) :
    HInv cx ok w0 (upd ρ st.heap.length (some (w.heap.size + 1))) (st.heap ++ [some (.lp k (keepOnly keep st.env) 0 none)]) ((w.alloc (.deferred d)).alloc (.loop r)) := by
 have hn0 : ρ st.heap.length = none := hi.fresh _ (Nat.le_refl _)
 have hx := fun N => Ext.alloc2 hi (.deferred d) (.loop r) (.lp k (keepOnly keep st.env) 0 none) N
 have hlt : ∀ n, (lk st.heap n).isSome = true → n ≠ st.heap.length := fun n hn e => by have := lk_lt hn; omega
 have hlive : ∀ n, (lk (st.heap ++ [some (.lp k (keepOnly keep st.env) 0 none)]) n).isSome = true → n ≠ st.heap.length → (lk st.heap n).isSome = true := fun n hn e => by rwa [lk_push, if_neg e] at hn
 refine ⟨fun n b hn => ?_, fun n m b hn hm h1 h2 => ?_, fun n b hn => ?_, fun n hn => ?_, ?_⟩
 ·by_cases e : n = st.heap.length
  ·subst e
   rw [lk_push, if_pos rfl] at hn; injection hn with hn; subst hn
   refine ⟨w.heap.size + 1, r, upd_same _ _ _, ?_, ?_, fun t hlt => ?_, hr, hs, hp⟩
   ·have := World.alloc_heap_new (w.alloc (.deferred d)) (.loop r); rwa [World.size_alloc] at this
   ·rw [ht, hi.size]; simp [keepOnly]
   ·have hl : t < st.env.length := by simpa [keepOnly] using hlt
    have e : (keepOnly keep st.env).getD t .any = if keep.contains t then st.env.getD t .any else .any := by
     simp [keepOnly, List.getD_eq_getElem?_getD, hl]
    rw [e, ht]
    split
    ·exact Ext.all_V hx hi.hv.lt (hi.env t hl)
    ·trivial
  ·rw [lk_push, if_neg e] at hn
   refine Ext.all_B hx hi.hv.lt (fun q hq => ?_) (fun h => by rw [upd_ne e]; exact h) (hi.heap n b hn)
   have := (hi.own n q hq).2
   exact (Below.heap_alloc _ _ _ (by simp; omega)).trans (Below.heap_alloc _ _ _ this)
 ·by_cases e1 : n = st.heap.length <;> by_cases e2 : m = st.heap.length
  ·rw [e1, e2]
  ·rw [e1, upd_same] at h1; rw [upd_ne e2] at h2; injection h1 with h1; have := (hi.own m b h2).2; omega
  ·rw [e2, upd_same] at h2; rw [upd_ne e1] at h1; injection h2 with h2; have := (hi.own n b h1).2; omega
  ·rw [upd_ne e1] at h1; rw [upd_ne e2] at h2
   exact hi.inj n m b (hlive n hn e1) (hlive m hm e2) h1 h2
 ·have h0 := hi.below.size
  by_cases e : n = st.heap.length
  ·rw [e, upd_same] at hn; injection hn with hn; subst hn; simp; omega
  ·rw [upd_ne e] at hn; have := hi.own n b hn; simp; omega
 ·have hn : st.heap.length + 1 ≤ n := by simpa using hn
  rw [upd_ne (by omega)]; exact hi.fresh n (by omega)
 ·exact hi.below.trans ((((Below.refl _ w).alloc (Nat.le_refl _) _).alloc (by simp) _).mono hi.below.size)

def RfG (cx : Cx) (q : RF) : Prop := ∃ fid, cx.rf (firstReg q.body) = some (fid, q.ps, q.asg, q.body)

theorem rfGo_ok {X : Type} {hd : Hd (Option X)} {B : Code → Prop} {G : RF → Prop} (hcx : CxOk P cx) (hga : GaOk P cx) (hH : HdOk P cx false hd B G) {f : FuncId} {fn : Func} {F : FuncId} (hF : FnOk P F fn) (hB : ∀ c, fn.body = some c → (∀ p ∈ loopsOf c, B p) ∧ ∀ q ∈ rfsOf c, G q)
    {q : RF} (hq : RfG cx q) {caps : List Arg} {K : Ex → St → Option X} {x : X} (he : rfGo cx hd none f fn F caps q.body st K = some x)
    (hcap : ∀ (ok : Nat → Prop) (w0 : World) (ρ : Rho) (a : Act) (w : World), Inv cx ok w0 ρ st a w → ∃ vs : List Value, a.eval q.g = .func (.func F) #[] vs.toArray ∧ RAs cx ρ (okc ok w0.heap.size st.heap ρ) w caps vs) :
    ∃ e st', Lands P cx true (.rangeFunc q.g q.ps q.asg q.body) st e st' ∧ K e st' = some x := by
 unfold rfGo at he
 obtain ⟨rs, h', h1, h2⟩ := fun_adq hcx hga hH hB he
 have key : ∀ (s : Nat) (k : Nat) (env : List V) (j : Option (Option Nat)) (e : Ex), lk h' st.heap.length = some (.lp k env s j) → s ≠ 1 →
     (∀ (r : Option Nat) (Q : Exit → Act → World → Prop) (a : Act) (w : World), Q (exOf e) a w → match jOf j with | none => Q .normal a w | some c => c.wpIn (FW r) 0 P Q a w) → Lands P cx true (.rangeFunc q.g q.ps q.asg q.body) st e ⟨st.env, h'.set st.heap.length none, st.fb⟩ := fun s k env j e hlk hs hj => by
  refine ⟨rfl, fun ok w0 ρ a w Q hi hl hQ r hr => ?_⟩
  obtain rfl := hr rfl
  refine wpIn_rangeFunc fun fid _ => ?_
  obtain ⟨vs, hev, hcs⟩ := hcap ok w0 ρ a w hi
  have hw0 : w0.heap.size ≤ w.heap.size := hi.below.size
  let rec' : Loop := { state := .ready, pending := none, fn := fid, tmps := a.tmps, params := q.ps, assign := q.asg, body := q.body, defers := w.heap.size }
  obtain ⟨W1, hW1⟩ : ∃ W1, (w.alloc (.deferred (some []))).alloc (.loop rec') = W1 := ⟨_, rfl⟩
  have hv1 := HInv.lp (d := some []) (r := rec') (k := firstReg q.body) (keep := (cx.hint f (firstReg q.body)).keep) hi rfl hq rfl rfl
  have hx1 := fun N => Ext.alloc2 hi (.deferred (some [])) (.loop rec') (Blk.lp (firstReg q.body) (keepOnly (cx.hint f (firstReg q.body)).keep st.env) 0 none) N
  have hD1 : W1.heap[w.heap.size]? = some (.deferred (some [])) := by
   rw [← hW1]; exact (Below.heap_alloc _ _ _ (by simp)).trans (World.alloc_heap_new w _)
  have hsz1 : W1.heap.size = w.heap.size + 2 := by rw [← hW1]; simp
  rw [hW1] at hv1 hx1
  have hn0 : ρ st.heap.length = none := hi.fresh _ (Nat.le_refl _)
  refine ⟨w.heap.size + 1, [mark w.heap.size], W1, { target := .fn (.func F) vs.toArray, args := #[.func (.yield (w.heap.size + 1)) #[] #[]] }, W1, F, (Value.func (.yield (w.heap.size + 1)) #[] #[] :: vs).toArray, W1, ?_, ?_, fun _ _ => trivial, ?_, (by intro h; cases h), ?_⟩
  ·rw [← hW1]; exact run_enterLoop_outer _ _ _ _ _
  ·simp only [resolve, hev]
   simp [go_sem]
  ·have e : (#[Value.func (.yield (w.heap.size + 1)) #[] #[]] ++ vs.toArray) = (Value.func (.yield (w.heap.size + 1)) #[] #[] :: vs).toArray := by
     apply Array.toList_inj.1; simp
   simp only [invoke]
   rw [e]
   exact run_callFunc hF _
  ·have hargs : RAs cx (upd ρ st.heap.length (some (w.heap.size + 1))) (okc ok w0.heap.size (st.heap ++ [some (.lp (firstReg q.body) (keepOnly (cx.hint f (firstReg q.body)).keep st.env) 0 none)]) (upd ρ st.heap.length (some (w.heap.size + 1)))) W1 ((false, [.yld st.heap.length]) :: caps) (Value.func (.yield (w.heap.size + 1)) #[] #[] :: vs) := by
     have := Ext.all_As hx1 hi.hv.lt hcs
     refine ⟨by simp [this.1], fun i hi' => ?_⟩
     cases i with
     | zero => exact ⟨_, rfl, w.heap.size + 1, upd_same _ _ _, rfl⟩
     | succ i => simpa using this.2 i (by simpa using hi')
   refine CallsIn.mono (calls_FW (h1.fn hF ok w0 _ W1 _ hv1 hargs)) fun e' w' ha => ?_
   obtain ⟨x', ρ', rfl, g1, i1, _⟩ := ha
   have hlen : (st.heap ++ [some (Blk.lp (firstReg q.body) (keepOnly (cx.hint f (firstReg q.body)).keep st.env) 0 none)]).length = st.heap.length + 1 := by simp
   have hrho : ∀ n, n < st.heap.length + 1 → ρ' n = upd ρ st.heap.length (some (w.heap.size + 1)) n := fun n hn => g1.grow.rho n (by rw [hlen]; exact hn)
   have hρl : ρ' st.heap.length = some (w.heap.size + 1) := by rw [hrho _ (by omega), upd_same]
   obtain ⟨b, r1, q1, q2, q3⟩ := i1.heap _ _ hlk
   rw [hρl] at q1; injection q1 with q1; subst q1
   have hst : r1.state ≠ .busy := by
    rw [q3.2.2.2.1]
    match s, hs with
    | 0, _ => simp [lsOf]
    | 1, h => exact absurd rfl h
    | s + 2, _ => simp [lsOf]
   have hbl : w.heap.size + 1 < w'.heap.size := (Array.getElem?_eq_some_iff.1 q2).1
   obtain ⟨w4, hw4⟩ : ∃ w4, w'.putObj (w.heap.size + 1) (.loop { r1 with state := .exhausted }) = w4 := ⟨_, rfl⟩
   refine ⟨r1.pending, w4, by rw [← hw4]; exact run_endLoop q2 hst, ?_⟩
   rw [q3.2.2.2.2]
   have hnl' : st.heap.length < h'.length := lk_lt (lkh hlk)
   have hlk4 : ∀ m, lk (h'.set st.heap.length none) m = if m = st.heap.length then none else lk h' m := fun m => by
    rw [lk_set]
    by_cases e : m = st.heap.length
    ·rw [if_pos ⟨e, hnl'⟩, if_pos e]
    ·rw [if_neg (fun h => e h.1), if_neg e]
   have h4o : ∀ k, k ≠ w.heap.size + 1 → w4.heap[k]? = w'.heap[k]? := fun k hk => by rw [← hw4]; exact World.putObj_heap_other hk
   have h4s : w4.heap.size = w'.heap.size := by rw [← hw4]; exact World.putObj_size
   have hok4 : ∀ k, okc ok w0.heap.size h' ρ' k → okc ok w0.heap.size (h'.set st.heap.length none) ρ' k := fun k hk => ⟨hk.1, fun n hn => hk.2 n (by
    rw [hlk4] at hn
    split at hn
    ·cases hn
    ·exact hn)⟩
   have hne4 : ∀ k, okc ok w0.heap.size h' ρ' k → k ≠ w.heap.size + 1 := fun k hk e => hk.2 _ (lkh hlk) (by rw [hρl, e])
   have hx4 : ∀ N, Ext N (okc ok w0.heap.size h' ρ') (okc ok w0.heap.size (h'.set st.heap.length none) ρ') ρ' ρ' w' w4 := fun N => ⟨fun _ _ _ e => e, fun k _ hk => h4o k (hne4 k hk), fun k _ hk => hok4 k hk, fun k hk => by
    by_cases e : k = w.heap.size + 1
    ·subst e; unfold World.roomOf; rw [← hw4, World.putObj_heap_same hbl, q2]
    ·exact roomOf_eq (h4o k e), Nat.le_of_eq h4s.symm⟩
   have hx14 : ∀ N, Ext N (okc ok w0.heap.size st.heap ρ) (okc ok w0.heap.size (h'.set st.heap.length none) ρ') ρ ρ' w w4 := fun N => by
    have a1 : Ext N (okc ok w0.heap.size (st.heap ++ [some (.lp (firstReg q.body) (keepOnly (cx.hint f (firstReg q.body)).keep st.env) 0 none)]) (upd ρ st.heap.length (some (w.heap.size + 1)))) (okc ok w0.heap.size h' ρ') (upd ρ st.heap.length (some (w.heap.size + 1))) ρ' W1 w' := by
     refine ⟨fun n b _ e => ?_, g1.ext.cell, g1.ext.okk, g1.ext.room, g1.ext.size⟩
     have hn : n < st.heap.length + 1 := by
      rcases Nat.lt_or_ge n (st.heap.length + 1) with h | h
      ·exact h
      ·rw [hv1.fresh n (by rw [hlen]; exact h)] at e; cases e
     rw [hrho n hn]; exact e
    exact ((hx1 N).trans a1).trans (hx4 N)
   have hB4 : ∀ k, k < w0.heap.size → w4.heap[k]? = w'.heap[k]? := fun k hk => h4o k (by omega)
   have hfin : Q (exOf e) { a with defers := [mark w.heap.size] ++ a.defers } w4 := by
    refine hQ ρ' _ w4 ⟨hi.size, fun t ht => Ext.all_V hx14 hi.hv.lt (hi.env t ht), fun n b hn => ?_, fun n m b hn hm e1 e2 => ?_, fun n b hn => by rw [h4s]; exact i1.own n b hn, fun n hn => i1.fresh n (by simpa using hn), i1.below.trans (by
        rw [← hw4]; exact ⟨rfl, rfl, rfl, Nat.le_of_eq World.putObj_size.symm, fun k hk => World.putObj_heap_other (by omega)⟩)⟩ ⟨hx14 _, ⟨fun n hn => ?_, fun n hn hd => ?_, fun h => ?_⟩⟩ ?_
    ·have hn : lk (h'.set st.heap.length none) n = some b := hn
     rw [hlk4] at hn
     split at hn
     ·cases hn
     ·rename_i e
      exact Ext.all_B hx4 i1.lt (fun k hk => h4o k (fun e2 => e (i1.inj n st.heap.length _ (lkh hn) (lkh hlk) hk (e2 ▸ hρl)))) (fun h => h) (i1.heap n b hn)
    ·have hn : (lk (h'.set st.heap.length none) n).isSome = true := hn
     have hm : (lk (h'.set st.heap.length none) m).isSome = true := hm
     rw [hlk4] at hn hm
     split at hn
     ·cases hn
     ·split at hm
      ·cases hm
      ·exact i1.inj n m b hn hm e1 e2
    ·have hl' : n < st.heap.length := Nat.lt_of_lt_of_le hn hl
     rw [hrho n (by omega), upd_ne (by omega)]
    ·have hl' : n < st.heap.length := Nat.lt_of_lt_of_le hn hl
     show lk (h'.set st.heap.length none) n = none
     rw [hlk4, if_neg (by omega)]
     refine g1.grow.dead n (by rw [hlen]; omega) ?_
     rw [lk_push, if_neg (by omega)]; exact hd
    ·show st.fb ≤ (h'.set st.heap.length none).length
     rw [List.length_set]; omega
    ·refine ⟨[w.heap.size], rfl, (by intro h; cases h), by simp, fun D hD => ?_⟩
     obtain rfl := List.mem_singleton.1 hD
     have hokD : okc ok w0.heap.size (st.heap ++ [some (.lp (firstReg q.body) (keepOnly (cx.hint f (firstReg q.body)).keep st.env) 0 none)]) (upd ρ st.heap.length (some (w.heap.size + 1))) w.heap.size := by
      refine ⟨.inr hw0, fun n hn e2 => ?_⟩
      by_cases e : n = st.heap.length
      ·rw [e, upd_same] at e2; injection e2 with e2; omega
      ·rw [upd_ne e] at e2; have := (hi.own n _ e2).2; omega
     have hlD : w.heap.size < W1.heap.size := by omega
     have hokD' := g1.ext.okk _ hlD hokD
     refine ⟨Nat.le_refl _, by rw [h4s]; omega, hok4 _ hokD', ?_⟩
     rw [h4o _ (by omega), g1.ext.cell _ hlD hokD]; exact hD1
   have := hj none Q { a with defers := [mark w.heap.size] ++ a.defers } w4 hfin
   exact this
 split at h2
 ·cases h2
 ·rename_i k env s hs hlk
  exact ⟨.normal, _, key s k env none .normal hlk hs (fun r Q a w h => h), h2⟩
 ·rename_i k env s hs hlk
  exact ⟨.ret, _, key s k env (some none) .ret hlk hs (fun r Q a w h => wpIn_ret h), h2⟩
 ·rename_i k env s id hs hlk
  exact ⟨.exit id, _, key s k env (some (some id)) (.exit id) hlk hs (fun r Q a w h => wpIn_exit h), h2⟩
 ·cases h2

theorem hdT_ok {X : Type} {L : Loops2} {inls : List (Nat × Func)} {B : Code → Prop} (hcx : CxOk P cx) (hga : GaOk P cx) (hR : RfB cx B (fun _ => True)) (hP : PrB P cx) (hi : ∀ p ∈ inls, FnOk P p.1 p.2 ∧ ∀ c, p.2.body = some c → ∀ b ∈ loopsOf c, B b)
    (h : ∀ body T, B body → L (firstReg body) = some T → LoopOk P cx body T) (n : Nat) : HdOk (X := X) P cx true (hdT cx L inls none n) B (RfG cx) := by
 have h0 := hdI_ok (X := X) hcx hga hR hP hi h n
 refine ⟨h0.cl, h0.lp, fun f q st K x hq he => ?_⟩
 have he : rfRun cx (hdI cx L inls none n) inls none f q.g q.body st K = some x := he
 unfold rfRun at he
 split at he
 ·rename_i F ks hop
  split at he
  ·rename_i fn hf
   obtain ⟨q1, q2⟩ := hi _ (find_mem _ _ _ hf)
   refine rfGo_ok hcx hga h0 q1 (fun c hc => ⟨q2 c hc, fun _ _ => trivial⟩) hq he (fun ok w0 ρ a w hi => ?_)
   have hv := op_c hi hop
   generalize hfe : a.eval q.g = fe at hv
   cases hv with
   | fn _ _ _ u v h1 h2 ha hb =>
    have hu : u = [] := by cases u with
     | nil => rfl
     | cons _ _ => cases h1
    subst hu
    exact ⟨v, rfl, RAs_refs h2 hb⟩
  ·cases he
 ·rename_i F ks hop
  split at he
  ·rename_i fn hf
   obtain ⟨q1, q2⟩ := hi _ (find_mem _ _ _ hf)
   refine rfGo_ok hcx hga h0 q1 (fun c hc => ⟨q2 c hc, fun _ _ => trivial⟩) hq he (fun ok w0 ρ a w hi => ?_)
   obtain ⟨u, v, hfe, h1, h2⟩ := op_c hi hop
   have hu : u = [] := by cases u with
    | nil => rfl
    | cons _ _ => have := h1.1; cases this
   subst hu
   exact ⟨v, hfe, RAs_ptrs h2⟩
  ·cases he
 ·cases he
end

def rfAt (f : FuncId) (fn : Func) : FuncId × Array Tmp × Code × Code := match fn.body with
 | some c => match rfsOf c with
  | q :: _ => (f, q.ps, q.asg, q.body)
  | [] => (f, #[], .skip, .skip)
 | none => (f, #[], .skip, .skip)
def rfNum (fn : Func) : Nat := match fn.body with
 | some c => (rfsOf c).length
 | none => 0
abbrev Rfs := List (Nat × (FuncId × Array Tmp × Code × Code))
abbrev Proc := List Arg → Heap → Option (Bool × List Arg × Heap)
abbrev Prs := List (Nat × (Func × Proc))
def mkCx3 (tab : List (Option TI)) (gas : List (Nat × Con)) (invs : List (String × Con)) (hints : List (Nat × Nat × Hint)) (inls : List (Nat × Func)) (rfs : Rfs) (prs : Prs) : Cx :=
 { mkCx2 tab gas invs hints inls with rf := find rfs, inl := fun f => match find inls f with | some fn => some fn | none => (find prs f).map (·.1), pr := fun f => (find prs f).map (·.2) }
def StandsP (P : Program) (tab : List (Option TI)) (f : FuncId) (M : Proc) : Prop :=
 ∀ cx : Cx, cx.tt = (fun T => tab.getD T none) → ∀ fn as h rs h', FnOk P f fn → M as h = some (true, rs, h') → ClSem P cx fn f as h rs h'
def PrsOk (P : Program) (tab : List (Option TI)) (prs : Prs) : Prop := ∀ p ∈ prs, FnOk P p.1 p.2.1 ∧ StandsP P tab p.1 p.2.2
theorem consP {P : Program} {tab : List (Option TI)} {f : FuncId} {fn : Func} {M : Proc} {prs : Prs} (h0 : FnOk P f fn) (h1 : StandsP P tab f M) (h2 : PrsOk P tab prs) : PrsOk P tab ((f, (fn, M)) :: prs) := fun p hp => by
 rcases List.mem_cons.1 hp with rfl | hp
 ·exact ⟨h0, h1⟩
 ·exact h2 p hp
theorem noneP {P : Program} {tab : List (Option TI)} : PrsOk P tab [] := fun p hp => by cases hp
theorem prB_of {P : Program} {tab : List (Option TI)} {gas : List (Nat × Con)} {invs : List (String × Con)} {hints : List (Nat × Nat × Hint)} {inls : List (Nat × Func)} {rfs : Rfs} {prs : Prs} (h : PrsOk P tab prs) : PrB P (mkCx3 tab gas invs hints inls rfs prs) := by
 intro f M fn as hp rs h' hM hf hm
 have hM : (find prs f).map (·.2) = some M := hM
 cases hq : find prs f with
 | none => rw [hq] at hM; cases hM
 | some q =>
  rw [hq] at hM
  injection hM with hM; subst hM
  exact (h (f, q) (find_mem _ _ _ hq)).2 _ rfl fn as hp rs h' hf hm
theorem Ready.gaOk3 {P : Program} {tab : List (Option TI)} {gas : List (Nat × Con)} {invs : List (String × Con)} {inls : List (Nat × Func)} {hints : List (Nat × Nat × Hint)} {rfs : Rfs} {prs : Prs} (h : Ready P tab gas invs inls) (hP : PrsOk P tab prs) : GaOk P (mkCx3 tab gas invs hints inls rfs prs) :=
 ⟨fun f G hG => EntOk.tt (cx := mkCx tab [] [] []) (cx' := mkCx3 tab gas invs hints inls rfs prs) rfl (h.ga (f, G) (find_mem _ _ _ hG)), fun m G hG => EntOk.tt (cx := mkCx tab [] [] []) (cx' := mkCx3 tab gas invs hints inls rfs prs) rfl (h.inv (m, G) (findS_mem _ _ _ hG)), fun f fn hf => by
  have hf : (match find inls f with | some fn => some fn | none => (find prs f).map (·.1)) = some fn := hf
  split at hf
  ·rename_i fn' hi
   injection hf with hf; subst hf
   exact h.inl (f, fn') (find_mem _ _ _ hi)
  ·cases hq : find prs f with
   | none => rw [hq] at hf; cases hf
   | some q =>
    rw [hq] at hf
    injection hf with hf; subst hf
    exact (hP (f, q) (find_mem _ _ _ hq)).1⟩
def loopsRf (rfs : Rfs) : List Code := (rfs.map fun p => loopsOf p.2.2.2.1 ++ loopsOf p.2.2.2.2).flatten
theorem rfB_of {tab : List (Option TI)} {gas : List (Nat × Con)} {invs : List (String × Con)} {hints : List (Nat × Nat × Hint)} {inls : List (Nat × Func)} {rfs : Rfs} {prs : Prs} {B : Code → Prop} (h : ∀ b ∈ loopsRf rfs, B b) : RfB (mkCx3 tab gas invs hints inls rfs prs) B (fun _ => True) := by
 intro k fid ps asg body hk
 have hm := find_mem _ _ _ (show find rfs k = some (fid, ps, asg, body) from hk)
 have key : ∀ p ∈ loopsOf asg ++ loopsOf body, B p := fun p hp => h p (List.mem_flatten.2 ⟨_, List.mem_map.2 ⟨_, hm, rfl⟩, hp⟩)
 exact ⟨⟨fun p hp => key p (List.mem_append.2 (.inl hp)), fun _ _ => trivial⟩, fun p hp => key p (List.mem_append.2 (.inr hp)), fun _ _ => trivial⟩
def RfsOk (fn : Func) (rfs : Rfs) : Prop := ∀ c, fn.body = some c → ∀ q ∈ rfsOf c, ∃ fid, find rfs (firstReg q.body) = some (fid, q.ps, q.asg, q.body)
theorem rfsOk_none {fn : Func} {rfs : Rfs} (h1 : rfNum fn = 0) : RfsOk fn rfs := by
 intro c hc q hq
 unfold rfNum at h1; rw [hc] at h1
 have h1 : (rfsOf c).length = 0 := h1
 rw [List.length_eq_zero_iff.1 h1] at hq; cases hq
theorem rfsOk_one {f : FuncId} {fn : Func} {k : Nat} (h1 : rfNum fn = 1) (h2 : firstReg (rfAt f fn).2.2.2 = k) : RfsOk fn [(k, rfAt f fn)] := by
 intro c hc q hq
 unfold rfNum at h1; rw [hc] at h1
 have h1 : (rfsOf c).length = 1 := h1
 have e : rfAt f fn = (f, q.ps, q.asg, q.body) := by
  unfold rfAt; rw [hc]
  match hr : rfsOf c, h1, hq with
  | [q'], _, hq =>
   obtain rfl := List.mem_singleton.1 hq
   simp only [hr]
 rw [e] at h2 ⊢
 exact ⟨f, by simp [find, h2]⟩

theorem loop_ok3 {V : Type} {P : Program} {tab : List (Option TI)} {gas : List (Nat × Con)} {invs : List (String × Con)} {hints : List (Nat × Nat × Hint)} {inls : List (Nat × Func)} {rfs : Rfs} {prs : Prs} {L : Loops2} {n : Nat} (hcx : CxOk P (mkCx3 tab gas invs hints inls rfs prs)) (h : Ready P tab gas invs inls) (hP : PrsOk P tab prs)
    {f : FuncId} {body : Code} {Bs : List Code} (hB : loopsOf body ++ loopsInl inls ++ loopsRf rfs = Bs) (hL : ∀ b ∈ Bs, ∀ T, L (firstReg b) = some T → LoopOk P (mkCx3 tab gas invs hints inls rfs prs) b T)
    {hs : List Nat} {base : Nat} {keepX : List Nat} {mk : V → St} {ex : Nat → V → Ex × St} {r : V → Option (Option Nat × V)}
    (hr : ∀ v, round2 (mkCx3 tab gas invs hints inls rfs prs) (hdI (mkCx3 tab gas invs hints inls rfs prs) L inls none n) f body hs base keepX (mk v) = (r v).map (roundOut mk ex)) (hx : ∀ j v, exOk (ex j v).1 = true) :
    ∀ v j v', Lp r v = some (j, v') → Circles P (mkCx3 tab gas invs hints inls rfs prs) body (mk v) (ex j v').1 (ex j v').2 := by
 have hin : ∀ b ∈ loopsOf body ++ loopsInl inls ++ loopsRf rfs, b ∈ Bs := fun b hb => hB ▸ hb
 refine loop_win hcx (h.gaOk3 hP) (hdI_ok (B := fun b => b ∈ Bs) hcx (h.gaOk3 hP) (rfB_of fun b hb => hin b (List.mem_append.2 (.inr hb))) (prB_of hP) (fun p hp => ⟨h.inl p hp, fun c hc b hb => ?_⟩) (fun b T hb hT => hL b hb T hT) n) ⟨fun p hp => ?_, fun _ _ => trivial⟩ hr hx
 ·refine hin b (List.mem_append.2 (.inl (List.mem_append.2 (.inr (List.mem_flatten.2 ⟨loopsOf c, ?_, hb⟩)))))
  refine List.mem_map.2 ⟨p, hp, ?_⟩
  rw [hc]
 ·exact hin p (List.mem_append.2 (.inl (List.mem_append.2 (.inl hp))))

def evR4 {R : Type} (cx : Cx) (hd : Hd R) (fail : R) (fn : Func) (f : FuncId) (own : Option TypeId) (as : List DArg) (K : Ret → R) : R :=
 evR2 cx hd fail fn f own as fun r => K ⟨r.ok, r.row, nameVals 0 r.vals⟩
theorem nameVals_name (nm : Nat) (vs : List Arg) : nameVals nm (nameVals 0 vs) = nameVals nm vs := by
 unfold nameVals
 rw [List.map_map]
 refine List.map_congr_left fun a _ => ?_
 obtain ⟨g, cs⟩ := a
 simp only [Function.comp, List.map_map]
 congr 1
 refine List.map_congr_left fun c _ => ?_
 cases c <;> rfl
theorem ent_of_ev4 {P : Program} {cx : Cx} {m : Bool} {B : Code → Prop} {GG : RF → Prop} {hd : Hd (Option Ret)} (hcx : CxOk P cx) (hga : GaOk P cx) (hH : HdOk P cx m hd B GG) {fn : Func} {f : FuncId} (hf : FnOk P f fn) (hB : ∀ c, fn.body = some c → (∀ p ∈ loopsOf c, B p) ∧ ∀ q ∈ rfsOf c, GG q) {G : List DArg → Option Ret}
    (h : ∀ das r, G das = some r → r.ok = true → ∃ own b, evR4 cx hd none fn f own das some = some ⟨b, r.row, r.vals⟩) : EntOk P cx (fun xs => callFunc f xs.toArray) G := by
 intro das r hG hr ok w xs hx
 obtain ⟨own, b, he⟩ := h das r hG hr
 obtain ⟨r0, h0, h1⟩ := evR2_adq hcx hga hH hB he
 injection h0 with h0; injection h0 with e1 e2 e3
 refine ⟨f, xs.toArray, run_callFunc hf _, (h1 hf ok w xs hx).mono fun e w' ha => ?_⟩
 obtain ⟨x, ob, a1, a2, a3, a4, a5⟩ := ha
 refine ⟨x, ob, a1, a2, a3, by rw [← e2]; exact a4, fun nm => ?_⟩
 rw [← e3, nameVals_name]; exact a5 nm

theorem stands4 {P : Program} {tab : List (Option TI)} {gas : List (Nat × Con)} {invs : List (String × Con)} {hints : List (Nat × Nat × Hint)} {inls : List (Nat × Func)} {rfs : Rfs} {prs : Prs} {L : Loops2} {n : Nat} (hcx : CxOk P (mkCx3 tab gas invs hints inls rfs prs)) (h : Ready P tab gas invs inls) (hP : PrsOk P tab prs)
    {fn : Func} {f : FuncId} (hf : FnOk P f fn) (hq : RfsOk fn rfs) {Bs : List Code} (hB : loopsIn fn inls ++ loopsRf rfs = Bs) (hL : ∀ b ∈ Bs, ∀ T, L (firstReg b) = some T → LoopOk P (mkCx3 tab gas invs hints inls rfs prs) b T) {G : Con}
    (hG : ∀ das r, G das = some r → r.ok = true → ∃ own b, evR4 (mkCx3 tab gas invs hints inls rfs prs) (hdT (mkCx3 tab gas invs hints inls rfs prs) L inls none n) none fn f own das some = some ⟨b, r.row, r.vals⟩) : Stands P tab f G := by
 have hin : ∀ b ∈ loopsIn fn inls ++ loopsRf rfs, b ∈ Bs := fun b hb => hB ▸ hb
 refine EntOk.tt (cx := mkCx3 tab gas invs hints inls rfs prs) (cx' := mkCx tab [] [] []) rfl (ent_of_ev4 (B := fun b => b ∈ Bs) hcx (h.gaOk3 hP) (hdT_ok hcx (h.gaOk3 hP) (rfB_of fun b hb => hin b (List.mem_append.2 (.inr hb))) (prB_of hP) (fun p hp => ⟨h.inl p hp, fun c hc b hb => ?_⟩) (fun b T hb hT => hL b hb T hT) n) hf (fun c hc => ⟨fun p hp => ?_, fun q hqq => hq c hc q hqq⟩) hG)
 ·refine hin b (List.mem_append.2 (.inl (List.mem_append.2 (.inr (List.mem_flatten.2 ⟨loopsOf c, ?_, hb⟩)))))
  refine List.mem_map.2 ⟨p, hp, ?_⟩
  rw [hc]
 ·refine hin p (List.mem_append.2 (.inl (List.mem_append.2 (.inl ?_))))
  rw [hc]; exact hp
end Go.Eng
/- Functions that change a row that they are handed: what they come to on the row alone holds of it wherever it lies. -/
set_option linter.unusedVariables false
set_option linter.unusedSimpArgs false
namespace Go.Eng
open Go Go.RowKit

def evP {R : Type} (cx : Cx) (hd : Hd R) (fail : R) (fn : Func) (f : FuncId) (own : Option TypeId) (das : List DArg) (K : Ret → R) : R :=
 match das with
 | (false, [.sl _ full t l]) :: r => evFun cx hd fail fn f ((false, [.own 0 t full 0 l.length]) :: liftA r) [some (.arr (own.getD 0) t l)] fun rs h => match rs, lk h 0 with
  | [], some (.arr T t' l') => if decide (t' = t) && T == own.getD 0 then K ⟨true, some (T, ⟨t', l'⟩), []⟩ else fail
  | _, _ => fail
 | _ => fail

def bare : D → Bool
 | .sc _ => true
 | .fn _ [] [] => true
 | _ => false
theorem bare_rd {cx cx2 : Cx} {ok ok2 : Nat → Prop} {w : World} {d : D} {x : Value} (h : bare d = true) (hd : RD cx ok w d x) : RD cx2 ok2 w d x := by
 cases d with
 | sc s => cases hd; exact .sc s
 | fn f a b =>
  match a, b, h with
  | [], [], _ =>
   cases hd with
   | fn _ _ _ u v h1 h2 ha hb => exact .fn f [] [] u v h1 h2 (fun i hi => by simp at hi) (fun i hi => by simp at hi)
 | sl _ _ _ _ => cases h
 | nils => cases h
 | th _ => cases h
 | ref _ => cases h
 | nilf => cases h

def toDA : List Arg → Option (List DArg)
 | [] => some []
 | (g, cs) :: r => match toDL cs, toDA r with
  | some xs, some ys => some ((g, xs) :: ys)
  | _, _ => none
def rowProc (T : TypeId) (t : ET) (si : Bool → List (Ty t) → List DArg → Bool) (so : Bool → List (Ty t) → List DArg → List (Ty t)) : List Arg → Heap → Option (Bool × List Arg × Heap) := fun as h => match as with
 | (false, [.own n t' full off len]) :: r => match lk h n, toDA r with
  | some (.arr T' t2 l), some ds => if e : t2 = t then
      (if decide (t' = t) && T' == T && off == 0 && ds.all (fun a => !a.1 && a.2.all bare) then some (decide (len = l.length) && si full (e ▸ l) ds, [], h.set n (some (.arr T t (so full (e ▸ l) ds)))) else none)
   else none
  | _, _ => none
 | _ => none

section
variable {P : Program}

theorem proc_frame {cx cx2 : Cx} (htt : cx.tt = cx2.tt) {fn : Func} {f : FuncId} {T : TypeId} {t : ET} (hflat : t.flat = true) {l l' : List (Ty t)} {full : Bool} {ds : List DArg} (hds : ds.all (fun a => !a.1 && a.2.all bare) = true) {c : Code} (hb : fn.body = some c) {h' : Heap}
    (q : ClSem P cx fn f ((false, [.own 0 t full 0 l.length]) :: liftA ds) [some (.arr T t l)] [] h') (hl : lk h' 0 = some (.arr T t l')) {n : Nat} {h : Heap} (hn : lk h n = some (.arr T t l)) :
    ClSem P cx2 fn f ((false, [.own n t full 0 l.length]) :: liftA ds) h [] (h.set n (some (.arr T t l'))) := by
 refine ClSem.of hb fun hf ok w0 ρ w xs hi hxs => ?_
 have hnl : n < h.length := lk_lt (lkh hn)
 have h0 : HInv cx (fun _ => True) w0 (one 0 (ρ n)) [some (.arr T t l)] w := by
  refine ⟨fun m b hm => ?_, fun m1 m2 b hm1 hm2 e1 e2 => ?_, fun m b hm => ?_, fun m hm => ?_, hi.below⟩
  ·have hm0 : m = 0 := by have := lk_lt (lkh hm); simpa using this
   subst hm0
   have hm : some (Blk.arr T t l) = some b := hm
   injection hm with hm; subst hm
   have hB := hi.heap n _ hn
   rcases lend_row (cx := cx2) (ok2 := okc (fun _ => True) w0.heap.size [some (.arr T t l)] (one 0 (ρ n))) hflat hB with h1 | ⟨b, vs, h1, h2, h3, h4⟩
   ·exact .inl ⟨h1.1, by simp [one, h1.2]⟩
   ·exact .inr ⟨b, vs, by simp [one, h1], h2, h3, fun i j hi' hj => (h4 i j hi' hj).tt htt.symm⟩
  ·have a1 : m1 = 0 := by have := lk_lt hm1; simpa using this
   have a2 : m2 = 0 := by have := lk_lt hm2; simpa using this
   rw [a1, a2]
  ·have := (one_sub hm).2
   exact hi.own n b this
  ·have : m ≠ 0 := by have hm : 1 ≤ m := hm; omega
   simp [one, this]
 have hargs : RAs cx (one 0 (ρ n)) (okc (fun _ => True) w0.heap.size [some (.arr T t l)] (one 0 (ρ n))) w ((false, [.own 0 t full 0 l.length]) :: liftA ds) xs := by
  refine ⟨hxs.1, fun j hj => ?_⟩
  have hx := hxs.2 j hj
  cases j with
  | zero =>
   obtain ⟨c, e1, hc⟩ := hx
   injection e1 with e1 _; subst e1
   obtain ⟨A, cap, g1, g2, g3, g4⟩ := hc
   exact ⟨_, rfl, A, cap, g1, g2, g3, fun hc => by obtain ⟨b, g5, g6⟩ := g4 hc; exact ⟨b, by simp [one, g5], g6⟩⟩
  | succ j =>
   have hj' : j < ds.length := by simpa [liftA] using hj
   have e : (((false, [.own 0 t full 0 l.length]) :: liftA ds).getD (j + 1) (false, []) : Arg) = (ds[j].1, ds[j].2.map .d) := by simp [liftA, List.getD_eq_getElem?_getD, hj']
   have e' : (((false, [.own n t full 0 l.length]) :: liftA ds).getD (j + 1) (false, []) : Arg) = (ds[j].1, ds[j].2.map .d) := by simp [liftA, List.getD_eq_getElem?_getD, hj']
   rw [e'] at hx; rw [e]
   have hbare := List.all_eq_true.1 hds ds[j] (List.getElem_mem hj')
   simp only [Bool.and_eq_true, Bool.not_eq_true'] at hbare
   rw [hbare.1] at hx ⊢
   obtain ⟨c, e1, hc⟩ := hx
   refine ⟨c, e1, ?_⟩
   match hd : ds[j].2, e1 with
   | [y], e1 =>
    simp only [List.map_cons, List.map_nil, List.cons.injEq, and_true] at e1
    subst e1
    rw [hd] at hbare
    exact bare_rd (by simpa using hbare.2) hc
 refine (q.fn hf (fun _ => True) w0 _ w xs h0 hargs).mono fun e w' ha => ?_
 obtain ⟨x, ρ', rfl, g, i', _⟩ := ha
 have hlive : ∀ m, (lk (h.set n (some (.arr T t l'))) m).isSome = (lk h m).isSome := fun m => by
  by_cases e : m = n
  ·subst e; rw [lk_set_same hnl, hn]; rfl
  ·rw [lk_set_ne e]
 have he : ∀ k, okc ok w0.heap.size h ρ k ↔ okc ok w0.heap.size (h.set n (some (.arr T t l'))) ρ k := fun k => by
  unfold okc; simp only [hlive]
 have hcell : ∀ k, k < w.heap.size → ρ n ≠ some k → w'.heap[k]? = w.heap[k]? := fun k hk hne => g.ext.cell k hk ⟨.inl trivial, fun m hm e => by
  have := one_sub e
  exact hne this.2⟩
 have hx : ∀ N, Ext N (okc ok w0.heap.size h ρ) (okc ok w0.heap.size (h.set n (some (.arr T t l'))) ρ) ρ ρ w w' := fun N =>
  ⟨fun _ _ _ e => e, fun k hk ho => hcell k hk (ho.2 n (lkh hn)), fun k _ ho => (he k).1 ho, g.ext.room, g.ext.size⟩
 have hρ0 : ρ' 0 = ρ n := by rw [g.grow.rho 0 (by simp)]; simp [one]
 refine ⟨x, ρ, rfl, ⟨hx _, ⟨fun _ _ => rfl, fun m _ hd => ?_, fun _ => by simp⟩⟩, ⟨fun m b hm => ?_, fun m1 m2 b hm1 hm2 => ?_, fun m b hm => ?_, fun m hm => hi.fresh m (by simpa using hm), i'.below⟩, trivial⟩
 ·have := hlive m
  rw [hd] at this
  cases hh : lk (h.set n (some (.arr T t l'))) m with
  | none => rfl
  | some b => rw [hh] at this; cases this
 ·have hm : lk (h.set n (some (.arr T t l'))) m = some b := hm
  by_cases e : m = n
  ·subst e
   rw [lk_set_same hnl] at hm
   injection hm with hm; subst hm
   have hB := i'.heap 0 _ hl
   rcases lend_row (cx := cx) (ok2 := okc ok w0.heap.size (h.set m (some (.arr T t l'))) ρ) hflat hB with h1 | ⟨b, vs, h1, h2, h3, h4⟩
   ·exact .inl ⟨h1.1, by rw [← hρ0]; exact h1.2⟩
   ·exact .inr ⟨b, vs, by rw [← hρ0]; exact h1, h2, h3, fun i j hi' hj => (h4 i j hi' hj).tt htt⟩
  ·rw [lk_set_ne e] at hm
   refine Ext.all_B hx hi.lt (fun k hk => hcell k (hi.own m k hk).2 (fun e2 => e (hi.inj m n k (lkh hm) (lkh hn) hk e2))) (fun h => h) (hi.heap m b hm)
 ·rw [hlive] at hm1 hm2; exact hi.inj m1 m2 b hm1 hm2
 ·have := hi.own m b hm
  exact ⟨this.1, Nat.lt_of_lt_of_le this.2 g.ext.size⟩

theorem toDL_lift : ∀ (cs : List C) (ds : List D), toDL cs = some ds → cs = ds.map .d
 | [], ds, h => by simp only [toDL] at h; injection h with h; subst h; rfl
 | c :: cs, ds, h => by
  simp only [toDL] at h
  split at h
  ·rename_i x xs h1 h2
   injection h with h; subst h
   have e1 : c = .d x := by
    cases c with
    | d y => simp only [toD1, Option.some.injEq] at h1; rw [h1]
    | _ => cases h1
   rw [e1, toDL_lift cs xs h2]; rfl
  ·cases h
theorem toDA_lift : ∀ (r : List Arg) (ds : List DArg), toDA r = some ds → r = liftA ds
 | [], ds, h => by simp only [toDA] at h; injection h with h; subst h; rfl
 | (g, cs) :: r, ds, h => by
  simp only [toDA] at h
  split at h
  ·rename_i xs ys h1 h2
   injection h with h; subst h
   rw [toDL_lift cs xs h1, toDA_lift r ys h2]; rfl
  ·cases h

theorem standsP {tab : List (Option TI)} {gas : List (Nat × Con)} {invs : List (String × Con)} {hints : List (Nat × Nat × Hint)} {inls : List (Nat × Func)} {prs : Prs} {L : Loops2} {n : Nat} (hcx : CxOk P (mkCx3 tab gas invs hints inls [] prs)) (h : Ready P tab gas invs inls) (hP : PrsOk P tab prs)
    {fn : Func} {f : FuncId} (hf : FnOk P f fn) {Bs : List Code} (hB : loopsIn fn inls = Bs) (hL : ∀ b ∈ Bs, ∀ T, L (firstReg b) = some T → LoopOk P (mkCx3 tab gas invs hints inls [] prs) b T) (h0 : rfNum fn = 0) {T : TypeId} {t : ET} (hflat : t.flat = true) {si : Bool → List (Ty t) → List DArg → Bool} {so : Bool → List (Ty t) → List DArg → List (Ty t)}
    (hG : ∀ full l ds, si full l ds = true → ∃ e : Bool, evP (mkCx3 tab gas invs hints inls [] prs) (hdI (mkCx3 tab gas invs hints inls [] prs) L inls none n) none fn f (some T) ((false, [.sl none full t l]) :: ds) some = some ⟨e, some (T, ⟨t, so full l ds⟩), []⟩) : StandsP P tab f (rowProc T t si so) := by
 intro cx htt fn' as hp rs h' hf' hM
 have efn : fn' = fn := by have a := hf'.at_; rw [hf.at_] at a; injection a with a; exact a.symm
 subst efn
 have hin : ∀ b ∈ loopsIn fn' inls, b ∈ Bs := fun b hb => hB ▸ hb
 unfold rowProc at hM
 split at hM
 ·rename_i k t' full off len r
  split at hM
  ·rename_i T' t2 l ds hk hd
   split at hM
   ·rename_i e; subst e
    split at hM
    ·rename_i hc
     simp only [Bool.and_eq_true, beq_iff_eq, decide_eq_true_eq] at hc
     obtain ⟨⟨⟨rfl, rfl⟩, rfl⟩, hds⟩ := hc
     injection hM with hM; injection hM with e1 hM; injection hM with e2 e3; subst e2; subst e3
     simp only [Bool.and_eq_true, decide_eq_true_eq] at e1
     obtain ⟨rfl, e1⟩ := e1
     obtain ⟨e0, he⟩ := hG full l ds e1
     simp only [evP, Option.getD_some] at he
     cases hb : fn'.body with
     | none => have := hf.body; rw [hb] at this; cases this
     | some c =>
      have hH := hdI_ok (X := Ret) (L := L) (B := fun b => b ∈ Bs) hcx (h.gaOk3 hP) (rfB_of (rfs := []) (by intro b hb; cases hb)) (prB_of hP) (fun p hp => ⟨h.inl p hp, fun c hc b hb => hin b (List.mem_append.2 (.inr (List.mem_flatten.2 ⟨loopsOf c, List.mem_map.2 ⟨p, hp, by rw [hc]⟩, hb⟩)))⟩) (fun b T hb hT => hL b hb T hT) n
      obtain ⟨rs, h', h1, h2⟩ := fun_adq hcx (h.gaOk3 hP) hH (fun c hc => ⟨fun p hp => hin p (List.mem_append.2 (.inl (by rw [hc]; exact hp))), fun _ _ => trivial⟩) he
      split at h2
      ·rename_i T2 t2 l2 hl2
       split at h2
       ·rename_i hc2
        simp only [Bool.and_eq_true, beq_iff_eq, decide_eq_true_eq] at hc2
        obtain ⟨rfl, rfl⟩ := hc2
        injection h2 with h2; injection h2 with _ h2 _; injection h2 with h2; injection h2 with _ h2; injection h2 with _ h2
        subst h2
        rw [toDA_lift r ds hd]
        exact proc_frame (cx := mkCx3 tab gas invs hints inls [] prs) htt.symm hflat hds hb h1 hl2 hk
       ·cases h2
      ·cases h2
    ·cases hM
   ·cases hM
  ·cases hM
 ·cases hM
end
end Go.Eng
/- A function's code in pieces: what stands behind a place in it is reckoned once, whatever led there. -/
set_option linter.unusedVariables false
set_option linter.unusedSimpArgs false
namespace Go.Eng
open Go Go.RowKit

structure Cut where
 r : Nat
 keep : List Nat
 base : Nat
def evCodeC {R : Type} (cx : Cx) (hd : Hd R) (L : Loops2) (fail : R) (f : FuncId) (q : Cut) : Code → St → (Ex → St → R) → R
 | .seq a b, st, K => evCode cx hd fail f a st fun e st' => match e with
  | .normal => cond (firstReg b == q.r) (match clean { keep := q.keep, acc := [] } q.base st', L (1000000 + q.r) with
   | some st2, some T => (T st2).run K fail
   | _, _ => fail) (evCodeC cx hd L fail f q b st' K)
  | e => K e st'
 | c, st, K => evCode cx hd fail f c st K
def tailAt (r : Nat) : Code → Option Code
 | .seq _ b => cond (firstReg b == r) (some b) (tailAt r b)
 | _ => none
def tailOf (r : Nat) (c : Code) : Code := (tailAt r c).getD .skip
def bodyOf (fn : Func) : Code := fn.body.getD .skip
theorem tailOf_eq {r : Nat} {c b : Code} (h : tailAt r c = some b) : tailOf r c = b := by simp [tailOf, h]
def evFunC {R : Type} (cx : Cx) (hd : Hd R) (L : Loops2) (fail : R) (fn : Func) (f : FuncId) (q : Cut) (as : List Arg) (h : Heap) (K : List Arg → Heap → R) : R :=
 match fn.body with
 | none => fail
 | some c => evCodeC cx hd L fail f q c ⟨as.map (fun (g, cs) => V.v g cs) ++ List.replicate (fn.ntmps - as.length) .any, h, h.length⟩ fun e st => match e with
  | .exit _ => fail
  | _ => match resL cx st fn.results.toList fn.resultTypes.toList with
   | some rs => K rs st.heap
   | none => fail
def tail2 (cx : Cx) (hd : Hd (Option (Ex × St))) (L : Loops2) (f : FuncId) (q : Cut) (c : Code) (keepX : List Nat) (st : St) : Option (Ex × St) :=
 evCodeC cx hd L none f q c st fun e st' => match clean { keep := keepX, acc := [] } st'.fb st' with
  | some st2 => some (e, st2)
  | none => none

section
variable {P : Program} {cx : Cx} {st st' : St}
def CutOk (P : Program) (cx : Cx) (c : Code) (T : St → Tree) : Prop := ∀ st e st', (T st).eval = some (e, st') → Lands P cx false c st e st'

theorem Lands.turns {m : Bool} {c : Code} {s1 s2 s3 : St} {e : Ex} (y : Lands P cx m c s1 e s2) (x : Turns cx s2 s3) : Lands P cx m c s1 e s3 := by
 refine ⟨x.1.trans y.1, fun ok w0 ρ a w Q hi hl hQ r hr => ?_⟩
 refine y.2 ok w0 ρ a w Q hi hl (fun ρ1 a1 w1 i1 g1 d1 => ?_) r hr
 have hl1 : s2.fb ≤ s2.heap.length := by rw [y.1]; exact g1.grow.len hl
 obtain ⟨ρ2, i2, g2⟩ := x.2.2 ok w0 ρ1 a1 w1 i1 hl1
 rw [y.1] at g2
 exact hQ ρ2 a1 w1 i2 (g1.trans g2) (d1.trans (Left.same rfl) g2 g1.size)

theorem codeC_adq {X : Type} {hd : Hd (Option X)} {B : Code → Prop} {G : RF → Prop} {L : Loops2} (hcx : CxOk P cx) (hga : GaOk P cx) (hH : HdOk P cx false hd B G) (f : FuncId) (q : Cut) : ∀ (c : Code) (st : St) (K : Ex → St → Option X) (x : X), (∀ p ∈ loopsOf c, B p) → (∀ q ∈ rfsOf c, G q) → (∀ T, L (1000000 + q.r) = some T → ∀ b, tailAt q.r c = some b → CutOk P cx b T) → evCodeC cx hd L none f q c st K = some x → ∃ e st', Lands P cx false c st e st' ∧ K e st' = some x
 | .seq a b, st, K, x, hB, hG, hC, h => by
  simp only [evCodeC] at h
  obtain ⟨e, s1, h1, h2⟩ := code_adq hcx hga hH f a st _ x (fun r hr => hB r (List.mem_append.2 (.inl hr))) (fun r hr => hG r (List.mem_append.2 (.inl hr))) h
  cases e with
  | normal =>
   simp only at h2
   cases hr : (firstReg b == q.r) with
   | true =>
    rw [hr] at h2
    simp only [cond_true] at h2
    split at h2
    ·rename_i s2 T hc hT
     obtain ⟨e, s3, h3, h4⟩ := Tree.run_eval h2
     exact ⟨e, s3, h1.seq ((turns_clean hc).lands (hC T hT b (by simp [tailAt, hr]) _ _ _ h3)), h4⟩
    ·cases h2
   | false =>
    rw [hr] at h2
    simp only [cond_false] at h2
    obtain ⟨e2, s2, h3, h4⟩ := codeC_adq hcx hga hH f q b s1 K x (fun r hr => hB r (List.mem_append.2 (.inr hr))) (fun r hr => hG r (List.mem_append.2 (.inr hr))) (fun T hT b2 hb => hC T hT b2 (by simp [tailAt, hr, hb])) h2
    exact ⟨e2, s2, h1.seq h3, h4⟩
  | exit id => exact ⟨.exit id, s1, h1.seq_out (by intro h; cases h), h2⟩
  | ret => exact ⟨.ret, s1, h1.seq_out (by intro h; cases h), h2⟩
 | .skip, st, K, x, hB, hG, hC, h => code_adq hcx hga hH f _ st K x hB hG h
 | .label l, st, K, x, hB, hG, hC, h => code_adq hcx hga hH f _ st K x hB hG h
 | .region id ops draw, st, K, x, hB, hG, hC, h => code_adq hcx hga hH f _ st K x hB hG h
 | .cond c p q, st, K, x, hB, hG, hC, h => code_adq hcx hga hH f _ st K x hB hG h
 | .block id p, st, K, x, hB, hG, hC, h => code_adq hcx hga hH f _ st K x hB hG h
 | .loop p, st, K, x, hB, hG, hC, h => code_adq hcx hga hH f _ st K x hB hG h
 | .rangeFunc g ps asg body, st, K, x, hB, hG, hC, h => code_adq hcx hga hH f _ st K x hB hG h
 | .scope p, st, K, x, hB, hG, hC, h => code_adq hcx hga hH f _ st K x hB hG h
 | .exit id, st, K, x, hB, hG, hC, h => code_adq hcx hga hH f _ st K x hB hG h
 | .goto l, st, K, x, hB, hG, hC, h => code_adq hcx hga hH f _ st K x hB hG h
 | .ret, st, K, x, hB, hG, hC, h => code_adq hcx hga hH f _ st K x hB hG h
 | .refuse why, st, K, x, hB, hG, hC, h => code_adq hcx hga hH f _ st K x hB hG h

theorem lands_keep {c : Code} {n m fb : Nat} {hs ks : List Nat} {st : St} {e : Ex} {st' : St} (h : okSt n m fb hs st = true) (hc : Lands P cx false c ⟨envOf n (ks.map fun k => (k, st.env.getD k .any)), heapOf m (hs.map fun k => (k, lk st.heap k)), fb⟩ e st') : Lands P cx false c st e st' := by
 rw [← keep_eq h] at hc
 exact (turns_keep ks).lands hc
theorem cut_tree {X : Type} {c : Code} {st st' : St} {e e' : Ex} {o : Option X} {d : X} {out : X → St} (h : ∀ x, o = some x → Lands P cx false c st e (out x)) (he : (Tree.br o.isSome (.leaf e (out (o.getD d))) .bad).eval = some (e', st')) : Lands P cx false c st e' st' := by
 cases o with
 | none => cases he
 | some x =>
  simp only [Tree.eval, Tree.run, Option.isSome_some, cond_true, Option.some.injEq, Prod.mk.injEq, Option.getD_some] at he
  obtain ⟨rfl, rfl⟩ := he
  exact h x rfl

theorem cut_ok {X : Type} {tab : List (Option TI)} {gas : List (Nat × Con)} {invs : List (String × Con)} {hints : List (Nat × Nat × Hint)} {inls : List (Nat × Func)} {prs : Prs} {L : Loops2} {n : Nat} (hcx : CxOk P (mkCx3 tab gas invs hints inls [] prs)) (h : Ready P tab gas invs inls) (hP : PrsOk P tab prs)
    {f : FuncId} {c : Code} {q : Cut} {Bs : List Code} (hB : loopsOf c ++ loopsInl inls = Bs) (hL : ∀ b ∈ Bs, ∀ T, L (firstReg b) = some T → LoopOk P (mkCx3 tab gas invs hints inls [] prs) b T)
    (hC : ∀ T, L (1000000 + q.r) = some T → ∀ b, tailAt q.r c = some b → CutOk P (mkCx3 tab gas invs hints inls [] prs) b T)
    {keepX : List Nat} {mk : St} {e : Ex} {out : X → St} {R : DT X}
    (hr : tail2 (mkCx3 tab gas invs hints inls [] prs) (hdI (mkCx3 tab gas invs hints inls [] prs) L inls none n) L f q c keepX mk = R.go (fun x => (e, out x))) :
    ∀ x, R.run = some x → Lands P (mkCx3 tab gas invs hints inls [] prs) false c mk e (out x) := by
 intro x hx
 rw [DT.go_run, hx] at hr
 have hin : ∀ b ∈ loopsOf c ++ loopsInl inls, b ∈ Bs := fun b hb => hB ▸ hb
 have hH := hdI_ok (X := Ex × St) (L := L) (B := fun b => b ∈ Bs) hcx (h.gaOk3 hP) (rfB_of (rfs := []) (by intro b hb; cases hb)) (prB_of hP) (fun p hp => ⟨h.inl p hp, fun c hc b hb => hin b (List.mem_append.2 (.inr (List.mem_flatten.2 ⟨loopsOf c, List.mem_map.2 ⟨p, hp, by rw [hc]⟩, hb⟩)))⟩) (fun b T hb hT => hL b hb T hT) n
 obtain ⟨e1, s1, h1, h2⟩ := codeC_adq hcx (h.gaOk3 hP) hH f q c mk _ _ (fun p hp => hin p (List.mem_append.2 (.inl hp))) (fun _ _ => trivial) hC hr
 split at h2
 ·rename_i s2 hc
  simp only [Option.some.injEq, Prod.mk.injEq] at h2
  obtain ⟨rfl, rfl⟩ := h2
  exact h1.turns (turns_clean hc)
 ·cases h2

end
end Go.Eng
/- A function that changes a row, cut at a place. -/
set_option linter.unusedVariables false
set_option linter.unusedSimpArgs false
namespace Go.Eng
open Go Go.RowKit

def evPC {R : Type} (cx : Cx) (hd : Hd R) (L : Loops2) (q : Cut) (fail : R) (fn : Func) (f : FuncId) (own : Option TypeId) (das : List DArg) (K : Ret → R) : R :=
 match das with
 | (false, [.sl _ full t l]) :: r => evFunC cx hd L fail fn f q ((false, [.own 0 t full 0 l.length]) :: liftA r) [some (.arr (own.getD 0) t l)] fun rs h => match rs, lk h 0 with
  | [], some (.arr T t' l') => if decide (t' = t) && T == own.getD 0 then K ⟨true, some (T, ⟨t', l'⟩), []⟩ else fail
  | _, _ => fail
 | _ => fail

section
variable {P : Program}
theorem standsPC {tab : List (Option TI)} {gas : List (Nat × Con)} {invs : List (String × Con)} {hints : List (Nat × Nat × Hint)} {inls : List (Nat × Func)} {prs : Prs} {L : Loops2} {n : Nat} (hcx : CxOk P (mkCx3 tab gas invs hints inls [] prs)) (h : Ready P tab gas invs inls) (hP : PrsOk P tab prs)
    {fn : Func} {f : FuncId} (hf : FnOk P f fn) {Bs : List Code} (hB : loopsIn fn inls = Bs) (hL : ∀ b ∈ Bs, ∀ T, L (firstReg b) = some T → LoopOk P (mkCx3 tab gas invs hints inls [] prs) b T) {q : Cut}
    (hC : ∀ T, L (1000000 + q.r) = some T → ∀ b, tailAt q.r (bodyOf fn) = some b → CutOk P (mkCx3 tab gas invs hints inls [] prs) b T) {T : TypeId} {t : ET} (hflat : t.flat = true) {si : Bool → List (Ty t) → List DArg → Bool} {so : Bool → List (Ty t) → List DArg → List (Ty t)}
    (hG : ∀ full l ds, si full l ds = true → ∃ e : Bool, evPC (mkCx3 tab gas invs hints inls [] prs) (hdI (mkCx3 tab gas invs hints inls [] prs) L inls none n) L q none fn f (some T) ((false, [.sl none full t l]) :: ds) some = some ⟨e, some (T, ⟨t, so full l ds⟩), []⟩) : StandsP P tab f (rowProc T t si so) := by
 intro cx htt fn' as hp rs h' hf' hM
 have efn : fn' = fn := by have a := hf'.at_; rw [hf.at_] at a; injection a with a; exact a.symm
 subst efn
 have hin : ∀ b ∈ loopsIn fn' inls, b ∈ Bs := fun b hb => hB ▸ hb
 unfold rowProc at hM
 split at hM
 ·rename_i k t' full off len r
  split at hM
  ·rename_i T' t2 l ds hk hd
   split at hM
   ·rename_i e; subst e
    split at hM
    ·rename_i hc
     simp only [Bool.and_eq_true, beq_iff_eq, decide_eq_true_eq] at hc
     obtain ⟨⟨⟨rfl, rfl⟩, rfl⟩, hds⟩ := hc
     injection hM with hM; injection hM with e1 hM; injection hM with e2 e3; subst e2; subst e3
     simp only [Bool.and_eq_true, decide_eq_true_eq] at e1
     obtain ⟨rfl, e1⟩ := e1
     obtain ⟨e0, he⟩ := hG full l ds e1
     simp only [evPC, Option.getD_some] at he
     unfold evFunC at he
     split at he
     ·cases he
     ·rename_i c hb
      have hbo : bodyOf fn' = c := by simp [bodyOf, hb]
      rw [hbo] at hC
      have hH := hdI_ok (X := Ret) (L := L) (B := fun b => b ∈ Bs) hcx (h.gaOk3 hP) (rfB_of (rfs := []) (by intro b hb; cases hb)) (prB_of hP) (fun p hp => ⟨h.inl p hp, fun c hc b hb => hin b (List.mem_append.2 (.inr (List.mem_flatten.2 ⟨loopsOf c, List.mem_map.2 ⟨p, hp, by rw [hc]⟩, hb⟩)))⟩) (fun b T hb hT => hL b hb T hT) n
      obtain ⟨e4, st4, k1, k2⟩ := codeC_adq hcx (h.gaOk3 hP) hH f q c _ _ _ (fun p hp => hin p (List.mem_append.2 (.inl (by rw [hb]; exact hp)))) (fun _ _ => trivial) hC he
      obtain ⟨rs, h', h1, h2⟩ := fun_lands (K := fun rs h => match (generalizing := false) rs, lk h 0 with
       | [], some (.arr T2 t2 l2) => if decide (t2 = t') && T2 == T' then some (⟨true, some (T2, ⟨t2, l2⟩), []⟩ : Ret) else none
       | _, _ => none) hcx hb k1 k2
      split at h2
      ·rename_i T2 t2 l2 hl2
       split at h2
       ·rename_i hc2
        simp only [Bool.and_eq_true, beq_iff_eq, decide_eq_true_eq] at hc2
        obtain ⟨rfl, rfl⟩ := hc2
        injection h2 with h2; injection h2 with _ h2 _; injection h2 with h2; injection h2 with _ h2; injection h2 with _ h2
        subst h2
        rw [toDA_lift r ds hd]
        exact proc_frame (cx := mkCx3 tab gas invs hints inls [] prs) htt.symm hflat hds hb h1 hl2 hk
       ·cases h2
      ·cases h2
    ·cases hM
   ·cases hM
  ·cases hM
 ·cases hM
end
end Go.Eng
namespace Go.Eng
def Uz0 (x : V) (K : Tree) : Tree := match x with
 | V.v false [C.ptr 0 0] => K
 | _ => .bad
theorem Uz0i {x : V} {K : Tree} {z : Ex × St} (h : (Uz0 x K).eval = some z) : x = V.v false [C.ptr 0 0] ∧ (K).eval = some z := by
 unfold Uz0 at h
 split at h
 ·exact ⟨rfl, h⟩
 ·cases h
def Uz1 (x : V) (K : Tree) : Tree := match x with
 | V.v false [C.ptr 1 0] => K
 | _ => .bad
theorem Uz1i {x : V} {K : Tree} {z : Ex × St} (h : (Uz1 x K).eval = some z) : x = V.v false [C.ptr 1 0] ∧ (K).eval = some z := by
 unfold Uz1 at h
 split at h
 ·exact ⟨rfl, h⟩
 ·cases h
def Uz2 (x : V) (K : Tree) : Tree := match x with
 | V.v false [C.ptr 2 0] => K
 | _ => .bad
theorem Uz2i {x : V} {K : Tree} {z : Ex × St} (h : (Uz2 x K).eval = some z) : x = V.v false [C.ptr 2 0] ∧ (K).eval = some z := by
 unfold Uz2 at h
 split at h
 ·exact ⟨rfl, h⟩
 ·cases h
def Uz3 (x : V) (K : Int → Tree) : Tree := match x with
 | V.v false [C.d (.sc (.int .i64 qE))] => K qE
 | _ => .bad
theorem Uz3i {x : V} {K : Int → Tree} {z : Ex × St} (h : (Uz3 x K).eval = some z) : ∃ (qE : Int), x = V.v false [C.d (.sc (.int .i64 qE))] ∧ (K qE).eval = some z := by
 unfold Uz3 at h
 split at h
 ·exact ⟨_, rfl, h⟩
 ·cases h
def Uz4 (x : Option Blk) (K : ByteArray → Int → OBz → Bool → Lv → Tree) : Tree := match x with
 | some (Blk.box 43 [C.d (.sc (.str qK)), C.d (.sc (.int .i64 qL)), C.d (.sl qT qU .val qM)]) => K qK qL qT qU qM
 | _ => .bad
theorem Uz4i {x : Option Blk} {K : ByteArray → Int → OBz → Bool → Lv → Tree} {z : Ex × St} (h : (Uz4 x K).eval = some z) : ∃ (qK : ByteArray) (qL : Int) (qT : OBz) (qU : Bool) (qM : Lv), x = some (Blk.box 43 [C.d (.sc (.str qK)), C.d (.sc (.int .i64 qL)), C.d (.sl qT qU .val qM)]) ∧ (K qK qL qT qU qM).eval = some z := by
 unfold Uz4 at h
 split at h
 ·exact ⟨_, _, _, _, _, rfl, h⟩
 ·cases h
def Uz5 (x : Option Blk) (K : Int → Tree) : Tree := match x with
 | some (Blk.box 3 [C.d (.sc (.int .i64 qN))]) => K qN
 | _ => .bad
theorem Uz5i {x : Option Blk} {K : Int → Tree} {z : Ex × St} (h : (Uz5 x K).eval = some z) : ∃ (qN : Int), x = some (Blk.box 3 [C.d (.sc (.int .i64 qN))]) ∧ (K qN).eval = some z := by
 unfold Uz5 at h
 split at h
 ·exact ⟨_, rfl, h⟩
 ·cases h
def Uz6 (x : Option Blk) (K : Lr → Tree) : Tree := match x with
 | some (Blk.arr 73 .run h_30) => K h_30
 | _ => .bad
theorem Uz6i {x : Option Blk} {K : Lr → Tree} {z : Ex × St} (h : (Uz6 x K).eval = some z) : ∃ (h_30 : Lr), x = some (Blk.arr 73 .run h_30) ∧ (K h_30).eval = some z := by
 unfold Uz6 at h
 split at h
 ·exact ⟨_, rfl, h⟩
 ·cases h
def Uz7 (x : Option Blk) (K : Lm → Tree) : Tree := match x with
 | some (Blk.arr 45 .mat h_33) => K h_33
 | _ => .bad
theorem Uz7i {x : Option Blk} {K : Lm → Tree} {z : Ex × St} (h : (Uz7 x K).eval = some z) : ∃ (h_33 : Lm), x = some (Blk.arr 45 .mat h_33) ∧ (K h_33).eval = some z := by
 unfold Uz7 at h
 split at h
 ·exact ⟨_, rfl, h⟩
 ·cases h
def Uz8 (x : V) (K : OBz → Bool → Le → Tree) : Tree := match x with
 | V.v false [C.d (.sl qH qI .evt qA)] => K qH qI qA
 | _ => .bad
theorem Uz8i {x : V} {K : OBz → Bool → Le → Tree} {z : Ex × St} (h : (Uz8 x K).eval = some z) : ∃ (qH : OBz) (qI : Bool) (qA : Le), x = V.v false [C.d (.sl qH qI .evt qA)] ∧ (K qH qI qA).eval = some z := by
 unfold Uz8 at h
 split at h
 ·exact ⟨_, _, _, rfl, h⟩
 ·cases h
def Uz9 (x : Option Blk) (K : OBz → Bool → Ls → Int → Int → Int → Int → Tree) : Tree := match x with
 | some (Blk.box 24 [C.d (.sl qJ qK .step qC), C.d (.sc (.int .i64 qD)), C.d (.sc (.int .i64 qE)), C.d (.sc (.int .i64 qF)), C.d (.sc (.int .i64 qG))]) => K qJ qK qC qD qE qF qG
 | _ => .bad
theorem Uz9i {x : Option Blk} {K : OBz → Bool → Ls → Int → Int → Int → Int → Tree} {z : Ex × St} (h : (Uz9 x K).eval = some z) : ∃ (qJ : OBz) (qK : Bool) (qC : Ls) (qD qE qF qG : Int), x = some (Blk.box 24 [C.d (.sl qJ qK .step qC), C.d (.sc (.int .i64 qD)), C.d (.sc (.int .i64 qE)), C.d (.sc (.int .i64 qF)), C.d (.sc (.int .i64 qG))]) ∧ (K qJ qK qC qD qE qF qG).eval = some z := by
 unfold Uz9 at h
 split at h
 ·exact ⟨_, _, _, _, _, _, _, rfl, h⟩
 ·cases h
def Uz10 (x : V) (K : Bool → Nat → Tree) : Tree := match x with
 | V.v false [C.own 0 .mat qD 0 t0_l] => K qD t0_l
 | _ => .bad
theorem Uz10i {x : V} {K : Bool → Nat → Tree} {z : Ex × St} (h : (Uz10 x K).eval = some z) : ∃ (qD : Bool) (t0_l : Nat), x = V.v false [C.own 0 .mat qD 0 t0_l] ∧ (K qD t0_l).eval = some z := by
 unfold Uz10 at h
 split at h
 ·exact ⟨_, _, rfl, h⟩
 ·cases h
def Uz11 (x : V) (K : Tree) : Tree := match x with
 | V.v false [C.d (D.fn 23 [] [])] => K
 | _ => .bad
theorem Uz11i {x : V} {K : Tree} {z : Ex × St} (h : (Uz11 x K).eval = some z) : x = V.v false [C.d (D.fn 23 [] [])] ∧ (K).eval = some z := by
 unfold Uz11 at h
 split at h
 ·exact ⟨rfl, h⟩
 ·cases h
def Uz12 (x : V) (K : Tree) : Tree := match x with
 | V.v false [C.ptr 29 0] => K
 | _ => .bad
theorem Uz12i {x : V} {K : Tree} {z : Ex × St} (h : (Uz12 x K).eval = some z) : x = V.v false [C.ptr 29 0] ∧ (K).eval = some z := by
 unfold Uz12 at h
 split at h
 ·exact ⟨rfl, h⟩
 ·cases h
def Uz13 (x : V) (K : Bool → Nat → Tree) : Tree := match x with
 | V.v false [C.own 33 .mat qE 0 t10_l] => K qE t10_l
 | _ => .bad
theorem Uz13i {x : V} {K : Bool → Nat → Tree} {z : Ex × St} (h : (Uz13 x K).eval = some z) : ∃ (qE : Bool) (t10_l : Nat), x = V.v false [C.own 33 .mat qE 0 t10_l] ∧ (K qE t10_l).eval = some z := by
 unfold Uz13 at h
 split at h
 ·exact ⟨_, _, rfl, h⟩
 ·cases h
def Uz14 (x : Option Blk) (K : Int → Int → Ls → Int → Int → Int → Int → Lr → Int → Int → Int → Lm → Bool → Int → Bool → Tree) : Tree := match x with
 | some (Blk.box 36 [C.d (.sc (.int .i64 h29_)), C.d (.sc (.int .i64 h_29_1)), C.d (.sl none false .step h_29_2), C.d (.sc (.int .i64 h_29_3)), C.d (.sc (.int .i64 h_29_4)), C.d (.sc (.int .i64 h_29_5)), C.d (.sc (.int .i64 h_29_6)), C.d (.sl none false .run h_29_7), C.d (.sc (.int .i64 h_29_8)), C.d (.sc (.int .i64 h_29_9)), C.d (.sc (.int .i64 h_29_10)), C.d (.sl none false .mat h_29_11), C.d (.sc (.bool h_29_12)), C.d (.sc (.int .i64 h_29_13)), C.d (.sc (.bool h_29_14))]) => K h29_ h_29_1 h_29_2 h_29_3 h_29_4 h_29_5 h_29_6 h_29_7 h_29_8 h_29_9 h_29_10 h_29_11 h_29_12 h_29_13 h_29_14
 | _ => .bad
theorem Uz14i {x : Option Blk} {K : Int → Int → Ls → Int → Int → Int → Int → Lr → Int → Int → Int → Lm → Bool → Int → Bool → Tree} {z : Ex × St} (h : (Uz14 x K).eval = some z) : ∃ (h29_ h_29_1 : Int) (h_29_2 : Ls) (h_29_3 h_29_4 h_29_5 h_29_6 : Int) (h_29_7 : Lr) (h_29_8 h_29_9 h_29_10 : Int) (h_29_11 : Lm) (h_29_12 : Bool) (h_29_13 : Int) (h_29_14 : Bool), x = some (Blk.box 36 [C.d (.sc (.int .i64 h29_)), C.d (.sc (.int .i64 h_29_1)), C.d (.sl none false .step h_29_2), C.d (.sc (.int .i64 h_29_3)), C.d (.sc (.int .i64 h_29_4)), C.d (.sc (.int .i64 h_29_5)), C.d (.sc (.int .i64 h_29_6)), C.d (.sl none false .run h_29_7), C.d (.sc (.int .i64 h_29_8)), C.d (.sc (.int .i64 h_29_9)), C.d (.sc (.int .i64 h_29_10)), C.d (.sl none false .mat h_29_11), C.d (.sc (.bool h_29_12)), C.d (.sc (.int .i64 h_29_13)), C.d (.sc (.bool h_29_14))]) ∧ (K h29_ h_29_1 h_29_2 h_29_3 h_29_4 h_29_5 h_29_6 h_29_7 h_29_8 h_29_9 h_29_10 h_29_11 h_29_12 h_29_13 h_29_14).eval = some z := by
 unfold Uz14 at h
 split at h
 ·exact ⟨_, _, _, _, _, _, _, _, _, _, _, _, _, _, _, rfl, h⟩
 ·cases h
end Go.Eng
