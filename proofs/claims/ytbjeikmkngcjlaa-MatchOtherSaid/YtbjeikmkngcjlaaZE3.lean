/- The evaluator, part 3: the texts E38, E39, E40, E41, E42 in one file. -/
import Derived.Test.YtbjeikmkngcjlaaZE2
import Derived.Carry
import Derived.ChangeOld
import Derived.Handed
import Derived.JoinedOf
import Derived.ChangeSame
import Derived.RowKit
/- Arguments that can be read are opened: what they hold, as the evaluator has it. -/
set_option linter.unusedVariables false
set_option linter.unusedSimpArgs false
namespace Go.Eng
open Go Go.RowKit

inductive KD where
 | int (k : IntKind) | bool | str | sl (t : ET) | no
 deriving DecidableEq
def kd : D → KD
 | .sc (.int k _) => .int k
 | .sc (.bool _) => .bool
 | .sc (.str _) => .str
 | .sl _ _ t _ => .sl t
 | _ => .no

def wfI (n : Int) : Prop := -9223372036854775808 ≤ n ∧ n ≤ 9223372036854775807
def wfU (n : Int) : Prop := 0 ≤ n ∧ n ≤ 18446744073709551615
def wfS (s : ByteArray) : Prop := s.size ≤ maxLen
def wfL {α : Type} (p : α → Prop) (l : List α) : Prop := l.length ≤ maxLen ∧ ∀ x ∈ l, p x
def wfMat (m : Mat) : Prop := wfI m.start ∧ wfI m.fin ∧ wfI m.agg
def wfRun (r : Run) : Prop := wfI r.first ∧ wfI r.at_ ∧ wfI r.step ∧ wfI r.n ∧ wfI r.many ∧ wfI r.agg
def wfPass (p : Pass) : Prop := wfU p.token ∧ wfI p.sess ∧ wfI p.conn ∧ wfI p.off
def wfVal (v : Val) : Prop := wfI v.kind ∧ wfI v.n ∧ wfS v.s
def wfOpn (o : Opn) : Prop := wfI o.code ∧ wfI o.arg ∧ wfVal o.v
def wfStep (x : Step) : Prop := wfS x.name ∧ wfL wfOpn x.ifs ∧ wfI x.min ∧ wfI x.max ∧ wfS x.notName ∧ wfL wfOpn x.notIf
def wfEvt (e : Evt) : Prop := wfS e.name ∧ wfI e.at_ ∧ wfL wfVal e.v
def wfPred (p : Pred) : Prop := wfS p.name ∧ wfL wfOpn p.ifs
def wfQuery (q : Query) : Prop := wfL wfStep q.steps ∧ wfI q.within ∧ wfI q.agg ∧ wfI q.aggStep ∧ wfI q.aggF
def wfTy : (t : ET) → Ty t → Prop
 | .mat => wfMat | .run => wfRun | .pass => wfPass | .val => wfVal | .op => wfOpn | .step => wfStep | .evt => wfEvt | .pred => wfPred | .query => wfQuery
 | .int => wfI | .bool => fun _ => True | .thing => fun _ => True
def wfD : D → Prop
 | .sc (.int k n) => (Lit.int k n).wf = true
 | .sc (.str s) => wfS s
 | .sl _ _ t l => wfL (wfTy t) l
 | _ => True
def flagsD : D → Prop
 | .sl nl full _ _ => nl.isSome = true ∧ full = false
 | _ => True

theorem wfI_of {n : Int} (h : (Lit.int .i64 n).wf = true) : wfI n := by
 simp only [Lit.wf, Bool.and_eq_true, decide_eq_true_eq] at h
 exact h
theorem wfU_of {n : Int} (h : (Lit.int .u64 n).wf = true) : wfU n := by
 simp only [Lit.wf, Bool.and_eq_true, decide_eq_true_eq] at h
 exact h

theorem kd_int {d : D} {k : IntKind} (h : kd d = .int k) : ∃ n, d = .sc (.int k n) := by
 unfold kd at h
 split at h <;> first | (injection h with h; subst h; exact ⟨_, rfl⟩) | (cases h; done)
theorem kd_bool {d : D} (h : kd d = .bool) : ∃ b, d = .sc (.bool b) := by
 unfold kd at h
 split at h <;> first | exact ⟨_, rfl⟩ | (cases h; done)
theorem kd_str {d : D} (h : kd d = .str) : ∃ s, d = .sc (.str s) := by
 unfold kd at h
 split at h <;> first | exact ⟨_, rfl⟩ | (cases h; done)
theorem kd_sl {d : D} {t : ET} (h : kd d = .sl t) : ∃ nl full l, d = .sl nl full t l := by
 unfold kd at h
 split at h <;> first | (injection h with h; subst h; exact ⟨_, _, _, rfl⟩) | (cases h; done)
theorem map_cons {ds : List D} {k : KD} {ks : List KD} (h : ds.map kd = k :: ks) : ∃ d r, ds = d :: r ∧ kd d = k ∧ r.map kd = ks := by
 cases ds with
 | nil => cases h
 | cons d r => simp only [List.map_cons, List.cons.injEq] at h; exact ⟨d, r, rfl, h.1, h.2⟩
theorem map_nil {ds : List D} (h : ds.map kd = []) : ds = [] := by simpa using h

theorem el_of : ∀ (t : ET) (ds : List D), t ≠ .thing → ds.map kd = (enc t (dflt t)).map kd → (∀ d ∈ ds, wfD d) → ∃ x : Ty t, wfTy t x ∧ enc t x = ds.map weak
 | .mat, ds, _, h, hw => by
  obtain ⟨d1, r1, rfl, h1, h⟩ := map_cons h; obtain ⟨d2, r2, rfl, h2, h⟩ := map_cons h; obtain ⟨d3, r3, rfl, h3, h⟩ := map_cons h; obtain ⟨d4, r4, rfl, h4, h⟩ := map_cons h
  obtain rfl := map_nil h
  obtain ⟨a, rfl⟩ := kd_int h1; obtain ⟨b, rfl⟩ := kd_int h2; obtain ⟨c, rfl⟩ := kd_int h3; obtain ⟨d, rfl⟩ := kd_bool h4
  exact ⟨(⟨a, b, c, d⟩ : Mat), ⟨wfI_of (hw (.sc (.int .i64 a)) (by simp)), wfI_of (hw (.sc (.int .i64 b)) (by simp)), wfI_of (hw (.sc (.int .i64 c)) (by simp))⟩, rfl⟩
 | .run, ds, _, h, hw => by
  obtain ⟨d1, r1, rfl, h1, h⟩ := map_cons h; obtain ⟨d2, r2, rfl, h2, h⟩ := map_cons h; obtain ⟨d3, r3, rfl, h3, h⟩ := map_cons h; obtain ⟨d4, r4, rfl, h4, h⟩ := map_cons h
  obtain ⟨d5, r5, rfl, h5, h⟩ := map_cons h; obtain ⟨d6, r6, rfl, h6, h⟩ := map_cons h; obtain ⟨d7, r7, rfl, h7, h⟩ := map_cons h
  obtain rfl := map_nil h
  obtain ⟨a, rfl⟩ := kd_int h1; obtain ⟨b, rfl⟩ := kd_int h2; obtain ⟨c, rfl⟩ := kd_int h3; obtain ⟨d, rfl⟩ := kd_int h4; obtain ⟨e, rfl⟩ := kd_int h5; obtain ⟨f, rfl⟩ := kd_int h6; obtain ⟨g, rfl⟩ := kd_bool h7
  exact ⟨(⟨a, b, c, d, e, f, g⟩ : Run), ⟨wfI_of (hw (.sc (.int .i64 a)) (by simp)), wfI_of (hw (.sc (.int .i64 b)) (by simp)), wfI_of (hw (.sc (.int .i64 c)) (by simp)), wfI_of (hw (.sc (.int .i64 d)) (by simp)), wfI_of (hw (.sc (.int .i64 e)) (by simp)), wfI_of (hw (.sc (.int .i64 f)) (by simp))⟩, rfl⟩
 | .pass, ds, _, h, hw => by
  obtain ⟨d1, r1, rfl, h1, h⟩ := map_cons h; obtain ⟨d2, r2, rfl, h2, h⟩ := map_cons h; obtain ⟨d3, r3, rfl, h3, h⟩ := map_cons h; obtain ⟨d4, r4, rfl, h4, h⟩ := map_cons h
  obtain rfl := map_nil h
  obtain ⟨a, rfl⟩ := kd_int h1; obtain ⟨b, rfl⟩ := kd_int h2; obtain ⟨c, rfl⟩ := kd_int h3; obtain ⟨d, rfl⟩ := kd_int h4
  exact ⟨(⟨a, b, c, d⟩ : Pass), ⟨wfU_of (hw (.sc (.int .u64 a)) (by simp)), wfI_of (hw (.sc (.int .i64 b)) (by simp)), wfI_of (hw (.sc (.int .i64 c)) (by simp)), wfI_of (hw (.sc (.int .i64 d)) (by simp))⟩, rfl⟩
 | .val, ds, _, h, hw => by
  obtain ⟨d1, r1, rfl, h1, h⟩ := map_cons h; obtain ⟨d2, r2, rfl, h2, h⟩ := map_cons h; obtain ⟨d3, r3, rfl, h3, h⟩ := map_cons h
  obtain rfl := map_nil h
  obtain ⟨a, rfl⟩ := kd_int h1; obtain ⟨b, rfl⟩ := kd_int h2; obtain ⟨c, rfl⟩ := kd_str h3
  exact ⟨(⟨a, b, c⟩ : Val), ⟨wfI_of (hw (.sc (.int .i64 a)) (by simp)), wfI_of (hw (.sc (.int .i64 b)) (by simp)), hw (.sc (.str c)) (by simp)⟩, rfl⟩
 | .op, ds, _, h, hw => by
  obtain ⟨d1, r1, rfl, h1, h⟩ := map_cons h; obtain ⟨d2, r2, rfl, h2, h⟩ := map_cons h; obtain ⟨d3, r3, rfl, h3, h⟩ := map_cons h; obtain ⟨d4, r4, rfl, h4, h⟩ := map_cons h; obtain ⟨d5, r5, rfl, h5, h⟩ := map_cons h
  obtain rfl := map_nil h
  obtain ⟨a, rfl⟩ := kd_int h1; obtain ⟨b, rfl⟩ := kd_int h2; obtain ⟨c, rfl⟩ := kd_int h3; obtain ⟨d, rfl⟩ := kd_int h4; obtain ⟨e, rfl⟩ := kd_str h5
  exact ⟨(⟨a, b, ⟨c, d, e⟩⟩ : Opn), ⟨wfI_of (hw (.sc (.int .i64 a)) (by simp)), wfI_of (hw (.sc (.int .i64 b)) (by simp)), wfI_of (hw (.sc (.int .i64 c)) (by simp)), wfI_of (hw (.sc (.int .i64 d)) (by simp)), hw (.sc (.str e)) (by simp)⟩, rfl⟩
 | .step, ds, _, h, hw => by
  obtain ⟨d1, r1, rfl, h1, h⟩ := map_cons h; obtain ⟨d2, r2, rfl, h2, h⟩ := map_cons h; obtain ⟨d3, r3, rfl, h3, h⟩ := map_cons h; obtain ⟨d4, r4, rfl, h4, h⟩ := map_cons h
  obtain ⟨d5, r5, rfl, h5, h⟩ := map_cons h; obtain ⟨d6, r6, rfl, h6, h⟩ := map_cons h; obtain ⟨d7, r7, rfl, h7, h⟩ := map_cons h
  obtain rfl := map_nil h
  obtain ⟨a, rfl⟩ := kd_str h1; obtain ⟨n1, f1, b, rfl⟩ := kd_sl h2; obtain ⟨c, rfl⟩ := kd_int h3; obtain ⟨d, rfl⟩ := kd_int h4; obtain ⟨e, rfl⟩ := kd_bool h5; obtain ⟨f, rfl⟩ := kd_str h6; obtain ⟨n2, f2, g, rfl⟩ := kd_sl h7
  exact ⟨(⟨a, b, c, d, e, f, g⟩ : Step), ⟨hw (.sc (.str a)) (by simp), hw (.sl n1 f1 .op b) (by simp), wfI_of (hw (.sc (.int .i64 c)) (by simp)), wfI_of (hw (.sc (.int .i64 d)) (by simp)), hw (.sc (.str f)) (by simp), hw (.sl n2 f2 .op g) (by simp)⟩, rfl⟩
 | .evt, ds, _, h, hw => by
  obtain ⟨d1, r1, rfl, h1, h⟩ := map_cons h; obtain ⟨d2, r2, rfl, h2, h⟩ := map_cons h; obtain ⟨d3, r3, rfl, h3, h⟩ := map_cons h
  obtain rfl := map_nil h
  obtain ⟨a, rfl⟩ := kd_str h1; obtain ⟨b, rfl⟩ := kd_int h2; obtain ⟨n1, f1, c, rfl⟩ := kd_sl h3
  exact ⟨(⟨a, b, c⟩ : Evt), ⟨hw (.sc (.str a)) (by simp), wfI_of (hw (.sc (.int .i64 b)) (by simp)), hw (.sl n1 f1 .val c) (by simp)⟩, rfl⟩
 | .pred, ds, _, h, hw => by
  obtain ⟨d1, r1, rfl, h1, h⟩ := map_cons h; obtain ⟨d2, r2, rfl, h2, h⟩ := map_cons h
  obtain rfl := map_nil h
  obtain ⟨a, rfl⟩ := kd_str h1; obtain ⟨n1, f1, c, rfl⟩ := kd_sl h2
  exact ⟨(⟨a, c⟩ : Pred), ⟨hw (.sc (.str a)) (by simp), hw (.sl n1 f1 .op c) (by simp)⟩, rfl⟩
 | .query, ds, _, h, hw => by
  obtain ⟨d1, r1, rfl, h1, h⟩ := map_cons h; obtain ⟨d2, r2, rfl, h2, h⟩ := map_cons h; obtain ⟨d3, r3, rfl, h3, h⟩ := map_cons h; obtain ⟨d4, r4, rfl, h4, h⟩ := map_cons h; obtain ⟨d5, r5, rfl, h5, h⟩ := map_cons h
  obtain rfl := map_nil h
  obtain ⟨n1, f1, a, rfl⟩ := kd_sl h1; obtain ⟨b, rfl⟩ := kd_int h2; obtain ⟨c, rfl⟩ := kd_int h3; obtain ⟨d, rfl⟩ := kd_int h4; obtain ⟨e, rfl⟩ := kd_int h5
  exact ⟨(⟨a, b, c, d, e⟩ : Query), ⟨hw (.sl n1 f1 .step a) (by simp), wfI_of (hw (.sc (.int .i64 b)) (by simp)), wfI_of (hw (.sc (.int .i64 c)) (by simp)), wfI_of (hw (.sc (.int .i64 d)) (by simp)), wfI_of (hw (.sc (.int .i64 e)) (by simp))⟩, rfl⟩
 | .int, ds, _, h, hw => by
  obtain ⟨d1, r1, rfl, h1, h⟩ := map_cons h
  obtain rfl := map_nil h
  obtain ⟨a, rfl⟩ := kd_int h1
  exact ⟨(a : Int), wfI_of (hw (.sc (.int .i64 a)) (by simp)), rfl⟩
 | .bool, ds, _, h, hw => by
  obtain ⟨d1, r1, rfl, h1, h⟩ := map_cons h
  obtain rfl := map_nil h
  obtain ⟨a, rfl⟩ := kd_bool h1
  exact ⟨(a : Bool), trivial, rfl⟩
 | .thing, ds, ht, _, _ => absurd rfl ht

def opFs (P : Program) (rec : TypeId → List D → Bool) : List Field → Nat → List D → Bool
 | [], _, z => z.isEmpty
 | f :: fs, off, z => f.offset == off && decide (P.cellsOf f.type ≤ z.length) && rec f.type (z.take (P.cellsOf f.type)) && opFs P rec fs (off + P.cellsOf f.type) (z.drop (P.cellsOf f.type))
def opC (P : Program) : Nat → TypeId → List D → Bool
 | 0, _, _ => false
 | d + 1, T, z => match P.underlying T, z with
  | some (.int k), [.sc (.int k' _)] => decide (k = k')
  | some .bool, [.sc (.bool _)] => true
  | some .string, [.sc (.str _)] => true
  | some (.slice e), [.sl _ _ t _] => P.cellsOf e == width t && decide (t ≠ .thing) && opC P d e (enc t (dflt t))
  | some (.struct fs), z => P.cellsOf T == z.length && opFs P (opC P d) fs.toList 0 z
  | _, _ => false

section
variable {H : Type} {enc' : TypeId × Value → H} {P : Program} {cx : Cx} {w : World} {sp : Nat → Bool} {held : Bool}

abbrev RDs (cx : Cx) (w : World) (ds : List D) (cs : List Value) : Prop := cs.length = ds.length ∧ ∀ j, j < ds.length → RD cx (fun _ => True) w (ds.getD j .nils) (cs.getD j undef)

theorem exists_list {α : Type} {p : Nat → α → Prop} : ∀ (n : Nat), (∀ i, i < n → ∃ x, p i x) → ∃ l : List α, l.length = n ∧ ∀ i (d : α), i < n → p i (l.getD i d)
 | 0, _ => ⟨[], rfl, fun i _ h => by omega⟩
 | n + 1, h => by
  obtain ⟨l, h1, h2⟩ := exists_list n (fun i hi => h i (by omega))
  obtain ⟨x, hx⟩ := h n (by omega)
  refine ⟨l ++ [x], by simp [h1], fun i d hi => ?_⟩
  by_cases hin : i < n
  ·rw [List.getD_eq_getElem?_getD, List.getElem?_append_left (by omega), ← List.getD_eq_getElem?_getD]; exact h2 i d hin
  ·have : i = n := by omega
   subst this
   rw [List.getD_eq_getElem?_getD, List.getElem?_append_right (by omega), h1]
   simpa using hx

theorem mapM_at {α β : Type} {f : α → Option β} : ∀ {l : List α} {r : List β}, l.mapM f = some r → r.length = l.length ∧ ∀ i (h : i < l.length), ∃ y, f l[i] = some y
 | [], r, h => by
  simp at h; subst h; exact ⟨rfl, fun i hi => by simp at hi⟩
 | x :: l, r, h => by
  rw [List.mapM_cons] at h
  cases hx : f x with
  | none => rw [hx] at h; cases h
  | some y =>
   rw [hx] at h
   cases hl : l.mapM f with
   | none => rw [hl] at h; cases h
   | some ys =>
    rw [hl] at h
    obtain ⟨h1, h2⟩ := mapM_at hl
    injection h with h; subst h
    refine ⟨by simp [h1], fun i hi => ?_⟩
    cases i with
    | zero => exact ⟨y, hx⟩
    | succ i => exact h2 i (by simpa using hi)

theorem RDs_append {d1 d2 : List D} {c1 c2 : List Value} (h1 : RDs cx w d1 c1) (h2 : RDs cx w d2 c2) : RDs cx w (d1 ++ d2) (c1 ++ c2) := by
 refine ⟨by simp [h1.1, h2.1], fun j hj => ?_⟩
 by_cases hj1 : j < d1.length
 ·rw [List.getD_eq_getElem?_getD, List.getD_eq_getElem?_getD, List.getElem?_append_left hj1, List.getElem?_append_left (by rw [h1.1]; exact hj1), ← List.getD_eq_getElem?_getD, ← List.getD_eq_getElem?_getD]
  exact h1.2 j hj1
 ·rw [List.getD_eq_getElem?_getD, List.getD_eq_getElem?_getD, List.getElem?_append_right (by omega), List.getElem?_append_right (by rw [h1.1]; omega), ← List.getD_eq_getElem?_getD, ← List.getD_eq_getElem?_getD, h1.1]
  exact h2.2 _ (by simp at hj; omega)

theorem open_fs {rec : TypeId → List D → Bool} {fuel : Nat}
    (hrec : ∀ T z cs x, rec T z = true → DataW.trod enc' P w 0 sp held fuel T cs = some x → ∃ ds : List D, ds.map kd = z.map kd ∧ (∀ d ∈ ds, wfD d) ∧ (∀ d ∈ ds, flagsD d) ∧ RDs cx w ds cs) :
    ∀ (fs : List Field) (off : Nat) (z : List D) (cs : List Value), opFs P rec fs off z = true → cs.length = off + z.length →
     (∀ f ∈ fs, ∃ x, DataW.trod enc' P w 0 sp held fuel f.type ((cs.drop f.offset).take (P.cellsOf f.type)) = some x) →
     ∃ ds : List D, ds.map kd = z.map kd ∧ (∀ d ∈ ds, wfD d) ∧ (∀ d ∈ ds, flagsD d) ∧ RDs cx w ds (cs.drop off)
 | [], off, z, cs, h, hl, _ => by
  simp only [opFs, List.isEmpty_iff] at h
  subst h
  simp only [List.length_nil, Nat.add_zero] at hl
  exact ⟨[], rfl, (by intro d hd; cases hd), (by intro d hd; cases hd), by rw [List.drop_eq_nil_of_le (by omega)]; rfl, fun j hj => by simp at hj⟩
 | f :: fs, off, z, cs, h, hl, hm => by
  simp only [opFs, Bool.and_eq_true, beq_iff_eq, decide_eq_true_eq] at h
  obtain ⟨⟨⟨ho, hle⟩, h1⟩, h2⟩ := h
  obtain ⟨y, hx⟩ := hm f List.mem_cons_self
  obtain ⟨d1, k1, w1, g1, r1⟩ := hrec _ _ _ _ h1 hx
  obtain ⟨d2, k2, w2, g2, r2⟩ := open_fs hrec fs (off + P.cellsOf f.type) (z.drop (P.cellsOf f.type)) cs h2 (by rw [List.length_drop]; omega) (fun f hf => hm f (List.mem_cons_of_mem _ hf))
  refine ⟨d1 ++ d2, ?_, fun d hd => (List.mem_append.1 hd).elim (w1 d) (w2 d), fun d hd => (List.mem_append.1 hd).elim (g1 d) (g2 d), ?_⟩
  ·rw [List.map_append, k1, k2, ← List.map_append, List.take_append_drop]
  ·have := RDs_append r1 r2
   rw [ho] at this
   rw [← List.drop_drop, List.take_append_drop] at this
   exact this

theorem add_none {a : Addr} (h : a.spot = none) (n : Nat) : a.add n = ⟨a.block, a.off + n, none⟩ := by
 unfold Addr.add
 split
 ·rename_i e; subst e; cases a; simp at h; subst h; rfl
 ·rfl

theorem map_getD_kd {ds : List D} (j : Nat) : (ds.map weak).getD j .nils = weak (ds.getD j .nils) := by
 rw [List.getD_eq_getElem?_getD, List.getElem?_map, List.getD_eq_getElem?_getD]
 cases ds[j]? <;> rfl

theorem open_ty : ∀ (d fuel : Nat) (T : TypeId) (z : List D) (cs : List Value) (x : DataW H × List MemPlace), opC P d T z = true → DataW.trod enc' P w 0 sp held fuel T cs = some x →
    ∃ ds : List D, ds.map kd = z.map kd ∧ (∀ d ∈ ds, wfD d) ∧ (∀ d ∈ ds, flagsD d) ∧ RDs cx w ds cs
 | 0, _, _, _, _, _, h, _ => by cases h
 | d + 1, 0, _, _, _, _, _, ht => by cases ht
 | d + 1, fuel + 1, T, z, cs, x, h, ht => by
  have one : ∀ (y : D) (v : Value), RD cx (fun _ => True) w y v → RDs cx w [y] [v] := fun y v hy => ⟨rfl, fun j hj => by
   have : j = 0 := by simp at hj; omega
   subst this; exact hy⟩
  unfold opC at h
  split at h
  ·rename_i k k' n hu
   simp only [decide_eq_true_eq] at h; subst h
   obtain ⟨m, rfl, _, hw⟩ := DataW.trod_int hu ht
   exact ⟨[.sc (.int k m)], rfl, by simpa [wfD] using hw, by simp [flagsD], one _ _ (.sc (.int k m))⟩
  ·rename_i b hu
   obtain ⟨b', rfl, _⟩ := DataW.trod_bool hu ht
   exact ⟨[.sc (.bool b')], rfl, by simp [wfD], by simp [flagsD], one _ _ (.sc (.bool b'))⟩
  ·rename_i s hu
   obtain ⟨s', rfl, _, hw⟩ := DataW.trod_string hu ht
   exact ⟨[.sc (.str s')], rfl, by simpa [wfD, wfS] using hw, by simp [flagsD], one _ _ (.sc (.str s'))⟩
  ·rename_i e nl full t l hu
   simp only [Bool.and_eq_true, beq_iff_eq, decide_eq_true_eq] at h
   obtain ⟨⟨hce, hne⟩, hrec⟩ := h
   rcases DataW.trod_slice hu ht with ⟨rfl, _⟩ | ⟨a, len, cap, es, rest, n, hfu, rfl, _, _, hlc, hcm, hel, hat', _⟩
   ·exact ⟨[.sl (some true) false t []], rfl, by simp [wfD, wfL], by simp [flagsD], one _ _ (.sl0 _ _ _ _ _ (fun _ => rfl) (fun h => by cases h) (fun h => by cases h) (fun _ => rfl))⟩
   ·injection hfu with hfu; subst hfu
    have hat : ∀ i, i < len → ∃ y, (w.cells? 0 (a.add (i * P.cellsOf e)) (P.cellsOf e)).bind (DataW.trod enc' P w 0 sp held fuel e) = some y := fun i hi => by
     rw [hat' i hi]; exact ⟨es[i], List.getElem?_eq_getElem (by omega)⟩
    clear ht hat'
    by_cases hlen : len = 0
    ·subst hlen
     exact ⟨[.sl (some false) false t []], rfl, by simp [wfD, wfL], by simp [flagsD], one _ _ (.sl0 _ _ _ _ _ (fun h => by cases h) (fun _ h => by cases h) (fun h => by cases h) (fun h => by cases h))⟩
    ·have spot : a.spot = none := by
       obtain ⟨y, hy⟩ := hat 0 (by omega)
       simp only [Nat.zero_mul] at hy
       cases hc : w.cells? 0 (a.add 0) (P.cellsOf e) with
       | none => rw [hc] at hy; cases hy
       | some row =>
        unfold World.cells? at hc
        rw [if_pos (Nat.zero_le _)] at hc
        obtain ⟨_, hc2⟩ := mapM_at hc
        obtain ⟨v, hv⟩ := hc2 0 (by have := width_pos t; simp; omega)
        simp only [List.getElem_range, Addr.add, if_true] at hv
        unfold World.cell? at hv
        split at hv
        ·split at hv
         ·cases hv
         ·rename_i hs; simpa using hs
        ·cases hv
     have key : ∀ i, i < len → ∃ y : Ty t × List Value, wfTy t y.1 ∧ y.2.length = width t ∧ (∀ j, j < width t → w.cell? ⟨a.block, a.off + (i * width t + j), none⟩ = some (y.2.getD j undef)) ∧ ∀ j, j < width t → RD cx (fun _ => True) w ((enc t y.1).getD j .nils) (y.2.getD j undef) := fun i hi => by
      obtain ⟨y, hy⟩ := hat i hi
      cases hc : w.cells? 0 (a.add (i * P.cellsOf e)) (P.cellsOf e) with
      | none => rw [hc] at hy; cases hy
      | some row =>
       rw [hc] at hy
       obtain ⟨ds, k1, k2, _, k3⟩ := open_ty d fuel e _ row y hrec hy
       obtain ⟨v, v1, v2⟩ := el_of t ds hne k1 k2
       have hdl : ds.length = width t := by
        have := congrArg List.length k1
        simpa [enc_length] using this
       unfold World.cells? at hc
       rw [if_pos (Nat.zero_le _)] at hc
       refine ⟨(v, row), v1, by rw [k3.1, hdl], fun j hj => ?_, fun j hj => ?_⟩
       ·have hcell : ∀ (l : List Nat) (row : List Value), (l.mapM fun i_1 => w.cell? ((a.add (i * P.cellsOf e)).add i_1)) = some row → ∀ j (h : j < l.length), w.cell? ((a.add (i * P.cellsOf e)).add l[j]) = some (row.getD j undef) := by
          intro l
          induction l with
          | nil => intro row _ j h; simp at h
          | cons q l ih =>
           intro row hm j hj
           rw [List.mapM_cons] at hm
           cases hq : w.cell? ((a.add (i * P.cellsOf e)).add q) with
           | none => rw [hq] at hm; cases hm
           | some v0 =>
            rw [hq] at hm
            cases hl : l.mapM fun i_1 => w.cell? ((a.add (i * P.cellsOf e)).add i_1) with
            | none => rw [hl] at hm; cases hm
            | some vs =>
             rw [hl] at hm
             injection hm with hm; subst hm
             cases j with
             | zero => simpa using hq
             | succ j => simpa using ih vs hl j (by simpa using hj)
        have := hcell _ _ hc j (by simp; omega)
        simp only [List.getElem_range] at this
        rw [add_none spot, add_none rfl, hce, Nat.add_assoc] at this
        exact this
       ·show RD cx _ w ((enc t v).getD j .nils) _
        rw [v2, map_getD_kd]
        exact (k3.2 j (by omega)).weak
     obtain ⟨ys, y1, y2⟩ := exists_list len key
     refine ⟨[.sl (some false) false t (ys.map (·.1))], rfl, ?_, by simp [flagsD], one _ _ ?_⟩
     ·intro dd hd
      simp only [List.mem_singleton] at hd
      subst hd
      refine ⟨by simp [y1]; omega, fun q hq => ?_⟩
      obtain ⟨y, hy, rfl⟩ := List.mem_map.1 hq
      obtain ⟨i, hi, rfl⟩ := List.getElem_of_mem hy
      have := (y2 i (dflt t, []) (by omega)).1
      rw [List.getD_eq_getElem?_getD, List.getElem?_eq_getElem hi] at this
      exact this
     ·have hl2 : (ys.map (·.1)).length = len := by simp [y1]
      have e1 : (Value.slice (some a) len cap) = .slice (some ⟨a.block, a.off, none⟩) (ys.map (·.1)).length cap := by
       rw [hl2]
       cases a with | mk b o s => simp at spot; subst spot; rfl
      rw [e1]
      refine RD.sl (ok := fun _ => True) (some false) false t (ys.map (·.1)) a.block a.off cap (fun i j => (ys.getD i (dflt t, [])).2.getD j undef) ?_ trivial (by omega) (fun h => by cases h) (fun h => by cases h) (fun i j hi hj => ?_) (fun i j hi hj => ?_)
      ·intro h
       rw [h] at hl2; simp at hl2; omega
      ·exact (y2 i (dflt t, []) (by omega)).2.2.1 j hj
      ·have e2 : (ys.map (·.1)).getD i (dflt t) = (ys.getD i (dflt t, [])).1 := by
         rw [List.getD_eq_getElem?_getD, List.getElem?_map, List.getD_eq_getElem?_getD]
         cases ys[i]? <;> rfl
       unfold cellAt
       rw [e2]
       exact (y2 i (dflt t, []) (by omega)).2.2.2 j hj
  ·rename_i fs hu
   simp only [Bool.and_eq_true, beq_iff_eq] at h
   obtain ⟨xs, n, hfu, _, hcl, hxl, hat⟩ := DataW.trod_struct hu ht
   injection hfu with hfu; subst hfu
   have := open_fs (cx := cx) (fun T z cs x h1 h2 => open_ty d fuel T z cs x h1 h2) fs.toList 0 _ cs h.2 (by omega) (fun f hf => by
    obtain ⟨i, hi, rfl⟩ := List.getElem_of_mem hf
    have hi' : i < fs.size := by simpa using hi
    have := hat i fs.toList[i] (by simp)
    rw [this]
    exact ⟨xs[i], List.getElem?_eq_getElem (by omega)⟩)
   simpa using this
  ·cases h
termination_by d => d
end
end Go.Eng
/- What closes a law's row: a function of which it is known that it hands back true, whatever data it is called with. -/
set_option linter.unusedVariables false
set_option linter.unusedSimpArgs false
namespace Go.Eng
open Go Go.RowKit

abbrev Shape := Bool × List D
def Fit1 (s : Shape) (a : DArg) : Prop := a.1 = s.1 ∧ a.2.map kd = s.2.map kd ∧ (∀ d ∈ a.2, wfD d) ∧ ∀ d ∈ a.2, flagsD d
def Fits : List Shape → List DArg → Prop
 | [], [] => True
 | s :: ss, a :: as => Fit1 s a ∧ Fits ss as
 | _, _ => False
theorem fits_cons {s : Shape} {ss : List Shape} {das : List DArg} (h : Fits (s :: ss) das) : ∃ a as, das = a :: as ∧ Fit1 s a ∧ Fits ss as := by
 cases das with
 | nil => exact h.elim
 | cons a as => exact ⟨a, as, rfl, h.1, h.2⟩
theorem fits_nil {das : List DArg} (h : Fits [] das) : das = [] := by
 cases das with
 | nil => rfl
 | cons a as => exact h.elim

section
variable {H : Type} {enc : TypeId × Value → H} {P : Program} {cx : Cx} {W : World}

theorem cells_one {r : Reach} {b : Nat} {t : TypeId} {v : Value} (hv : Value.okWide P W r b t v) {d : Nat} {z : List D} (ho : opC P d t z = true) (hs : ∀ fs, P.underlying t ≠ some (.struct fs)) : v.cells = #[v] ∧ z.length = 1 := by
 cases d with
 | zero => cases ho
 | succ d =>
  unfold opC at ho
  unfold Value.okWide at hv
  split at ho
  ·rename_i k k' n hu
   rw [hu] at hv
   simp only [Cell.okWide, hu, Cell.ok] at hv
   refine ⟨?_, rfl⟩
   cases v <;> first | rfl | exact absurd hv (by simp)
  ·rename_i b hu
   rw [hu] at hv
   simp only [Cell.okWide, hu, Cell.ok] at hv
   refine ⟨?_, rfl⟩
   cases v <;> first | rfl | exact absurd hv (by simp)
  ·rename_i s hu
   rw [hu] at hv
   simp only [Cell.okWide, hu, Cell.ok] at hv
   refine ⟨?_, rfl⟩
   cases v <;> first | rfl | exact absurd hv (by simp)
  ·rename_i e nl full t' l hu
   rw [hu] at hv
   simp only [Cell.okWide, hu, Cell.ok] at hv
   refine ⟨?_, rfl⟩
   cases v <;> first | rfl | exact absurd hv (by simp)
  ·rename_i fs hu; exact absurd hu (hs fs)
  ·cases ho

structure IsLaw (s : ChangeSpec) (n : Nat) : Prop where
 vars : s.vars = []
 fn : ∀ (H : Type) (ds : List (DataW H)), ds.length = n → s.fn H ds = { results := [.lit (.bool true)], args := ds }

theorem trodAll_stay (hl : laidOutB P = true) {W W' : World} (hb : Below W.heap.size W W') : ∀ {ts : List TypeId} {vs : List Value} {ds : List (DataW H)} {ps : List MemPlace} {sp : Nat → Bool},
    (∀ t ∈ ts, P.readableRec t = true ∧ t < P.types.size) → DataW.TrodAll enc P W 0 (fun _ => true) true ts vs ds ps → (∀ p ∈ ps, p.block < W.heap.size) → (∀ p ∈ ps, sp p.block = true) → DataW.TrodAll enc P W' 0 sp true ts vs ds ps
 | [], [], [], _, _, _, h, _, _ => h
 | [], [], _ :: _, _, _, _, h, _, _ => h.elim
 | [], _ :: _, _, _, _, _, h, _, _ => h.elim
 | _ :: _, [], _, _, _, _, h, _, _ => h.elim
 | _ :: _, _ :: _, [], _, _, _, h, _, _ => h.elim
 | t :: ts, v :: vs, d :: ds, ps, sp, hr, h, hlt, hsp => by
  obtain ⟨p, q, h1, h2, e⟩ := h
  subst e
  refine ⟨p, q, WideElems.Trod_stays hl (hr t List.mem_cons_self).1 (hr t List.mem_cons_self).2 h1 (fun x hx => hb.same (hlt x (List.mem_append.2 (.inl hx)))) (fun x hx => hsp x (List.mem_append.2 (.inl hx))), ?_, rfl⟩
  exact trodAll_stay hl hb (fun t ht => hr t (List.mem_cons_of_mem _ ht)) h2 (fun x hx => hlt x (List.mem_append.2 (.inr hx))) (fun x hx => hsp x (List.mem_append.2 (.inr hx)))

end
end Go.Eng
/- A nil slice that is handed out stands for a row of the call's own that has no elements; what is alike for a nil slice and for one that is not. -/
set_option linter.unusedVariables false
set_option linter.unusedSimpArgs false
namespace Go.Eng
open Go Go.RowKit

def promA (T : TypeId) (rs : List Arg) (h : Heap) : List Arg × Heap := match rs with
 | (false, [.d (.sl _ true t [])]) :: r => ((false, [.own h.length t false 0 0]) :: r, h ++ [some (.arr T t [])])
 | rs => (rs, h)
def promO (own : Option TypeId) (rs : List Arg) (h : Heap) : List Arg × Heap := match own with
 | some T => promA T rs h
 | none => (rs, h)

def evR2 {R : Type} (cx : Cx) (hd : Hd R) (fail : R) (fn : Func) (f : FuncId) (own : Option TypeId) (as : List DArg) (K : Ret → R) : R :=
 evFun cx hd fail fn f (liftA as) [] fun rs h => match retOf own.isSome (promO own rs h).1 (promO own rs h).2 with
  | some r => cond r.ok (K ⟨true, r.row, r.vals⟩) fail
  | none => fail

section
variable {P : Program} {cx : Cx} {ok : Nat → Prop} {w0 : World} {ρ : Rho} {w : World} {h : Heap}

theorem prom_hv (T : TypeId) (t : ET) (hi : HInv cx ok w0 ρ h w) : HInv cx ok w0 ρ (h ++ [some (.arr T t [])]) w ∧ ∀ k, okc ok w0.heap.size h ρ k ↔ okc ok w0.heap.size (h ++ [some (.arr T t [])]) ρ k := by
 have h0 : Inv cx ok w0 ρ ⟨[], h, 0⟩ { tmps := #[], defers := [] } w := ⟨rfl, fun t ht => by simp at ht, hi.heap, hi.inj, hi.own, hi.fresh, hi.below⟩
 obtain ⟨h1, h2⟩ := turns_push T t ok w0 ρ _ w h0
 exact ⟨h1.hv, h2⟩
theorem HInv.lt' (hi : HInv cx ok w0 ρ h w) : ∀ n b, ρ n = some b → b < w.heap.size := fun n b e => (hi.own n b e).2

theorem prom_rv (T : TypeId) (hi : HInv cx ok w0 ρ h w) {rs : List Arg} {x : Value} (hr : RV cx ρ (okc ok w0.heap.size h ρ) w (valOf rs) x) :
    HInv cx ok w0 ρ (promA T rs h).2 w ∧ (∀ k, okc ok w0.heap.size h ρ k ↔ okc ok w0.heap.size (promA T rs h).2 ρ k) ∧ RV cx ρ (okc ok w0.heap.size (promA T rs h).2 ρ) w (valOf (promA T rs h).1) x := by
 unfold promA
 split
 ·rename_i nl t r
  obtain ⟨h1, h2⟩ := prom_hv (cx := cx) T t hi
  refine ⟨h1, h2, ?_⟩
  have hx : ∀ N, Ext N (okc ok w0.heap.size h ρ) (okc ok w0.heap.size (h ++ [some (.arr T t [])]) ρ) ρ ρ w w := fun N => ⟨fun _ _ _ e => e, fun _ _ _ => rfl, fun k _ hk => (h2 k).1 hk, fun _ _ => rfl, Nat.le_refl _⟩
  have key : ∀ v, RA cx ρ (okc ok w0.heap.size h ρ) w (false, [.d (.sl nl true t [])]) v → RA cx ρ (okc ok w0.heap.size (h ++ [some (.arr T t [])]) ρ) w (false, [.own h.length t false 0 0]) v := fun v hv => by
   obtain ⟨c, hc, hd⟩ := hv
   simp only [List.cons.injEq, and_true] at hc
   subst hc
   have hd : RD cx (okc ok w0.heap.size h ρ) w (.sl nl true t []) v := hd
   refine ⟨_, rfl, ?_⟩
   cases hd with
   | sl0 _ _ _ A cap q1 q2 q3 q4 => exact ⟨A, cap, rfl, Nat.zero_le _, (by intro h; cases h), fun hc => absurd (q3 rfl) hc⟩
   | sl _ _ _ _ b off cap vs q0 => exact absurd rfl q0
  match r, hr with
  | [], hr => exact key x hr
  | g :: r, hr =>
   obtain ⟨xs, e1, q1⟩ := hr
   refine ⟨xs, e1, q1.1, fun j hj => ?_⟩
   cases j with
   | zero => exact key _ (q1.2 0 (by simp))
   | succ j => exact Ext.all_A hx hi.lt' (q1.2 (j + 1) (by simpa using hj))
 ·exact ⟨hi, fun k => Iff.rfl, hr⟩
theorem promO_rv (own : Option TypeId) (hi : HInv cx ok w0 ρ h w) {rs : List Arg} {x : Value} (hr : RV cx ρ (okc ok w0.heap.size h ρ) w (valOf rs) x) :
    HInv cx ok w0 ρ (promO own rs h).2 w ∧ (∀ k, okc ok w0.heap.size h ρ k ↔ okc ok w0.heap.size (promO own rs h).2 ρ k) ∧ RV cx ρ (okc ok w0.heap.size (promO own rs h).2 ρ) w (valOf (promO own rs h).1) x := by
 cases own with
 | some T => exact prom_rv T hi hr
 | none => exact ⟨hi, fun k => Iff.rfl, hr⟩

theorem evR2_of {X : Type} {fn : Func} {f : FuncId} {own : Option TypeId} {das : List DArg} {K : Ret → Option X} {y : X} {rs : List Arg} {h' : Heap} (h1 : ClSem P cx fn f (liftA das) [] rs h')
    (h2 : (match (generalizing := false) retOf own.isSome (promO own rs h').1 (promO own rs h').2 with
     | some r => cond r.ok (K ⟨true, r.row, r.vals⟩) none
     | none => none) = some y) :
    ∃ r, K r = some y ∧ ∀ (hf : FnOk P f fn) (ok : Nat → Prop) (w : World) (xs : List Value) (hx : RAs cx (fun _ => none) ok w (liftA das) xs), Calls P f xs.toArray w (After cx ok w r) := by
 split at h2
 case h_2 => cases h2
 rename_i r0 hr0
 cases hok : r0.ok with
 | false => rw [hok] at h2; cases h2
 | true =>
 rw [hok] at h2
 refine ⟨_, h2, fun hf ok w xs hx => ?_⟩
 clear h2
 have h0 : HInv cx ok w (fun _ => none) [] w := ⟨fun n b hn => by simp [lk] at hn, fun n m b hn => by simp [lk] at hn, (by intro n b e; cases e), fun _ _ => rfl, Below.refl _ _⟩
 have hx' : RAs cx (fun _ => none) (okc ok w.heap.size [] (fun _ => none)) w (liftA das) xs := by
  refine hx.ext (N := 0) ⟨fun _ _ h => by omega, fun _ _ _ => rfl, fun k _ hk => ⟨.inl hk, fun n hn => by simp [lk] at hn⟩, fun _ _ => rfl, Nat.le_refl _⟩ (by intro n b e; cases e) (fun a ha c hc => ?_)
  simp only [liftA, List.mem_map] at ha
  obtain ⟨d, _, rfl⟩ := ha
  simp only [List.mem_map] at hc
  obtain ⟨y, _, rfl⟩ := hc
  trivial
 refine (h1.fn hf ok w (fun _ => none) w xs h0 hx').mono fun e w' ha => ?_
 obtain ⟨x, ρ', rfl, k1, k2, k3⟩ := ha
 obtain ⟨k2, _, k3⟩ := promO_rv own k2 k3
 generalize (promO own rs h').1 = rs2 at hr0 k3
 generalize (promO own rs h').2 = h3 at hr0 k2 k3
 unfold retOf at hr0
 split at hr0
 ·split at hr0
  ·rename_i vs p hv
   injection hr0 with hr0; subst hr0
   have hnone : ρ' h3.length = none := k2.fresh _ (Nat.le_refl _)
   refine ⟨x, none, rfl, k2.below, (by intro b e; cases e), trivial, fun nm => ?_⟩
   have := ret_vals k2 (n := h3.length) (by intro b e; rw [hnone] at e; cases e) hv hok k3 nm
   rw [hnone] at this
   exact this
  ·cases hr0
 ·rename_i n0 hn0
  split at hr0
  ·rename_i T t l vs p hk hv
   injection hr0 with hr0; subst hr0
   refine ⟨x, ρ' n0, rfl, k2.below, fun b e => k2.own n0 b e, ?_, fun nm => ret_vals k2 (fun _ _ => lkh hk) hv hok k3 nm⟩
   have hto : ∀ k, okc ok w.heap.size h3 ρ' k → okR ok w (ρ' n0) k := fun k hk' => ⟨hk'.1, hk'.2 n0 (lkh hk)⟩
   show RB cx (one 0 (ρ' n0)) (okR ok w (ρ' n0)) w' 0 (.arr T t l)
   rcases k2.heap n0 _ hk with ⟨q1, q2⟩ | ⟨b, us, q1, q2, q3, q4⟩
   ·exact .inl ⟨q1, by simp [one, q2]⟩
   ·exact .inr ⟨b, us, by simp [one, q1], q2, q3, fun i j hi hj => (q4 i j hi hj).ext (fun _ _ _ => rfl) (fun k _ => hto k) (Nat.le_refl _)⟩
  ·cases hr0

theorem evR2_adq {X : Type} {m : Bool} {B : Code → Prop} {G : RF → Prop} {hd : Hd (Option X)} (hcx : CxOk P cx) (hga : GaOk P cx) (hH : HdOk P cx m hd B G) {fn : Func} {f : FuncId} {own : Option TypeId} {das : List DArg} {K : Ret → Option X} {y : X} (hB : ∀ c, fn.body = some c → (∀ p ∈ loopsOf c, B p) ∧ ∀ q ∈ rfsOf c, G q) (he : evR2 cx hd none fn f own das K = some y) :
    ∃ r, K r = some y ∧ ∀ (hf : FnOk P f fn) (ok : Nat → Prop) (w : World) (xs : List Value) (hx : RAs cx (fun _ => none) ok w (liftA das) xs), Calls P f xs.toArray w (After cx ok w r) := by
 obtain ⟨rs, h', h1, h2⟩ := fun_adq hcx hga hH hB he
 exact evR2_of h1 h2

theorem ent_of_ev2 {m : Bool} {B : Code → Prop} {GG : RF → Prop} {hd : Hd (Option Ret)} (hcx : CxOk P cx) (hga : GaOk P cx) (hH : HdOk P cx m hd B GG) {fn : Func} {f : FuncId} (hf : FnOk P f fn) (hB : ∀ c, fn.body = some c → (∀ p ∈ loopsOf c, B p) ∧ ∀ q ∈ rfsOf c, GG q) {G : List DArg → Option Ret}
    (h : ∀ das r, G das = some r → r.ok = true → ∃ own b, evR2 cx hd none fn f own das some = some ⟨b, r.row, r.vals⟩) : EntOk P cx (fun xs => callFunc f xs.toArray) G := by
 intro das r hG hr ok w xs hx
 obtain ⟨own, b, he⟩ := h das r hG hr
 obtain ⟨r0, h0, h1⟩ := evR2_adq hcx hga hH hB he
 injection h0 with h0; subst h0
 exact ⟨f, xs.toArray, run_callFunc hf _, h1 hf ok w xs hx⟩
end

theorem stands3 {P : Program} {tab : List (Option TI)} {gas : List (Nat × Con)} {invs : List (String × Con)} {hints : List (Nat × Nat × Hint)} {inls : List (Nat × Func)} {L : Loops2} {n : Nat} (hcx : CxOk P (mkCx2 tab gas invs hints inls)) (h : Ready P tab gas invs inls)
    {fn : Func} {f : FuncId} (hf : FnOk P f fn) {Bs : List Code} (hB : loopsIn fn inls = Bs) (hL : ∀ b ∈ Bs, ∀ T, L (firstReg b) = some T → LoopOk P (mkCx2 tab gas invs hints inls) b T) {G : Con}
    (hG : ∀ das r, G das = some r → r.ok = true → ∃ own b, evR2 (mkCx2 tab gas invs hints inls) (hdI (mkCx2 tab gas invs hints inls) L inls none n) none fn f own das some = some ⟨b, r.row, r.vals⟩) : Stands P tab f G := by
 refine EntOk.tt (cx := mkCx2 tab gas invs hints inls) (cx' := mkCx tab [] [] []) rfl (ent_of_ev2 (B := fun b => b ∈ Bs) hcx h.gaOk (hdI_ok hcx h.gaOk rfB_none prB_none (fun p hp => ⟨h.inl p hp, fun c hc b hb => ?_⟩) (fun b T hb hT => hL b hb T hT) n) hf (fun c hc => ⟨fun p hp => ?_, fun _ _ => trivial⟩) hG)
 ·rw [← hB]
  refine List.mem_append.2 (.inr (List.mem_flatten.2 ⟨loopsOf c, ?_, hb⟩))
  refine List.mem_map.2 ⟨p, hp, ?_⟩
  rw [hc]
 ·rw [← hB]
  refine List.mem_append.2 (.inl ?_)
  rw [hc]; exact hp

def Ret.like (a b : Ret) : Prop := a.ok = b.ok ∧ a.row = b.row ∧ ∀ nm, nameVals nm a.vals = nameVals nm b.vals
theorem After.like {cx : Cx} {ok : Nat → Prop} {w : World} {a b : Ret} {e : Ending} {w' : World} (h : Ret.like a b) (ha : After cx ok w a e w') : After cx ok w b e w' := by
 obtain ⟨x, ob, h1, h2, h3, h4, h5⟩ := ha
 refine ⟨x, ob, h1, h2, h3, by rw [← h.2.1]; exact h4, fun nm => by rw [← h.2.2 nm]; exact h5 nm⟩

theorem nil_split {P : Program} {tab : List (Option TI)} {f : FuncId} {t : ET} {G1 G2 : Con} {r : List (Ty t) → Ret} (h1 : Stands P tab f G1) (h2 : Stands P tab f G2) {r0 : Ret} (e1 : G1 [(false, [.sl (some true) true t []])] = some r0) (e0 : Ret.like r0 (r [])) (e2 : ∀ l, G2 [(false, [.sl (some false) false t l])] = some (r l)) :
    Stands P tab f (fun das => match das with
     | [(false, [.sl _ _ t' l])] => if e : t' = t then some (r (e ▸ l)) else none
     | _ => none) := by
 intro das r0 hG hr ok w xs hx
 dsimp only at hG
 split at hG
 ·rename_i nl fl t' l
  split at hG
  ·rename_i e; subst e
   injection hG with hG; subst hG
   have hl : xs.length = 1 := hx.1
   match xs, hl, hx with
   | [v], _, hx =>
    obtain ⟨c, hc, hd⟩ := hx.2 0 (by simp [liftA])
    simp only [List.map_cons, List.map_nil, List.cons.injEq, and_true] at hc
    subst hc
    have hd : RD (mkCx tab [] [] []) ok w (.sl nl fl t' l) v := hd
    have mk : ∀ y : D, RD (mkCx tab [] [] []) ok w y v → RAs (mkCx tab [] [] []) (fun _ => none) ok w (liftA [(false, [y])]) [v] := fun y hy => ⟨rfl, fun j hj => by
     have : j = 0 := by simp [liftA] at hj; omega
     subst this; exact ⟨.d y, rfl, hy⟩⟩
    cases hd with
    | sl0 _ _ _ A cap q1 q2 q3 q4 =>
     cases A with
     | none =>
      have hcap := q4 rfl
      subst hcap
      obtain ⟨f', ys, k1, k2⟩ := h1 _ _ e1 (by rw [e0.1]; exact hr) ok w [_] (mk _ (.sl0 _ _ _ _ _ (fun _ => rfl) (fun h => by cases h) (fun _ => rfl) (fun _ => rfl)))
      exact ⟨f', ys, k1, k2.mono fun e w' ha => ha.like e0⟩
     | some a => exact h2 _ _ (e2 []) hr ok w [_] (mk _ (.sl0 _ _ _ _ _ (fun h => by cases h) (fun _ h => by cases h) (fun h => by cases h) (fun h => by cases h)))
    | sl _ _ _ _ b off cap vs q0 q1 q2 q3 q4 hc hr' =>
     exact h2 _ _ (e2 l) hr ok w [_] (mk _ (.sl _ _ _ _ b off cap vs q0 q1 q2 (fun h => by cases h) (fun h => by cases h) hc hr'))
  ·cases hG
 ·cases hG
end Go.Eng
/- Plain facts on rounds: a search through a list, a comparison of two lists. -/
set_option linter.unusedVariables false
set_option linter.unusedSimpArgs false
namespace Go.Eng
theorem Lp_idx {V α : Type} {r : V → Option (Option Nat × V)} (mk : Int → V) (l : List α) (p : α → Bool)
    (h1 : ∀ (i : Nat) (h : i < l.length), r (mk i) = if p l[i] = true then some (some 0, mk i) else some (none, mk ((i + 1 : Nat) : Int))) (h2 : r (mk l.length) = some (some 1, mk l.length)) :
    Lp r (mk 0) = match l.findIdx? p with
     | some j => some (0, mk j)
     | none => some (1, mk l.length) := by
 have key : ∀ (k i : Nat), i + k = l.length → Lp r (mk i) = match (l.drop i).findIdx? p with
     | some j => some (0, mk ((i + j : Nat) : Int))
     | none => some (1, mk l.length) := by
  intro k
  induction k with
  | zero =>
   intro i hi
   have e : l.drop i = [] := List.drop_eq_nil_of_le (by omega)
   have hi' : i = l.length := by omega
   rw [e, hi']
   exact Lp_exit h2
  | succ k ih =>
   intro i hi
   have hlt : i < l.length := by omega
   have hr := h1 i hlt
   rw [List.drop_eq_getElem_cons hlt, List.findIdx?_cons]
   cases hp : p l[i] with
   | true =>
    rw [hp, if_pos rfl] at hr
    simp only [if_true]
    rw [Lp_exit hr]
    rfl
   | false =>
    rw [hp, if_neg (by simp)] at hr
    rw [Lp_cont hr, ih (i + 1) (by omega)]
    simp only [Bool.false_eq_true, if_false]
    cases (l.drop (i + 1)).findIdx? p with
    | none => rfl
    | some j =>
     simp only [Option.map_some]
     congr 3
     omega
 have := key l.length 0 (by omega)
 simpa using this
theorem getD_of {α : Type} (l : List α) (i : Nat) (d : α) (h : i < l.length) : l.getD i d = l[i] := by
 rw [List.getD_eq_getElem?_getD, List.getElem?_eq_getElem h]; rfl
end Go.Eng
/- Plain facts: a tree all of whose ways end well; rounds that keep something. -/
set_option linter.unusedVariables false
set_option linter.unusedSimpArgs false
namespace Go.Eng
def DT.all {α : Type} (P : α → Prop) : DT α → Prop
 | .leaf a => P a
 | .fail => False
 | .br c x y => (c = true → DT.all P x) ∧ (c = false → DT.all P y)
theorem DT.all_leaf {α : Type} (P : α → Prop) (a : α) : DT.all P (.leaf a) = P a := rfl
theorem DT.all_fail {α : Type} (P : α → Prop) : DT.all P (.fail) = False := rfl
theorem DT.all_br {α : Type} (P : α → Prop) (c : Bool) (x y : DT α) : DT.all P (.br c x y) = ((c = true → DT.all P x) ∧ (c = false → DT.all P y)) := rfl
theorem DT.all_run {α : Type} {P : α → Prop} : ∀ {t : DT α}, t.all P → ∃ a, t.run = some a ∧ P a
 | .leaf a, h => ⟨a, rfl, h⟩
 | .fail, h => h.elim
 | .br true x y, h => DT.all_run (t := x) (h.1 rfl)
 | .br false x y, h => DT.all_run (t := y) (h.2 rfl)
theorem DT.all_is {α : Type} {P : α → Prop} {t : DT α} (h : t.all P) : t.run.isSome = true := by
 obtain ⟨a, h1, _⟩ := DT.all_run h
 rw [h1]; rfl
theorem DT.all_o {α : Type} [Inhabited α] {P : α → Prop} {t : DT α} (h : t.all P) : P (t.run.getD default) := by
 obtain ⟨a, h1, h2⟩ := DT.all_run h
 rw [h1]; exact h2
def Stp {V : Type} (I : V → Prop) (Q : Nat → V → Prop) (m : V → Nat) (k : Nat) : Option Nat × V → Prop
 | (none, v) => I v ∧ m v < k
 | (some j, v) => Q j v
theorem Stp_none {V : Type} (I : V → Prop) (Q : Nat → V → Prop) (m : V → Nat) (k : Nat) (v : V) : Stp I Q m k (none, v) = (I v ∧ m v < k) := rfl
theorem Stp_some {V : Type} (I : V → Prop) (Q : Nat → V → Prop) (m : V → Nat) (k j : Nat) (v : V) : Stp I Q m k (some j, v) = Q j v := rfl
theorem Lp_tot {V : Type} {r : V → Option (Option Nat × V)} (I : V → Prop) (Q : Nat → V → Prop) (m : V → Nat)
    (h : ∀ v, I v → ∃ x, r v = some x ∧ Stp I Q m (m v) x) : ∀ v, I v → ∃ j v', Lp r v = some (j, v') ∧ Q j v' := by
 intro v hv
 generalize hk : m v = k
 induction k using Nat.strongRecOn generalizing v with
 | _ k ih =>
  obtain ⟨⟨o, v'⟩, h1, h2⟩ := h v hv
  cases o with
  | none =>
   obtain ⟨h3, h4⟩ := h2
   obtain ⟨j, w, g1, g2⟩ := ih (m v') (by omega) v' h3 rfl
   exact ⟨j, w, by rw [Lp_cont h1, g1], g2⟩
  | some j => exact ⟨j, v', Lp_exit h1, h2⟩
theorem Lp_all {V : Type} {R : V → DT (Option Nat × V)} {r : V → Option (Option Nat × V)} (hr : ∀ v, r v = (R v).run) (I : V → Prop) (Q : Nat → V → Prop) (m : V → Nat)
    (h : ∀ v, I v → (R v).all (Stp I Q m (m v))) (v : V) (hv : I v) : ∃ j v', Lp r v = some (j, v') ∧ Q j v' :=
 Lp_tot I Q m (fun v hv => by rw [hr]; exact DT.all_run (h v hv)) v hv
theorem e_xeqI (a b : Int) : xeqI a b = decide (a = b) := by rw [Bool.eq_iff_iff]; simp [xeqI]
theorem e_xneI (a b : Int) : xneI a b = decide (a ≠ b) := by rw [Bool.eq_iff_iff]; simp [xneI]
theorem e_wrap {n : Int} (h1 : -9223372036854775808 ≤ n) (h2 : n ≤ 9223372036854775807) : IntKind.i64.wrap n = n := by rw [IntKind.wrap_i64]; omega
theorem e_wrap1 {n : Nat} (h2 : n ≤ 1048576) : IntKind.i64.wrap ((n : Int) + 1) = ((n + 1 : Nat) : Int) := by rw [e_wrap (by omega) (by omega)]; omega
theorem Lp_walk {V : Type} {r : V → Option (Option Nat × V)} (mk : Nat → V) (n e : Nat) (h1 : ∀ i, i < n → r (mk i) = some (none, mk (i + 1))) (h2 : r (mk n) = some (some e, mk n)) : Lp r (mk 0) = some (e, mk n) := by
 have key : ∀ k i, i + k = n → Lp r (mk i) = some (e, mk n) := by
  intro k
  induction k with
  | zero => intro i hi; have : i = n := by omega
            subst this; exact Lp_exit h2
  | succ k ih => intro i hi; rw [Lp_cont (h1 i (by omega))]; exact ih (i + 1) (by omega)
 exact key n 0 (by omega)
end Go.Eng
