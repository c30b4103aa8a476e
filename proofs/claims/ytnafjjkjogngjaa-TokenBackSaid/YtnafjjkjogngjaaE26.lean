/- The orders in which a drawn region's operations may go. -/
import Derived.Test.YtnafjjkjogngjaaE25
set_option linter.unusedVariables false
set_option linter.unusedSimpArgs false
namespace Go.Eng
open Go Go.RowKit

theorem pushes (f : Array Nat → Oper → Nat) : ∀ (l : List Oper) (acc : Array Nat),
    (∀ k, k < acc.size → (l.foldl (fun a o => a.push (f a o)) acc).getD k 0 = acc.getD k 0) ∧ (l.foldl (fun a o => a.push (f a o)) acc).size = acc.size + l.length ∧
      ∀ k o, l[k]? = some o → ∃ a : Array Nat, a.size = acc.size + k ∧ (∀ m, m < a.size → a.getD m 0 = (l.foldl (fun a o => a.push (f a o)) acc).getD m 0) ∧ (l.foldl (fun a o => a.push (f a o)) acc).getD (acc.size + k) 0 = f a o
  | [], acc => ⟨fun _ _ => rfl, rfl, fun k o h => by cases h⟩
  | x :: l, acc => by
    obtain ⟨h1, h2, h3⟩ := pushes f l (acc.push (f acc x))
    simp only [List.foldl_cons]
    have h0 : ∀ k, k < acc.size → (acc.push (f acc x)).getD k 0 = acc.getD k 0 := fun k hk => by
      simp [hk, Nat.lt_succ_of_lt hk, Array.getElem_push]
    refine ⟨fun k hk => (h1 k (by simp; omega)).trans (h0 k hk), by rw [h2]; simp; omega, fun k o hk => ?_⟩
    cases k with
    | zero =>
      simp only [List.getElem?_cons_zero, Option.some.injEq] at hk
      subst hk
      refine ⟨acc, rfl, fun m hm => ((h1 m (by simp; omega)).trans (h0 m hm)).symm, ?_⟩
      rw [Nat.add_zero, h1 acc.size (by simp)]
      simp
    | succ k =>
      obtain ⟨a, g1, g2, g3⟩ := h3 k o (by simpa using hk)
      refine ⟨a, by rw [g1]; simp; omega, g2, ?_⟩
      rw [← g3]; congr 1; simp; omega

theorem bits_fold (acc : Array Nat) : ∀ (es : List Edge) (s b : Nat), (es.foldl (fun s e => if Region.binds .any e then s ||| 2 ^ e.on ||| acc.getD e.on 0 else s) s).testBit b = true →
    s.testBit b = true ∨ ∃ e ∈ es, Region.binds .any e = true ∧ (b = e.on ∨ (acc.getD e.on 0).testBit b = true)
  | [], s, b, h => .inl h
  | e :: es, s, b, h => by
    simp only [List.foldl_cons] at h
    rcases bits_fold acc es _ b h with h1 | ⟨e', h2, h3⟩
    · by_cases hb : Region.binds .any e = true
      · rw [if_pos hb, Nat.testBit_or, Nat.testBit_or, Nat.testBit_two_pow] at h1
        simp only [Bool.or_eq_true, decide_eq_true_eq] at h1
        rcases h1 with (h1 | h1) | h1
        · exact .inl h1
        · exact .inr ⟨e, List.mem_cons_self, hb, .inl h1.symm⟩
        · exact .inr ⟨e, List.mem_cons_self, hb, .inr h1⟩
      · rw [if_neg hb] at h1; exact .inl h1
    · exact .inr ⟨e', List.mem_cons_of_mem _ h2, h3⟩

theorem before_bits {ops : Array Oper} {i b : Nat} {o : Oper} (ho : ops[i]? = some o) (hb : bit (Region.before ops) i b = true) :
    ∃ e ∈ o.after, Region.binds .any e = true ∧ (b = e.on ∨ (e.on < i ∧ bit (Region.before ops) e.on b = true)) := by
  unfold bit at hb
  unfold Region.before at hb ⊢
  rw [← Array.foldl_toList] at hb ⊢
  obtain ⟨_, _, h3⟩ := pushes (fun acc o => o.after.foldl (fun s e => if Region.binds .any e then s ||| 2 ^ e.on ||| acc.getD e.on 0 else s) 0) ops.toList #[]
  obtain ⟨a, g1, g2, g3⟩ := h3 i o (by simpa using ho)
  simp only [List.size_toArray, List.length_nil, Nat.zero_add] at g1 g3
  rw [g3, ← Array.foldl_toList] at hb
  rcases bits_fold a o.after.toList 0 b hb with h | ⟨e, he, hbe, h⟩
  · simp at h
  · refine ⟨e, Array.mem_toList_iff.1 he, hbe, ?_⟩
    rcases h with h | h
    · exact .inl h
    · right
      have hlt : e.on < i := by
        rcases Nat.lt_or_ge e.on i with h1 | h1
        · exact h1
        · have : a.getD e.on 0 = 0 := by simp [show ¬ e.on < a.size by omega]
          rw [this] at h; simp at h
      refine ⟨hlt, ?_⟩
      unfold bit
      rw [← g2 e.on (by omega)]
      exact h

section
variable {ops : Array Oper}

def Edges (ops : Array Oper) : Prop := ∀ i o, ops[i]? = some o → ∀ e ∈ o.after, Region.binds .any e = true → e.on < i

def Closed (ops : Array Oper) (listed : Array Bool) : Prop := ∀ a b, listed.getD a false = true → bit (Region.before ops) a b = true → listed.getD b false = true

theorem linearised (hE : Edges ops) : ∀ (fuel t : Nat) (listed : Array Bool), listed.size = ops.size → Closed ops listed → (List.range ops.size).countP (fun x => !listed.getD x true) ≤ fuel →
    (Region.linearise.go .any ops fuel t listed []).Nodup ∧ (∀ x, x ∈ Region.linearise.go .any ops fuel t listed [] ↔ x < ops.size ∧ listed.getD x true = false) ∧ Topo (Region.before ops) (Region.linearise.go .any ops fuel t listed [])
  | 0, t, listed, hn, hc, hf => by
    simp only [Region.linearise.go, List.reverse_nil]
    refine ⟨List.nodup_nil, fun x => ⟨(by intro h; cases h), fun ⟨h1, h2⟩ => ?_⟩, List.Pairwise.nil⟩
    have := List.countP_eq_zero.1 (Nat.le_zero.1 hf) x (List.mem_range.2 h1)
    rw [h2] at this; simp at this
  | fuel + 1, t, listed, hn, hc, hf => by
    simp only [Region.linearise.go]
    change (match (Region.ready .any ops listed)[t % (Region.ready .any ops listed).length]? with
      | some i => Region.linearise.go .any ops fuel (t / (Region.ready .any ops listed).length) (listed.setIfInBounds i true) [i]
      | none => [].reverse).Nodup ∧ _ ∧ _
    change _ ∧ (∀ x, x ∈ (match (Region.ready .any ops listed)[t % (Region.ready .any ops listed).length]? with
      | some i => Region.linearise.go .any ops fuel (t / (Region.ready .any ops listed).length) (listed.setIfInBounds i true) [i]
      | none => [].reverse) ↔ _) ∧ Topo _ (match (Region.ready .any ops listed)[t % (Region.ready .any ops listed).length]? with
      | some i => Region.linearise.go .any ops fuel (t / (Region.ready .any ops listed).length) (listed.setIfInBounds i true) [i]
      | none => [].reverse)
    cases hi : (Region.ready .any ops listed)[t % (Region.ready .any ops listed).length]? with
    | none =>
      have hnil : Region.ready .any ops listed = [] := by
        cases hr : Region.ready .any ops listed with
        | nil => rfl
        | cons x xs =>
          rw [hr] at hi
          have hlt : t % (x :: xs).length < (x :: xs).length := Nat.mod_lt _ (by simp)
          rw [List.getElem?_eq_getElem hlt] at hi
          cases hi
      have all : ∀ x, x < ops.size → listed.getD x true = true := by
        intro x
        induction x using Nat.strongRecOn with
        | _ x ih =>
          intro hx
          cases hl : listed.getD x true with
          | true => rfl
          | false =>
            have hrd : x ∈ Region.ready .any ops listed := mem_ready.2 ⟨hl, ops[x], Array.getElem?_eq_getElem hx, fun e he hb => by
              have hlt := hE x _ (Array.getElem?_eq_getElem hx) e he hb
              have := ih e.on hlt (by omega)
              have hlt2 : e.on < listed.size := by omega
              simpa [hlt2] using this⟩
            rw [hnil] at hrd; cases hrd
      refine ⟨List.nodup_nil, fun x => ⟨(by intro h; simp at h), fun ⟨h1, h2⟩ => ?_⟩, List.Pairwise.nil⟩
      rw [all x h1] at h2; cases h2
    | some i =>
      simp only []
      rw [linearise_go_acc, List.reverse_singleton, List.singleton_append]
      have hrd : i ∈ Region.ready .any ops listed := List.mem_of_getElem? hi
      obtain ⟨hun, o, ho, hall⟩ := mem_ready.1 hrd
      have hlt : i < ops.size := (Array.getElem?_eq_some_iff.1 ho).1
      have anc : ∀ b, bit (Region.before ops) i b = true → listed.getD b false = true := fun b hb => by
        obtain ⟨e, he, hbe, h | ⟨_, h⟩⟩ := before_bits ho hb
        · rw [h]; exact hall e he hbe
        · exact hc _ _ (hall e he hbe) h
      have hc' : Closed ops (listed.setIfInBounds i true) := fun a b ha hb => by
        by_cases h : a = i
        · subst h; exact getD_set_true (anc b hb)
        · rw [getD_set_ne false (Ne.symm h)] at ha
          exact getD_set_true (hc a b ha hb)
      have hcnt : (List.range ops.size).countP (fun x => !(listed.setIfInBounds i true).getD x true) ≤ fuel := by
        have hsplit : (List.range ops.size).countP (fun x => !(listed.setIfInBounds i true).getD x true) < (List.range ops.size).countP (fun x => !listed.getD x true) := by
          have key : ∀ l : List Nat, l.Nodup → i ∈ l → l.countP (fun x => !(listed.setIfInBounds i true).getD x true) < l.countP (fun x => !listed.getD x true) := by
            intro l
            induction l with
            | nil => intro _ h; cases h
            | cons x l ih =>
              intro hnd hmem
              have hnd' := List.nodup_cons.1 hnd
              have le : ∀ l : List Nat, l.countP (fun x => !(listed.setIfInBounds i true).getD x true) ≤ l.countP (fun x => !listed.getD x true) := fun l => by
                refine List.countP_mono_left (fun x _ hx => ?_)
                by_cases h : x = i
                · subst h; rw [hun]; rfl
                · rw [getD_set_ne true (Ne.symm h)] at hx; exact hx
              by_cases h : x = i
              · subst h
                rw [List.countP_cons_of_neg, List.countP_cons_of_pos]
                · exact Nat.lt_succ_of_le (le l)
                · rw [hun]; rfl
                · simp [show x < listed.size by omega]
              · have hm : i ∈ l := by
                  rcases List.mem_cons.1 hmem with h' | h'
                  · exact absurd h'.symm h
                  · exact h'
                have := ih hnd'.2 hm
                simp only [List.countP_cons, getD_set_ne true (Ne.symm h)]
                omega
          exact key _ List.nodup_range (List.mem_range.2 hlt)
        omega
      obtain ⟨k1, k2, k3⟩ := linearised hE fuel (t / (Region.ready .any ops listed).length) (listed.setIfInBounds i true) (by simpa using hn) hc' hcnt
      refine ⟨List.nodup_cons.2 ⟨fun h => ?_, k1⟩, fun x => ?_, List.pairwise_cons.2 ⟨fun x hx h => ?_, k3⟩⟩
      · have := ((k2 i).1 h).2
        simp [show i < listed.size by omega] at this
      · rw [List.mem_cons, k2 x]
        by_cases h : x = i
        · subst h; simp [hlt, hun]
        · rw [getD_set_ne true (Ne.symm h)]; simp [h]
      · have h1 := ((k2 x).1 hx).2
        have h2 := getD_set_true (i := i) (anc x h.2)
        have hlt2 : x < listed.size := by have := ((k2 x).1 hx).1; omega
        have : (listed.setIfInBounds i true).getD x true = (listed.setIfInBounds i true).getD x false := by simp [hlt2]
        rw [this, h2] at h1; cases h1

theorem orderOk_spec {bs : Array Nat} (h : orderOk ops bs = true) : Edges ops ∧ ∀ i j oi oj, ops[i]? = some oi → ops[j]? = some oj → i ≠ j → Free bs i j → oi.apart ops oj = true := by
  have one : ∀ j oj, ops[j]? = some oj → (∀ e ∈ oj.after, Region.binds .any e = true → e.on < j) ∧ ∀ i oi, ops[i]? = some oi → i < j → bit bs j i = false → oi.apart ops oj = true := fun j oj hj => by
    have hlt := (Array.getElem?_eq_some_iff.1 hj).1
    have h1 := List.all_eq_true.1 h j (List.mem_range.2 hlt)
    simp only [hj, Bool.and_eq_true, List.all_eq_true, Bool.or_eq_true, Bool.not_eq_true', decide_eq_true_eq] at h1
    refine ⟨fun e he hb => ?_, fun i oi hi hij hb => ?_⟩
    · rcases h1.1 e (Array.mem_toList_iff.2 he) with h2 | h2
      · rw [h2] at hb; cases hb
      · exact h2
    · rcases h1.2 i (List.mem_range.2 hij) with h2 | h2
      · unfold bit at hb; rw [h2] at hb; cases hb
      · rw [hi] at h2; exact h2
  refine ⟨fun i o ho => (one i o ho).1, fun i j oi oj hi hj hne hf => ?_⟩
  rcases Nat.lt_or_ge i j with h1 | h1
  · unfold Free at hf
    rw [Nat.max_eq_right (Nat.le_of_lt h1), Nat.min_eq_left (Nat.le_of_lt h1)] at hf
    exact (one j oj hj).2 i oi hi h1 hf
  · have h' : j < i := Nat.lt_of_le_of_ne h1 (Ne.symm hne)
    unfold Free at hf
    rw [Nat.max_eq_left h1, Nat.min_eq_right h1] at hf
    have := (one i oi hi).2 j oj hj h' hf
    unfold Oper.apart at this ⊢
    obtain ⟨a1, a2, a3⟩ := Oper.apart_spec (x := oj) (y := oi) (ops := ops) (by unfold Oper.apart; exact this)
    cases hdi : oi.dst <;> cases hdj : oj.dst <;> simp
    · exact a1 _ hdj
    · exact a3 _ hdi
    · rename_i d e
      exact ⟨⟨a3 _ hdi, fun he => a2 e hdj (by rw [hdi, he])⟩, a1 _ hdj⟩

theorem range_topo {bs : Array Nat} (hE : Edges ops) (hbs : bs = Region.before ops) : Topo bs (List.range ops.size) := by
  subst hbs
  refine List.Pairwise.imp (fun {a b} hab h => ?_) (List.pairwise_lt_range (n := ops.size))
  omega

/-- in whatever order -/
theorem drawn {cx : Cx} {cl : CL} {base : Nat} {st st' : St} {ns : List Note} (h : Exec cx cl ops base (List.range ops.size) st st' ns) (hn : notesOk (Region.before ops) ns = true) (ho : orderOk ops (Region.before ops) = true) (t : Nat) :
    ∃ ns', Exec cx cl ops base (Region.schedule true ops t) st st' ns' ∧ (∀ x, x ∈ Region.schedule true ops t ↔ x < ops.size) ∧ (Region.schedule true ops t).Nodup := by
  obtain ⟨hE, hA⟩ := orderOk_spec ho
  obtain ⟨k1, k2, k3⟩ := linearised hE ops.size t (Array.replicate ops.size false) (by simp) (fun a b ha _ => by
    by_cases h : a < ops.size <;> simp [h] at ha) (by refine Nat.le_trans List.countP_le_length ?_; simp)
  have hs : Region.schedule true ops t = Region.linearise.go .any ops ops.size t (Array.replicate ops.size false) [] := by simp [Region.schedule, Region.linearise]
  have hm : ∀ x, x ∈ Region.schedule true ops t ↔ x < ops.size := fun x => by
    rw [hs, k2 x]
    constructor
    · exact fun h => h.1
    · exact fun h => ⟨h, by simp [h]⟩
  obtain ⟨ns', q1, _⟩ := reorder (Region.schedule true ops t) (List.range ops.size) st st' ns h ⟨notes_sound ns hn, hA⟩ List.nodup_range (by rw [hs]; exact k1) (fun x => by rw [hm x, List.mem_range]) (range_topo hE rfl) (by rw [hs]; exact k3)
  exact ⟨ns', q1, hm, by rw [hs]; exact k1⟩
end
end Go.Eng
