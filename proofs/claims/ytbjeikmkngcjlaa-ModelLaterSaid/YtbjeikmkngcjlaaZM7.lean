/- All matches in plain words: by definition. -/
import Derived.Test.YtbjeikmkngcjlaaZM2
set_option linter.unusedVariables false
set_option linter.unusedSimpArgs false
namespace Go.Eng
open Go Go.Eng
def stepsL (H : HH) (q : Query) : List Evt → Run → Int → List Run × Run × Int
  | [], r, f => (if f = 0 then [r] else [], r, f)
  | e :: es, r, f => if f = 0 then (r :: (stepsL H q es (nextL H q r e).1 (nextL H q r e).2).1, (stepsL H q es (nextL H q r e).1 (nextL H q r e).2).2) else ([], r, f)
def evAt (l : List Evt) (i : Nat) : Evt := l.getD i default
def fromL (H : HH) (q : Query) (l : List Evt) (i : Nat) : List Run × Run × Int := stepsL H q (l.drop (i + 1)) (beginL H q (evAt l i) i).1 (beginL H q (evAt l i) i).2
def nRun (H : HH) (q : Query) (l : List Evt) (i : Nat) : Nat := (fromL H q l i).1.length
def matL (H : HH) (q : Query) (l : List Evt) (i : Nat) : Mat := ⟨i, i + (nRun H q l i : Nat), (fromL H q l i).2.1.agg, (fromL H q l i).2.1.bad⟩
def oneL (H : HH) (q : Query) (l : List Evt) (i : Nat) : Option Mat := if (fromL H q l i).2.2 = 2 then some (matL H q l i) else none
def liveB (H : HH) (q : Query) (l : List Evt) (e i : Nat) : Bool := decide (i ≤ e) && decide (e < i + nRun H q l i)
def nLive (H : HH) (q : Query) (l : List Evt) (e : Nat) : Nat := (List.range l.length).countP (liveB H q l e)
def overB (H : HH) (q : Query) (l : List Evt) (most : Int) (e : Nat) : Bool := decide (0 < nRun H q l e) && decide ((nLive H q l e : Int) > most)
def overL (H : HH) (q : Query) (l : List Evt) (most : Int) : Int := match (List.range l.length).find? (overB H q l most) with
  | some e => e
  | none => -1
def insL (x : Mat) : List Mat → List Mat
  | [] => [x]
  | y :: ys => if y.fin ≤ x.fin then y :: insL x ys else x :: y :: ys
def stab (l : List Mat) : List Mat := l.foldl (fun a x => insL x a) []
def onesL (H : HH) (q : Query) (l : List Evt) : List Mat := (List.range l.length).filterMap (oneL H q l)
def keptB (over : Int) (m : Mat) : Bool := decide (over < 0) || decide (m.fin ≤ over)
def allL (H : HH) (q : Query) (l : List Evt) (most : Int) : List Mat := stab ((onesL H q l).filter (keptB (overL H q l most)))

section
variable {H : HH} {q : Query}
theorem stepsL_stop (f : Int) (hf : f ≠ 0) (es : List Evt) (r : Run) : stepsL H q es r f = ([], r, f) := by
  cases es with
  | nil => simp [stepsL, hf]
  | cons e es => simp [stepsL, hf]
theorem stepsL_len : ∀ (es : List Evt) (r : Run) (f : Int), ((stepsL H q es r f).2.2 = 0 → (stepsL H q es r f).1.length = es.length + 1) ∧ ((stepsL H q es r f).2.2 ≠ 0 → (stepsL H q es r f).1.length ≤ es.length)
  | [], r, f => by
    by_cases h : f = 0
    · simp [stepsL, h]
    · simp [stepsL, h]
  | e :: es, r, f => by
    by_cases h : f = 0
    · have ih := stepsL_len es (nextL H q r e).1 (nextL H q r e).2
      simp only [stepsL, h, if_true, List.length_cons]
      exact ⟨fun h0 => by rw [ih.1 h0], fun h0 => by have := ih.2 h0; omega⟩
    · rw [stepsL_stop f h]; simp [h]
theorem stepsL_app : ∀ (a b : List Evt) (r : Run) (f : Int), ((stepsL H q a r f).2.2 ≠ 0 → stepsL H q (a ++ b) r f = stepsL H q a r f) ∧ ((stepsL H q a r f).2.2 = 0 → a.length + 1 ≤ (stepsL H q (a ++ b) r f).1.length)
  | [], b, r, f => by
    by_cases h : f = 0
    · refine ⟨fun h0 => absurd (by simp [stepsL, h]) h0, fun _ => ?_⟩
      subst h
      cases b with
      | nil => simp [stepsL]
      | cons e es => simp [stepsL]
    · rw [stepsL_stop f h, stepsL_stop f h]; simp [h]
  | e :: a, b, r, f => by
    by_cases h : f = 0
    · have ih := stepsL_app a b (nextL H q r e).1 (nextL H q r e).2
      subst h
      simp only [List.cons_append, stepsL, if_true, List.length_cons]
      exact ⟨fun h0 => by rw [ih.1 h0], fun h0 => by have := ih.2 h0; omega⟩
    · rw [stepsL_stop f h, stepsL_stop f h]; simp [h]
theorem nRun_le (l : List Evt) {i : Nat} (hi : i < l.length) : i + nRun H q l i ≤ l.length ∧ ((fromL H q l i).2.2 ≠ 0 → i + nRun H q l i < l.length) ∧ ((fromL H q l i).2.2 = 0 → i + nRun H q l i = l.length) := by
  have := stepsL_len (H := H) (q := q) (l.drop (i + 1)) (beginL H q (evAt l i) i).1 (beginL H q (evAt l i) i).2
  have hl : (l.drop (i + 1)).length = l.length - (i + 1) := List.length_drop
  rw [hl] at this
  unfold nRun fromL
  by_cases h : (stepsL H q (l.drop (i + 1)) (beginL H q (evAt l i) i).1 (beginL H q (evAt l i) i).2).2.2 = 0
  · have := this.1 h
    exact ⟨by omega, fun h0 => absurd h h0, fun _ => by omega⟩
  · have := this.2 h
    exact ⟨by omega, fun _ => by omega, fun h0 => absurd h0 h⟩
theorem from_take (l : List Evt) {k i : Nat} (hi : i < k) (hk : k ≤ l.length) : (fromL H q (l.take k) i = fromL H q l i ∧ i + nRun H q l i < k) ∨ ((fromL H q (l.take k) i).2.2 = 0 ∧ i + nRun H q (l.take k) i = k ∧ k ≤ i + nRun H q l i) := by
  have e1 : evAt (l.take k) i = evAt l i := by simp [evAt, List.getD_eq_getElem?_getD, List.getElem?_take, hi]
  have e2 : l.drop (i + 1) = (l.take k).drop (i + 1) ++ l.drop k := by
    rw [List.drop_take]
    have : l.drop k = (l.drop (i + 1)).drop (k - (i + 1)) := by rw [List.drop_drop]; congr 1; omega
    rw [this, List.take_append_drop]
  have hl : ((l.take k).drop (i + 1)).length = k - (i + 1) := by simp; omega
  have ha := stepsL_app (H := H) (q := q) ((l.take k).drop (i + 1)) (l.drop k) (beginL H q (evAt l i) i).1 (beginL H q (evAt l i) i).2
  have hn := nRun_le (H := H) (q := q) (l.take k) (i := i) (by simp; omega)
  have hlt : (l.take k).length = k := by simp; omega
  rw [hlt] at hn
  rw [← e2] at ha
  by_cases h : (fromL H q (l.take k) i).2.2 = 0
  · right
    refine ⟨h, hn.2.2 h, ?_⟩
    have h' := h
    unfold fromL at h'
    rw [e1] at h'
    have := ha.2 h'
    rw [hl] at this
    show k ≤ i + (fromL H q l i).1.length
    unfold fromL
    omega
  · left
    have h' := h
    unfold fromL at h'
    rw [e1] at h'
    have e3 : fromL H q (l.take k) i = fromL H q l i := by
      unfold fromL; rw [e1]; exact (ha.1 h').symm
    refine ⟨e3, ?_⟩
    have := hn.2.1 h
    unfold nRun at this ⊢
    rw [e3] at this; exact this
theorem oneL_some {l : List Evt} {i : Nat} {m : Mat} (h : oneL H q l i = some m) : m = matL H q l i ∧ (fromL H q l i).2.2 = 2 := by
  unfold oneL at h
  split at h
  · rename_i h2; injection h with h; exact ⟨h.symm, h2⟩
  · cases h
theorem oneL_take (l : List Evt) {k i : Nat} (hi : i < k) (hk : k ≤ l.length) : oneL H q (l.take k) i = if i + nRun H q l i < k then oneL H q l i else none := by
  rcases from_take (H := H) (q := q) l hi hk with ⟨h1, h2⟩ | ⟨h1, h2, h3⟩
  · rw [if_pos h2]; unfold oneL matL nRun; rw [h1]
  · rw [if_neg (by omega)]; unfold oneL; rw [if_neg (by rw [h1]; decide)]
theorem live_take (l : List Evt) {k e i : Nat} (he : e < k) (hk : k ≤ l.length) : liveB H q (l.take k) e i = liveB H q l e i := by
  unfold liveB
  by_cases h : i ≤ e
  · rcases from_take (H := H) (q := q) l (show i < k by omega) hk with ⟨h1, h2⟩ | ⟨h1, h2, h3⟩
    · unfold nRun; rw [h1]
    · simp [h]; omega
  · simp [h]
theorem nLive_take (l : List Evt) {k e : Nat} (he : e < k) (hk : k ≤ l.length) : nLive H q (l.take k) e = nLive H q l e := by
  unfold nLive
  have hl : (l.take k).length = k := by simp; omega
  rw [hl]
  have e1 : List.range l.length = List.range k ++ (List.range (l.length - k)).map (k + ·) := by rw [← List.range_add]; congr 1; omega
  rw [e1, List.countP_append]
  have : ((List.range (l.length - k)).map (k + ·)).countP (liveB H q l e) = 0 := by
    rw [List.countP_eq_zero]
    intro x hx
    obtain ⟨y, _, rfl⟩ := List.mem_map.1 hx
    simp [liveB]; omega
  rw [this, Nat.add_zero]
  refine List.countP_congr fun i hi => ?_
  rw [live_take l he hk]
theorem nRun_pos_take (l : List Evt) {k e : Nat} (he : e < k) (hk : k ≤ l.length) : (0 < nRun H q (l.take k) e) ↔ 0 < nRun H q l e := by
  rcases from_take (H := H) (q := q) l he hk with ⟨h1, h2⟩ | ⟨h1, h2, h3⟩
  · unfold nRun; rw [h1]
  · omega
theorem overB_take (l : List Evt) (most : Int) {k e : Nat} (he : e < k) (hk : k ≤ l.length) : overB H q (l.take k) most e = overB H q l most e := by
  unfold overB
  rw [nLive_take l he hk]
  congr 1
  exact decide_eq_decide.2 (nRun_pos_take l he hk)
theorem overL_cases (l : List Evt) (most : Int) : (overL H q l most = -1 ∧ ∀ e, e < l.length → overB H q l most e = false) ∨ (∃ e : Nat, e < l.length ∧ overL H q l most = e ∧ overB H q l most e = true ∧ ∀ j, j < e → overB H q l most j = false) := by
  unfold overL
  cases h : (List.range l.length).find? (overB H q l most) with
  | none =>
    left
    refine ⟨rfl, fun e he => ?_⟩
    have := List.find?_eq_none.1 h e (List.mem_range.2 he)
    simpa using this
  | some e =>
    right
    obtain ⟨h1, i, hi, h2, h3⟩ := List.find?_eq_some_iff_getElem.1 h
    simp only [List.getElem_range] at h2
    subst h2
    refine ⟨i, by simpa using hi, rfl, h1, fun j hj => ?_⟩
    have := h3 j hj
    simpa using this
theorem overL_of {l : List Evt} {most : Int} {e : Nat} (he : e < l.length) (h : overB H q l most e = true) (hj : ∀ j, j < e → overB H q l most j = false) : overL H q l most = e := by
  rcases overL_cases (H := H) (q := q) l most with ⟨_, h2⟩ | ⟨e2, h1, h2, h3, h4⟩
  · rw [h2 e he] at h; cases h
  · rcases Nat.lt_trichotomy e e2 with h5 | h5 | h5
    · rw [h4 e h5] at h; cases h
    · rw [h2, h5]
    · rw [hj e2 h5] at h3; cases h3
theorem overL_none {l : List Evt} {most : Int} (h : ∀ j, j < l.length → overB H q l most j = false) : overL H q l most = -1 := by
  rcases overL_cases (H := H) (q := q) l most with ⟨h2, _⟩ | ⟨e2, h1, h2, h3, h4⟩
  · exact h2
  · rw [h e2 h1] at h3; cases h3
theorem over_take (l : List Evt) (most : Int) {k : Nat} (hk : k ≤ l.length) : overL H q (l.take k) most = if overL H q l most < k then overL H q l most else -1 := by
  have hl : (l.take k).length = k := by simp; omega
  rcases overL_cases (H := H) (q := q) l most with ⟨h1, h2⟩ | ⟨e, h1, h2, h3, h4⟩
  · rw [h1, if_pos (by omega)]
    exact overL_none fun j hj => by rw [hl] at hj; rw [overB_take l most hj hk]; exact h2 j (by omega)
  · rw [h2]
    by_cases hek : e < k
    · rw [if_pos (by omega)]
      exact overL_of (by rw [hl]; exact hek) (by rw [overB_take l most hek hk]; exact h3) fun j hj => by rw [overB_take l most (by omega) hk]; exact h4 j hj
    · rw [if_neg (by omega)]
      exact overL_none fun j hj => by rw [hl] at hj; rw [overB_take l most hj hk]; exact h4 j (by omega)

def finB (e : Nat) (m : Mat) : Bool := decide (m.fin = (e : Int))
theorem finB_eq {e : Nat} {m : Mat} : finB e m = true ↔ m.fin = (e : Int) := by simp [finB]
theorem finB_ne {e : Nat} {m : Mat} (h : m.fin ≠ (e : Int)) : finB e m = false := by simp [finB, h]
theorem fm_congr {α β : Type} {f g : α → List β} : ∀ {l : List α}, (∀ x ∈ l, f x = g x) → l.flatMap f = l.flatMap g
  | [], _ => rfl
  | x :: l, h => by
    rw [List.flatMap_cons, List.flatMap_cons, h x List.mem_cons_self, fm_congr (fun y hy => h y (List.mem_cons_of_mem _ hy))]
theorem fmap_congr {α β : Type} {f g : α → Option β} : ∀ {l : List α}, (∀ x ∈ l, f x = g x) → l.filterMap f = l.filterMap g
  | [], _ => rfl
  | x :: l, h => by
    rw [List.filterMap_cons, List.filterMap_cons, h x List.mem_cons_self, fmap_congr (fun y hy => h y (List.mem_cons_of_mem _ hy))]
theorem snoc_ind {α : Type} {P : List α → Prop} (h0 : P []) (h1 : ∀ l x, P l → P (l ++ [x])) (l : List α) : P l := by
  have : ∀ r : List α, P r.reverse := fun r => by
    induction r with
    | nil => exact h0
    | cons x r ih => rw [List.reverse_cons]; exact h1 _ _ ih
  have := this l.reverse
  rwa [List.reverse_reverse] at this
def byEnd (l : List Mat) (n : Nat) : List Mat := (List.range n).flatMap fun e => l.filter (finB e)
theorem insL_mid (x : Mat) : ∀ (a b : List Mat), (∀ y ∈ a, y.fin ≤ x.fin) → (∀ y ∈ b, x.fin < y.fin) → insL x (a ++ b) = a ++ x :: b
  | [], [], _, _ => rfl
  | [], y :: b, _, hb => by
    have := hb y List.mem_cons_self
    simp [insL]; omega
  | y :: a, b, ha, hb => by
    have := ha y List.mem_cons_self
    simp only [List.cons_append, insL, if_pos this]
    rw [insL_mid x a b (fun z hz => ha z (List.mem_cons_of_mem _ hz)) hb]
theorem stab_snoc (l : List Mat) (x : Mat) : stab (l ++ [x]) = insL x (stab l) := by unfold stab; rw [List.foldl_append]; rfl
theorem stab_eq (n : Nat) : ∀ (l : List Mat), (∀ m ∈ l, 0 ≤ m.fin ∧ m.fin < n) → stab l = byEnd l n := by
  intro l
  refine snoc_ind (P := fun l => (∀ m ∈ l, 0 ≤ m.fin ∧ m.fin < (n : Int)) → stab l = byEnd l n) ?_ (fun l x ih => ?_) l
  · intro _; unfold byEnd; simp [stab]
  · intro h
    have hx := h x (by simp)
    obtain ⟨e, he⟩ : ∃ e : Nat, x.fin = e := ⟨x.fin.toNat, by omega⟩
    have hen : e < n := by omega
    rw [stab_snoc, ih (fun m hm => h m (List.mem_append.2 (.inl hm)))]
    have er : List.range n = List.range e ++ (e :: (List.range (n - (e + 1))).map (e + 1 + ·)) := by
      have : n = (e + 1) + (n - (e + 1)) := by omega
      conv => lhs; rw [this, List.range_add, List.range_succ]
      simp
    unfold byEnd
    rw [er]
    simp only [List.flatMap_append, List.flatMap_cons]
    have f1 : ∀ j ∈ List.range e, (l ++ [x]).filter (finB j) = l.filter (finB j) := fun j hj => by
      have := List.mem_range.1 hj
      rw [List.filter_append]
      have : finB j x = false := finB_ne (by omega)
      simp [this]
    have f2 : ∀ j ∈ (List.range (n - (e + 1))).map (e + 1 + ·), (l ++ [x]).filter (finB j) = l.filter (finB j) := fun j hj => by
      obtain ⟨i, _, rfl⟩ := List.mem_map.1 hj
      rw [List.filter_append]
      have : finB (e + 1 + i) x = false := finB_ne (by omega)
      simp [this]
    have f3 : (l ++ [x]).filter (finB e) = (l.filter (finB e)) ++ [x] := by
      have : finB e x = true := finB_eq.2 he
      rw [List.filter_append]; simp [this]
    rw [fm_congr f1, fm_congr f2, f3]
    rw [← List.append_assoc, ← List.append_assoc]
    rw [insL_mid x _ _ (fun y hy => ?_) (fun y hy => ?_)]
    · simp
    · rcases List.mem_append.1 hy with h1 | h1
      · obtain ⟨j, hj, h2⟩ := List.mem_flatMap.1 h1
        have h3 := List.mem_range.1 hj
        have := finB_eq.1 (List.mem_filter.1 h2).2
        omega
      · have := finB_eq.1 (List.mem_filter.1 h1).2
        omega
    · obtain ⟨j, hj, h2⟩ := List.mem_flatMap.1 hy
      obtain ⟨i, _, rfl⟩ := List.mem_map.1 hj
      have := finB_eq.1 (List.mem_filter.1 h2).2
      omega
theorem ones_fin (l : List Evt) {m : Mat} (h : m ∈ onesL H q l) : ∃ i, i < l.length ∧ m = matL H q l i ∧ oneL H q l i = some m ∧ (i : Int) = m.start ∧ m.start ≤ m.fin ∧ m.fin < l.length := by
  obtain ⟨i, hi, h1⟩ := List.mem_filterMap.1 h
  have hi := List.mem_range.1 hi
  obtain ⟨h2, h3⟩ := oneL_some h1
  have hn := nRun_le (H := H) (q := q) l hi
  have := hn.2.1 (by rw [h3]; decide)
  refine ⟨i, hi, h2, h1, by rw [h2]; rfl, ?_, ?_⟩
  · rw [h2]; show (i : Int) ≤ i + (nRun H q l i : Nat); omega
  · rw [h2]; show (i : Int) + (nRun H q l i : Nat) < l.length; omega
theorem all_eq (l : List Evt) (most : Int) : allL H q l most = byEnd ((onesL H q l).filter (keptB (overL H q l most))) l.length :=
  stab_eq _ _ fun m hm => by
    obtain ⟨i, hi, _, _, h1, h2, h3⟩ := ones_fin l (List.mem_filter.1 hm).1
    omega
theorem ones_take (l : List Evt) {k : Nat} (hk : k ≤ l.length) {e : Nat} (he : e < k) : ((onesL H q (l.take k)).filter (finB e)) = (onesL H q l).filter (finB e) := by
  unfold onesL
  have hl : (l.take k).length = k := by simp; omega
  have e1 : List.range l.length = List.range k ++ (List.range (l.length - k)).map (k + ·) := by rw [← List.range_add]; congr 1; omega
  rw [hl, e1, List.filterMap_append, List.filter_append]
  have z : ((((List.range (l.length - k)).map (k + ·)).filterMap (oneL H q l)).filter (finB e)) = [] := by
    rw [List.filter_eq_nil_iff]
    intro m hm
    obtain ⟨i, hi, h1⟩ := List.mem_filterMap.1 hm
    obtain ⟨j, _, rfl⟩ := List.mem_map.1 hi
    obtain ⟨h2, _⟩ := oneL_some h1
    have : finB e (matL H q l (k + j)) = false := finB_ne (by show ¬ ((k + j : Nat) : Int) + (nRun H q l (k + j) : Nat) = e; omega)
    rw [h2, this]; simp
  rw [z, List.append_nil, List.filter_filterMap, List.filter_filterMap]
  refine fmap_congr fun i hi => ?_
  have hi := List.mem_range.1 hi
  rw [oneL_take l hi hk]
  by_cases h : i + nRun H q l i < k
  · rw [if_pos h]
  · rw [if_neg h]
    cases h2 : oneL H q l i with
    | none => rfl
    | some m =>
      obtain ⟨h3, _⟩ := oneL_some h2
      have : finB e m = false := finB_ne (by rw [h3]; show ¬ (i : Int) + (nRun H q l i : Nat) = e; omega)
      simp [Option.filter, this]
theorem kept_end (l : List Mat) (o : Int) (e : Nat) : ((l.filter (keptB o)).filter (finB e)) = if o < 0 ∨ (e : Int) ≤ o then l.filter (finB e) else [] := by
  rw [List.filter_filter]
  split
  · rename_i h
    refine List.filter_congr fun m _ => ?_
    by_cases hm : m.fin = (e : Int)
    · have : keptB o m = true := by unfold keptB; rcases h with h | h <;> simp [h, hm]
      simp [this]
    · simp [finB_ne hm]
  · rename_i h
    rw [List.filter_eq_nil_iff]
    intro m _
    by_cases hm : m.fin = (e : Int)
    · have : keptB o m = false := by unfold keptB; simp [hm]; omega
      simp [this]
    · simp [finB_ne hm]
theorem all_events (l : List Evt) (most : Int) : allL H q l most = (List.range l.length).flatMap fun (e : Nat) => if overL H q l most < 0 ∨ (e : Int) ≤ overL H q l most then (onesL H q l).filter (finB e) else [] := by
  rw [all_eq]
  unfold byEnd
  exact fm_congr fun e _ => kept_end _ _ e
theorem all_take (l : List Evt) (most : Int) {k : Nat} (hk : k ≤ l.length) : ∃ r, allL H q l most = allL H q (l.take k) most ++ r ∧ ∀ m ∈ r, (k : Int) ≤ m.fin := by
  have hl : (l.take k).length = k := by simp; omega
  rw [all_events, all_events, hl]
  have e1 : List.range l.length = List.range k ++ (List.range (l.length - k)).map (k + ·) := by rw [← List.range_add]; congr 1; omega
  rw [e1, List.flatMap_append]
  refine ⟨_, congrArg (· ++ _) (fm_congr fun e he => ?_), fun m hm => ?_⟩
  · have he := List.mem_range.1 he
    rw [ones_take l hk he, over_take l most hk]
    by_cases h : overL H q l most < k
    · rw [if_pos h]
    · rw [if_neg h]
      have a1 : overL H q l most < 0 ∨ (e : Int) ≤ overL H q l most := by right; omega
      rw [if_pos a1, if_pos (by left; decide)]
  · obtain ⟨e, he, h1⟩ := List.mem_flatMap.1 hm
    obtain ⟨j, _, rfl⟩ := List.mem_map.1 he
    split at h1
    · have := finB_eq.1 (List.mem_filter.1 h1).2
      omega
    · cases h1
end
end Go.Eng
