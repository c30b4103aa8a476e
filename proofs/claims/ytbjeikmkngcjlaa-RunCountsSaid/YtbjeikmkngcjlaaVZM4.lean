/- Runs of given queries, in plain words: one that is guarded; one step, taken as often as there are numbers. -/
import Derived.Test.YtbjeikmkngcjlaaVZM1
set_option linter.unusedVariables false
set_option linter.unusedSimpArgs false
namespace Go.Eng
open Go Go.Eng
def Plain (H : HH) : Prop := ∀ (nm : ByteArray) (e : Evt), H nm [] e = decide (nm = e.name)
def qCount (a : ByteArray) (n agg : Int) : Query := ⟨[⟨a, [], n, n, false, ByteArray.empty, []⟩], 0, agg, 0, 0⟩
def evC (a : ByteArray) (x : Int) : Evt := ⟨a, 0, [⟨0, x, ByteArray.empty⟩]⟩
structure CountInv (agg : Int) (l : List Int) (i : Nat) (r : Run) : Prop where
 f : r.first = 0
 a : r.at_ = 0
 s : r.step = 0
 n : r.n = i
 m : r.many = i
 c : agg = 0 → r.agg = i
 lo : agg = 2 → r.bad = false ∧ ∀ k (h : k < l.length), k < i → r.agg ≤ l[k]
 hi : agg = 3 → ∀ k (h : k < l.length), k < i → l[k] ≤ r.agg
 one : i = 1 → agg ≠ 0 → ∀ h : 0 < l.length, r.agg = l[0]
theorem toldL_num (a : ByteArray) (n agg : Int) (r : Run) (x : Int) (hs : r.step = 0) : toldL (qCount a n agg) r [⟨0, x, ByteArray.empty⟩] =
    if agg = 0 then { r with many := w64 (r.many + 1), agg := w64 (r.many + 1) }
    else if agg = 1 then { r with many := w64 (r.many + 1), agg := (sumL r.agg x).1, bad := r.bad || !(sumL r.agg x).2 }
    else if agg = 2 then { r with many := w64 (r.many + 1), agg := min (if w64 (r.many + 1) = 1 then x else r.agg) x }
    else { r with many := w64 (r.many + 1), agg := max (if w64 (r.many + 1) = 1 then x else r.agg) x } := by
 unfold toldL
 rw [if_neg (by rw [hs]; simp [qCount])]
 show (if agg = 0 then _ else _) = _
 split
 ·rfl
 rw [if_neg (by simp [qCount])]
 rfl
theorem sum_zero (x : Int) (h : -9223372036854775808 ≤ x ∧ x ≤ 9223372036854775807) : sumL 0 x = (x, true) := by
 unfold sumL
 have : w64 (0 + x) = x := by rw [Int.zero_add]; exact e_wrap h.1 h.2
 rw [this, if_pos rfl]
theorem count_told {a : ByteArray} {n agg : Int} {l : List Int} {i : Nat} {r : Run} (hb : i ≤ 4) (hx : ∀ x ∈ l, -9223372036854775808 ≤ x ∧ x ≤ 9223372036854775807) (hi : i < l.length) (h0 : 0 ≤ agg) (h4 : agg < 4)
    (f : r.first = 0) (ha : r.at_ = 0) (s : r.step = 0) (hn : r.n = (i + 1 : Nat)) (m : r.many = i) (c : agg = 0 → r.agg = i) (lo : agg = 2 → r.bad = false ∧ (∀ k (h : k < l.length), k < i → r.agg ≤ l[k]))
    (hi3 : agg = 3 → ∀ k (h : k < l.length), k < i → l[k] ≤ r.agg) (z : i = 0 → r.agg = 0) :
    CountInv agg l (i + 1) (toldL (qCount a n agg) r [⟨0, l[i], ByteArray.empty⟩]) := by
 rw [toldL_num _ _ _ _ _ s]
 have w1 : w64 (r.many + 1) = (i + 1 : Nat) := by rw [m]; exact e_wrap1 (by omega)
 rw [w1]
 have e1 : ∀ k (h : k < l.length), k < i + 1 → k < i ∨ l[k] = l[i] := fun k h hk => by
  by_cases g : k < i
  ·exact .inl g
  ·have : k = i := by omega
   subst this; exact .inr rfl
 by_cases a0 : agg = 0
 ·rw [if_pos a0]
  exact ⟨f, ha, s, hn, rfl, fun _ => rfl, fun h => by omega, fun h => by omega, fun _ h => absurd a0 h⟩
 rw [if_neg a0]
 by_cases a1 : agg = 1
 ·rw [if_pos a1]
  refine ⟨f, ha, s, hn, rfl, fun h => absurd h a0, fun h => by omega, fun h => by omega, fun h1 _ h2 => ?_⟩
  have hi0 : i = 0 := by omega
  subst hi0
  show (sumL r.agg l[0]).1 = l[0]
  rw [z rfl, sum_zero _ (hx _ (List.getElem_mem _))]
 rw [if_neg a1]
 have e2 : i = 0 → ((if ((i + 1 : Nat) : Int) = 1 then l[i] else r.agg) : Int) = l[i] := fun h => by rw [if_pos (by omega)]
 have e3 : i ≠ 0 → ((if ((i + 1 : Nat) : Int) = 1 then l[i] else r.agg) : Int) = r.agg := fun h => by rw [if_neg (by omega)]
 by_cases a2 : agg = 2
 ·rw [if_pos a2]
  refine ⟨f, ha, s, hn, rfl, fun h => absurd h a0, fun _ => ⟨(lo a2).1, fun k h hk => ?_⟩, fun h => by omega, fun h1 _ h2 => ?_⟩
  ·show min _ l[i] ≤ l[k]
   by_cases g : i = 0
   ·rw [e2 g]
    rcases e1 k h hk with q | q
    ·omega
    ·rw [q]; omega
   ·rw [e3 g]
    rcases e1 k h hk with q | q
    ·have := (lo a2).2 k h q; omega
    ·rw [q]; omega
  ·have hi0 : i = 0 := by omega
   subst hi0
   show min _ l[0] = l[0]
   rw [e2 rfl]; omega
 rw [if_neg a2]
 refine ⟨f, ha, s, hn, rfl, fun h => absurd h a0, fun h => absurd h a2, fun a3 k h hk => ?_, fun h1 _ h2 => ?_⟩
 ·show l[k] ≤ max _ l[i]
  by_cases g : i = 0
  ·rw [e2 g]
   rcases e1 k h hk with q | q
   ·omega
   ·rw [q]; omega
  ·rw [e3 g]
   rcases e1 k h hk with q | q
   ·have := hi3 a3 k h q; omega
   ·rw [q]; omega
 ·have hi0 : i = 0 := by omega
  subst hi0
  show max _ l[0] = l[0]
  rw [e2 rfl]; omega
theorem count_fate {a : ByteArray} {n agg : Int} {l : List Int} {i : Nat} {r : Run} (h : CountInv agg l i r) : fateL (qCount a n agg) r = if (i : Int) ≥ n then 2 else 0 := by
 unfold fateL
 have e : stp (qCount a n agg).steps r.step = ⟨a, [], n, n, false, ByteArray.empty, []⟩ := by rw [h.s]; rfl
 rw [e, h.s, h.n]
 show (if (0 : Int) = 1 - 1 ∧ (i : Int) ≥ n then (2 : Int) else 0) = _
 by_cases c : (i : Int) ≥ n
 ·rw [if_pos ⟨rfl, c⟩, if_pos c]
 ·rw [if_neg (fun h => c h.2), if_neg c]
theorem count_begin {H : HH} (hH : Plain H) {a : ByteArray} {n agg : Int} {l : List Int} (hx : ∀ x ∈ l, -9223372036854775808 ≤ x ∧ x ≤ 9223372036854775807) (hl : 0 < l.length) (h0 : 0 ≤ agg) (h4 : agg < 4) :
    CountInv agg l 1 (beginL H (qCount a n agg) (evC a l[0]) 0).1 ∧ (beginL H (qCount a n agg) (evC a l[0]) 0).2 = if (1 : Int) ≥ n then 2 else 0 := by
 have h : beginL H (qCount a n agg) (evC a l[0]) 0 = (toldL (qCount a n agg) ⟨0, 0, 0, 1, 0, 0, false⟩ [⟨0, l[0], ByteArray.empty⟩], fateL (qCount a n agg) (toldL (qCount a n agg) ⟨0, 0, 0, 1, 0, 0, false⟩ [⟨0, l[0], ByteArray.empty⟩])) := by
  unfold beginL
  rw [if_neg (by simp [qCount]), if_neg (by simp [takesL, stp, qCount, evC, hH a])]
  rfl
 have := count_told (a := a) (n := n) (agg := agg) (l := l) (i := 0) (r := ⟨0, 0, 0, 1, 0, 0, false⟩) (by omega) hx hl h0 h4 rfl rfl rfl rfl rfl (fun _ => rfl) (fun _ => ⟨rfl, fun k _ h => by omega⟩) (fun _ k _ h => by omega) (fun _ => rfl)
 rw [h]
 refine ⟨this, ?_⟩
 have := count_fate (a := a) (n := n) this
 simpa using this
theorem count_next {H : HH} (hH : Plain H) {a : ByteArray} {n agg : Int} {l : List Int} (hx : ∀ x ∈ l, -9223372036854775808 ≤ x ∧ x ≤ 9223372036854775807) {i : Nat} (hi0 : 0 < i) (hi : i < l.length) (hb : l.length ≤ 4) (hn : n = l.length) (h0 : 0 ≤ agg) (h4 : agg < 4) {r : Run} (hr : CountInv agg l i r) :
    CountInv agg l (i + 1) (nextL H (qCount a n agg) r (evC a l[i])).1 ∧ (nextL H (qCount a n agg) r (evC a l[i])).2 = if ((i + 1 : Nat) : Int) ≥ n then 2 else 0 := by
 have e : stp (qCount a n agg).steps r.step = ⟨a, [], n, n, false, ByteArray.empty, []⟩ := by rw [hr.s]; rfl
 have wn : w64 (r.n + 1) = (i + 1 : Nat) := by rw [hr.n]; exact e_wrap1 (by omega)
 have h : nextL H (qCount a n agg) r (evC a l[i]) = (toldL (qCount a n agg) { r with n := ((i + 1 : Nat) : Int) } [⟨0, l[i], ByteArray.empty⟩], fateL (qCount a n agg) (toldL (qCount a n agg) { r with n := ((i + 1 : Nat) : Int) } [⟨0, l[i], ByteArray.empty⟩])) := by
  unfold nextL
  rw [e, hr.s, wn]
  have hl : lateL (qCount a n agg) r (evC a l[i]) = false := by
   unfold lateL; rw [hr.a]; rfl
  rw [hl, if_neg (by show ¬ ((0 : Int) < 0 ∨ (0 : Int) ≥ 1); omega), if_neg (by rw [hr.a]; show ¬ (0 : Int) < 0; omega), if_neg (by decide), if_neg (by rintro ⟨⟨h5, _⟩, _⟩; revert h5; show ¬ ((0 : Int) + 1 < 1); omega), if_neg (by rintro ⟨⟨h5, _⟩, _⟩; revert h5; show ¬ ((0 : Int) + 1 < 1); omega), if_pos]
  ·rfl
  ·refine ⟨by rw [hr.n]; show (i : Int) < n; omega, ?_⟩
   simp [takesL, hH a, evC]
 have := count_told (a := a) (n := n) (agg := agg) (l := l) (i := i) (r := { r with n := ((i + 1 : Nat) : Int) }) (by omega) hx hi h0 h4 hr.f hr.a hr.s rfl hr.m hr.c hr.lo hr.hi (fun h => by omega)
 rw [h]
 exact ⟨this, count_fate this⟩
end Go.Eng
