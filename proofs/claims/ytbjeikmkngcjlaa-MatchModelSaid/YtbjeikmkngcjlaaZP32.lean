/- What a stable order is; rows of merges. -/
import Derived.Test.YtbjeikmkngcjlaaZP27
set_option linter.unusedVariables false
set_option linter.unusedSimpArgs false
namespace Go.Eng
open Go Go.Eng
def atE (e : Int) (m : Mat) : Bool := decide (m.fin = e)
theorem insL_split (x : Mat) : ∀ {l : List Mat}, srt l → ∃ a b, l = a ++ b ∧ insL x l = a ++ x :: b ∧ (∀ y ∈ a, y.fin ≤ x.fin) ∧ ∀ y ∈ b, x.fin < y.fin
 | [], _ => ⟨[], [], rfl, rfl, (by simp), (by simp)⟩
 | y :: l, h => by
  have h1 := List.pairwise_cons.1 h
  unfold insL
  split
  ·rename_i c
   obtain ⟨a, b, e1, e2, e3, e4⟩ := insL_split x h1.2
   refine ⟨y :: a, b, by rw [e1]; rfl, by rw [e2]; rfl, fun z hz => ?_, e4⟩
   rcases List.mem_cons.1 hz with rfl | hz
   ·exact c
   ·exact e3 z hz
  ·rename_i c
   refine ⟨[], y :: l, rfl, rfl, (by simp), fun z hz => ?_⟩
   rcases List.mem_cons.1 hz with rfl | hz
   ·omega
   ·have := h1.1 z hz; omega
theorem filter_none {α : Type} {p : α → Bool} {l : List α} (h : ∀ x ∈ l, p x = false) : l.filter p = [] := by
 rw [List.filter_eq_nil_iff]
 intro x hx
 rw [h x hx]; simp
theorem stab_filter (e : Int) (l : List Mat) : (stab l).filter (atE e) = l.filter (atE e) := by
 refine snoc_ind (P := fun l => (stab l).filter (atE e) = l.filter (atE e)) rfl (fun l x ih => ?_) l
 rw [stab_snoc]
 obtain ⟨a, b, e1, e2, e3, e4⟩ := insL_split x (stab_srt l)
 rw [e1] at ih
 rw [e2, List.filter_append, List.filter_append, ← ih, List.filter_append]
 by_cases c : x.fin = e
 ·have hb : b.filter (atE e) = [] := filter_none fun y hy => by have := e4 y hy; simp only [atE, decide_eq_false_iff_not]; omega
  simp [hb, atE, c]
 ·simp [atE, c]
theorem sorted_unique : ∀ {a b : List Mat}, srt a → srt b → (∀ e, a.filter (atE e) = b.filter (atE e)) → a = b
 | [], b, _, _, h => by
  cases b with
  | nil => rfl
  | cons y b =>
   have := h y.fin
   simp [atE] at this
 | x :: a, b, ha, hb, h => by
  cases b with
  | nil =>
   have := h x.fin
   simp [atE] at this
  | cons y b =>
   have h1 := List.pairwise_cons.1 ha
   have h2 := List.pairwise_cons.1 hb
   have hx : x ∈ y :: b := by
    have : x ∈ (y :: b).filter (atE x.fin) := by rw [← h x.fin]; simp [atE]
    exact (List.mem_filter.1 this).1
   have hy : y ∈ x :: a := by
    have : y ∈ (x :: a).filter (atE y.fin) := by rw [h y.fin]; simp [atE]
    exact (List.mem_filter.1 this).1
   have c1 : y.fin ≤ x.fin := by
    rcases List.mem_cons.1 hx with rfl | hx
    ·exact Int.le_refl _
    ·exact h2.1 x hx
   have c2 : x.fin ≤ y.fin := by
    rcases List.mem_cons.1 hy with rfl | hy
    ·exact Int.le_refl _
    ·exact h1.1 y hy
   have c : y.fin = x.fin := by omega
   have e0 := h x.fin
   have px : atE x.fin x = true := by simp [atE]
   have py : atE x.fin y = true := by simp [atE, c]
   rw [List.filter_cons_of_pos px, List.filter_cons_of_pos py] at e0
   injection e0 with e1 e2
   subst e1
   have : a = b := sorted_unique h1.2 h2.2 (fun e => by
    have := h e
    by_cases p : atE e x = true
    ·rw [List.filter_cons_of_pos p, List.filter_cons_of_pos p] at this
     injection this
    ·rw [List.filter_cons_of_neg p, List.filter_cons_of_neg p] at this
     exact this)
   rw [this]
theorem stab_of {r l : List Mat} (h1 : srt r) (h2 : ∀ e, r.filter (atE e) = l.filter (atE e)) : r = stab l :=
 sorted_unique h1 (stab_srt l) fun e => by rw [stab_filter, h2]
theorem srt_app {a b : List Mat} (ha : srt a) (hb : srt b) (h : ∀ x ∈ a, ∀ y ∈ b, x.fin ≤ y.fin) : srt (a ++ b) := List.pairwise_append.2 ⟨ha, hb, h⟩
theorem srt_left {a b : List Mat} (h : srt (a ++ b)) : srt a := (List.pairwise_append.1 h).1
theorem srt_right {a b : List Mat} (h : srt (a ++ b)) : srt b := (List.pairwise_append.1 h).2.1
theorem srt_between {a b : List Mat} (h : srt (a ++ b)) : ∀ x ∈ a, ∀ y ∈ b, x.fin ≤ y.fin := (List.pairwise_append.1 h).2.2
theorem merge_one (a : Mat) (y1 y2 : List Mat) (hs : srt (y1 ++ y2)) (h1 : ∀ y ∈ y1, y.fin < a.fin) (h2 : ∀ y ∈ y2, a.fin ≤ y.fin) : y1 ++ a :: y2 = stab (a :: (y1 ++ y2)) := by
 refine stab_of ?_ (fun e => ?_)
 ·refine srt_app (srt_left hs) (List.pairwise_cons.2 ⟨h2, srt_right hs⟩) (fun x hx y hy => ?_)
  rcases List.mem_cons.1 hy with rfl | hy
  ·have := h1 x hx; omega
  ·exact srt_between hs x hx y hy
 ·by_cases c : a.fin = e
  ·have hb : y1.filter (atE e) = [] := filter_none fun y hy => by have := h1 y hy; simp only [atE, decide_eq_false_iff_not]; omega
   simp [hb, atE, c]
  ·simp [atE, c]
theorem merge_last (b : Mat) (x1 x2 : List Mat) (hs : srt (x1 ++ x2)) (h1 : ∀ y ∈ x1, y.fin ≤ b.fin) (h2 : ∀ y ∈ x2, b.fin < y.fin) : x1 ++ b :: x2 = stab (x1 ++ x2 ++ [b]) := by
 refine stab_of ?_ (fun e => ?_)
 ·refine srt_app (srt_left hs) (List.pairwise_cons.2 ⟨fun y hy => by have := h2 y hy; omega, srt_right hs⟩) (fun x hx y hy => ?_)
  rcases List.mem_cons.1 hy with rfl | hy
  ·exact h1 x hx
  ·exact srt_between hs x hx y hy
 ·by_cases c : b.fin = e
  ·have hb : x2.filter (atE e) = [] := filter_none fun y hy => by have := h2 y hy; simp only [atE, decide_eq_false_iff_not]; omega
   simp [hb, atE, c]
  ·simp [atE, c]
theorem merge_two (x1 x2 y1 y2 : List Mat) (hx : srt (x1 ++ x2)) (hy : srt (y1 ++ y2)) (h1 : ∀ a ∈ x1, ∀ b ∈ y2, a.fin ≤ b.fin) (h2 : ∀ a ∈ y1, ∀ b ∈ x2, a.fin < b.fin) : stab (x1 ++ y1) ++ stab (x2 ++ y2) = stab (x1 ++ x2 ++ (y1 ++ y2)) := by
 refine stab_of ?_ (fun e => ?_)
 ·refine srt_app (stab_srt _) (stab_srt _) (fun a ha b hb => ?_)
  rw [stab_mem, List.mem_append] at ha hb
  rcases ha with ha | ha <;> rcases hb with hb | hb
  ·exact srt_between hx a ha b hb
  ·exact h1 a ha b hb
  ·have := h2 a ha b hb; omega
  ·exact srt_between hy a ha b hb
 ·simp only [List.filter_append, stab_filter]
  by_cases c : y1.filter (atE e) = []
  ·simp [c]
  ·have : x2.filter (atE e) = [] := by
     refine filter_none fun b hb => ?_
     cases hf : y1.filter (atE e) with
     | nil => exact absurd hf c
     | cons a r =>
      have ha : a ∈ y1.filter (atE e) := by rw [hf]; exact List.mem_cons_self
      obtain ⟨ha1, ha2⟩ := List.mem_filter.1 ha
      have := h2 a ha1 b hb
      simp only [atE, decide_eq_true_eq] at ha2
      simp only [atE, decide_eq_false_iff_not]; omega
   simp [this]
theorem stab_fix {l : List Mat} (h : srt l) : stab l = l := (stab_of h fun _ => rfl).symm
theorem bsearch {V : Type} {r : V → Option (Option Nat × V)} (mk : Nat → Nat → V) (f : Nat → Bool) (lo hi : Nat)
    (h1 : ∀ i j, lo ≤ i → i < j → j ≤ hi → r (mk i j) = some (none, if f ((i + j) / 2) = true then mk ((i + j) / 2 + 1) j else mk i ((i + j) / 2))) (h2 : ∀ i, r (mk i i) = some (some 0, mk i i)) :
    ∀ n i j, j - i ≤ n → lo ≤ i → i ≤ j → j ≤ hi → ∃ s, Lp r (mk i j) = some (0, mk s s) ∧ i ≤ s ∧ s ≤ j ∧ (i < s → f (s - 1) = true) ∧ (s < j → f s = false)
 | 0, i, j, hn, hl, hij, hj => by
  have e : i = j := by omega
  subst e
  exact ⟨i, Lp_exit (h2 i), Nat.le_refl _, Nat.le_refl _, fun h => absurd h (Nat.lt_irrefl _), fun h => absurd h (Nat.lt_irrefl _)⟩
 | n + 1, i, j, hn, hl, hij, hj => by
  by_cases e : i = j
  ·subst e
   exact ⟨i, Lp_exit (h2 i), Nat.le_refl _, Nat.le_refl _, fun h => absurd h (Nat.lt_irrefl _), fun h => absurd h (Nat.lt_irrefl _)⟩
  have hr := h1 i j hl (by omega) hj
  cases hf : f ((i + j) / 2) with
  | true =>
   rw [if_pos hf] at hr
   obtain ⟨s, s1, s2, s3, s4, s5⟩ := bsearch mk f lo hi h1 h2 n ((i + j) / 2 + 1) j (by omega) (by omega) (by omega) hj
   refine ⟨s, by rw [Lp_cont hr]; exact s1, by omega, s3, fun _ => ?_, s5⟩
   by_cases c : (i + j) / 2 + 1 < s
   ·exact s4 c
   ·have : s - 1 = (i + j) / 2 := by omega
    rw [this]; exact hf
  | false =>
   rw [if_neg (by rw [hf]; simp)] at hr
   obtain ⟨s, s1, s2, s3, s4, s5⟩ := bsearch mk f lo hi h1 h2 n i ((i + j) / 2) (by omega) hl (by omega) (by omega)
   refine ⟨s, by rw [Lp_cont hr]; exact s1, s2, by omega, s4, fun _ => ?_⟩
   by_cases c : s < (i + j) / 2
   ·exact s5 c
   ·have : s = (i + j) / 2 := by omega
    rw [this]; exact hf
theorem e_u64 (n : Int) : IntKind.u64.wrap n = n % 18446744073709551616 := by simp [IntKind.wrap, IntKind.bits, IntKind.signed]
theorem e_half (i j : Nat) (h : i + j ≤ 1048576) : IntKind.i64.wrap ((IntKind.u64.wrap (IntKind.i64.wrap ((i : Int) + (j : Int)))).fdiv 2) = (((i + j) / 2 : Nat) : Int) := by
 rw [e_wrap (n := (i : Int) + j) (by omega) (by omega)]
 have e1 : IntKind.u64.wrap ((i : Int) + (j : Int)) = ((i + j : Nat) : Int) := by rw [e_u64]; omega
 rw [e1]
 have e2 : (((i + j : Nat) : Int)).fdiv 2 = (((i + j) / 2 : Nat) : Int) := by
  rw [Int.fdiv_eq_ediv_of_nonneg _ (by decide)]; omega
 rw [e2, e_wrap (by omega) (by omega)]
end Go.Eng
