/- Plain texts: P27, P32, P33, P34, P35, P36, P37, P38, P66. -/
import Derived.Test.YtoohnjneocohnaaGreatZW2
import Derived.Test.YtoohnjneocohnaaGreatZG12
import Derived.Test.YtoohnjneocohnaaGreatZG13
import Derived.Test.YtoohnjneocohnaaGreatZL33
import Derived.Test.YtoohnjneocohnaaGreatZW1
set_option linter.unusedVariables false
set_option linter.unusedSimpArgs false
namespace Go.Eng
open Go Go.Eng
theorem q_insSort_is (a s z : List Mat) (hn : a.length + s.length + z.length ≤ 1000) : S.zztx_is (a ++ s ++ z) a.length ((a.length + s.length : Nat) : Int) = true := by unfold S.zztx_is; rw [q_insSort a s z hn]; rfl
theorem q_insSort_o (a s z : List Mat) (hn : a.length + s.length + z.length ≤ 1000) : S.zztx_o (a ++ s ++ z) a.length ((a.length + s.length : Nat) : Int) = ⟨a ++ stab s ++ z⟩ := by unfold S.zztx_o; rw [q_insSort a s z hn]; rfl
theorem q_insAll_is (l : List Mat) (hn : l.length ≤ 1000) : S.zztx_is l 0 (l.length : Nat) = true := by
 have := q_insSort_is [] l [] (by simpa using hn)
 simpa using this
theorem q_insAll_o (l : List Mat) (hn : l.length ≤ 1000) : S.zztx_o l 0 (l.length : Nat) = ⟨stab l⟩ := by
 have := q_insSort_o [] l [] (by simpa using hn)
 simpa using this
def kL (H : HH) (q : Query) (l : List Evt) (o : Int) (k : Nat) : List Mat := ((List.range k).filterMap (oneL H q l)).filter (keptB o)
theorem kL_none {H : HH} {q : Query} {l : List Evt} {o : Int} {k : Nat} (h : oneL H q l k = none) : kL H q l o (k + 1) = kL H q l o k := by
 unfold kL; rw [List.range_succ, List.filterMap_append]; simp [h]
theorem kL_some {H : HH} {q : Query} {l : List Evt} {o : Int} {k : Nat} {m : Mat} (h : oneL H q l k = some m) : kL H q l o (k + 1) = if keptB o m = true then kL H q l o k ++ [m] else kL H q l o k := by
 unfold kL; rw [List.range_succ, List.filterMap_append, List.filter_append]
 by_cases c : keptB o m = true
 ·simp [h, c]
 ·simp [h, c]
theorem kL_len (H : HH) (q : Query) (l : List Evt) (o : Int) (k : Nat) : (kL H q l o k).length ≤ k := by
 unfold kL
 have h1 := List.length_filter_le (keptB o) ((List.range k).filterMap (oneL H q l))
 have h2 := List.length_filterMap_le (oneL H q l) (List.range k)
 rw [List.length_range] at h2
 omega
def atE (e : Int) (m : Mat) : Bool := decide (m.fin = e)
theorem insL_split (x : Mat) : ∀ {l : List Mat}, srt l → ∃ a b, l = a ++ b ∧ insL x l = a ++ x :: b ∧ (∀ y ∈ a, y.fin ≤ x.fin) ∧ ∀ y ∈ b, x.fin < y.fin
 | [], _ => ⟨[], [], rfl, rfl, (by simp), (by simp)⟩
 | y :: l, h => by
  have h1 := List.pairwise_cons.1 h
  unfold insL
  split
  ·rename_i c
   obtain ⟨a, b, e1, e2, e3, e4⟩ := insL_split x h1.2
   refine ⟨y :: a, b, by rw [e1]; rfl, by rw [e2]; rfl, fun z hz => ?_, e4⟩
   rcases List.mem_cons.1 hz with rfl | hz
   ·exact c
   ·exact e3 z hz
  ·rename_i c
   refine ⟨[], y :: l, rfl, rfl, (by simp), fun z hz => ?_⟩
   rcases List.mem_cons.1 hz with rfl | hz
   ·omega
   ·have := h1.1 z hz; omega
theorem filter_none {α : Type} {p : α → Bool} {l : List α} (h : ∀ x ∈ l, p x = false) : l.filter p = [] := by
 rw [List.filter_eq_nil_iff]
 intro x hx
 rw [h x hx]; simp
theorem stab_filter (e : Int) (l : List Mat) : (stab l).filter (atE e) = l.filter (atE e) := by
 refine snoc_ind (P := fun l => (stab l).filter (atE e) = l.filter (atE e)) rfl (fun l x ih => ?_) l
 rw [stab_snoc]
 obtain ⟨a, b, e1, e2, e3, e4⟩ := insL_split x (stab_srt l)
 rw [e1] at ih
 rw [e2, List.filter_append, List.filter_append, ← ih, List.filter_append]
 by_cases c : x.fin = e
 ·have hb : b.filter (atE e) = [] := filter_none fun y hy => by have := e4 y hy; simp only [atE, decide_eq_false_iff_not]; omega
  simp [hb, atE, c]
 ·simp [atE, c]
theorem sorted_unique : ∀ {a b : List Mat}, srt a → srt b → (∀ e, a.filter (atE e) = b.filter (atE e)) → a = b
 | [], b, _, _, h => by
  cases b with
  | nil => rfl
  | cons y b =>
   have := h y.fin
   simp [atE] at this
 | x :: a, b, ha, hb, h => by
  cases b with
  | nil =>
   have := h x.fin
   simp [atE] at this
  | cons y b =>
   have h1 := List.pairwise_cons.1 ha
   have h2 := List.pairwise_cons.1 hb
   have hx : x ∈ y :: b := by
    have : x ∈ (y :: b).filter (atE x.fin) := by rw [← h x.fin]; simp [atE]
    exact (List.mem_filter.1 this).1
   have hy : y ∈ x :: a := by
    have : y ∈ (x :: a).filter (atE y.fin) := by rw [h y.fin]; simp [atE]
    exact (List.mem_filter.1 this).1
   have c1 : y.fin ≤ x.fin := by
    rcases List.mem_cons.1 hx with rfl | hx
    ·exact Int.le_refl _
    ·exact h2.1 x hx
   have c2 : x.fin ≤ y.fin := by
    rcases List.mem_cons.1 hy with rfl | hy
    ·exact Int.le_refl _
    ·exact h1.1 y hy
   have c : y.fin = x.fin := by omega
   have e0 := h x.fin
   have px : atE x.fin x = true := by simp [atE]
   have py : atE x.fin y = true := by simp [atE, c]
   rw [List.filter_cons_of_pos px, List.filter_cons_of_pos py] at e0
   injection e0 with e1 e2
   subst e1
   have : a = b := sorted_unique h1.2 h2.2 (fun e => by
    have := h e
    by_cases p : atE e x = true
    ·rw [List.filter_cons_of_pos p, List.filter_cons_of_pos p] at this
     injection this
    ·rw [List.filter_cons_of_neg p, List.filter_cons_of_neg p] at this
     exact this)
   rw [this]
theorem stab_of {r l : List Mat} (h1 : srt r) (h2 : ∀ e, r.filter (atE e) = l.filter (atE e)) : r = stab l :=
 sorted_unique h1 (stab_srt l) fun e => by rw [stab_filter, h2]
theorem srt_app {a b : List Mat} (ha : srt a) (hb : srt b) (h : ∀ x ∈ a, ∀ y ∈ b, x.fin ≤ y.fin) : srt (a ++ b) := List.pairwise_append.2 ⟨ha, hb, h⟩
theorem srt_left {a b : List Mat} (h : srt (a ++ b)) : srt a := (List.pairwise_append.1 h).1
theorem srt_right {a b : List Mat} (h : srt (a ++ b)) : srt b := (List.pairwise_append.1 h).2.1
theorem srt_between {a b : List Mat} (h : srt (a ++ b)) : ∀ x ∈ a, ∀ y ∈ b, x.fin ≤ y.fin := (List.pairwise_append.1 h).2.2
theorem merge_one (a : Mat) (y1 y2 : List Mat) (hs : srt (y1 ++ y2)) (h1 : ∀ y ∈ y1, y.fin < a.fin) (h2 : ∀ y ∈ y2, a.fin ≤ y.fin) : y1 ++ a :: y2 = stab (a :: (y1 ++ y2)) := by
 refine stab_of ?_ (fun e => ?_)
 ·refine srt_app (srt_left hs) (List.pairwise_cons.2 ⟨h2, srt_right hs⟩) (fun x hx y hy => ?_)
  rcases List.mem_cons.1 hy with rfl | hy
  ·have := h1 x hx; omega
  ·exact srt_between hs x hx y hy
 ·by_cases c : a.fin = e
  ·have hb : y1.filter (atE e) = [] := filter_none fun y hy => by have := h1 y hy; simp only [atE, decide_eq_false_iff_not]; omega
   simp [hb, atE, c]
  ·simp [atE, c]
theorem merge_last (b : Mat) (x1 x2 : List Mat) (hs : srt (x1 ++ x2)) (h1 : ∀ y ∈ x1, y.fin ≤ b.fin) (h2 : ∀ y ∈ x2, b.fin < y.fin) : x1 ++ b :: x2 = stab (x1 ++ x2 ++ [b]) := by
 refine stab_of ?_ (fun e => ?_)
 ·refine srt_app (srt_left hs) (List.pairwise_cons.2 ⟨fun y hy => by have := h2 y hy; omega, srt_right hs⟩) (fun x hx y hy => ?_)
  rcases List.mem_cons.1 hy with rfl | hy
  ·exact h1 x hx
  ·exact srt_between hs x hx y hy
 ·by_cases c : b.fin = e
  ·have hb : x2.filter (atE e) = [] := filter_none fun y hy => by have := h2 y hy; simp only [atE, decide_eq_false_iff_not]; omega
   simp [hb, atE, c]
  ·simp [atE, c]
theorem merge_two (x1 x2 y1 y2 : List Mat) (hx : srt (x1 ++ x2)) (hy : srt (y1 ++ y2)) (h1 : ∀ a ∈ x1, ∀ b ∈ y2, a.fin ≤ b.fin) (h2 : ∀ a ∈ y1, ∀ b ∈ x2, a.fin < b.fin) : stab (x1 ++ y1) ++ stab (x2 ++ y2) = stab (x1 ++ x2 ++ (y1 ++ y2)) := by
 refine stab_of ?_ (fun e => ?_)
 ·refine srt_app (stab_srt _) (stab_srt _) (fun a ha b hb => ?_)
  rw [stab_mem, List.mem_append] at ha hb
  rcases ha with ha | ha <;> rcases hb with hb | hb
  ·exact srt_between hx a ha b hb
  ·exact h1 a ha b hb
  ·have := h2 a ha b hb; omega
  ·exact srt_between hy a ha b hb
 ·simp only [List.filter_append, stab_filter]
  by_cases c : y1.filter (atE e) = []
  ·simp [c]
  ·have : x2.filter (atE e) = [] := by
     refine filter_none fun b hb => ?_
     cases hf : y1.filter (atE e) with
     | nil => exact absurd hf c
     | cons a r =>
      have ha : a ∈ y1.filter (atE e) := by rw [hf]; exact List.mem_cons_self
      obtain ⟨ha1, ha2⟩ := List.mem_filter.1 ha
      have := h2 a ha1 b hb
      simp only [atE, decide_eq_true_eq] at ha2
      simp only [atE, decide_eq_false_iff_not]; omega
   simp [this]
theorem stab_fix {l : List Mat} (h : srt l) : stab l = l := (stab_of h fun _ => rfl).symm
theorem bsearch {V : Type} {r : V → Option (Option Nat × V)} (mk : Nat → Nat → V) (f : Nat → Bool) (lo hi : Nat)
    (h1 : ∀ i j, lo ≤ i → i < j → j ≤ hi → r (mk i j) = some (none, if f ((i + j) / 2) = true then mk ((i + j) / 2 + 1) j else mk i ((i + j) / 2))) (h2 : ∀ i, r (mk i i) = some (some 0, mk i i)) :
    ∀ n i j, j - i ≤ n → lo ≤ i → i ≤ j → j ≤ hi → ∃ s, Lp r (mk i j) = some (0, mk s s) ∧ i ≤ s ∧ s ≤ j ∧ (i < s → f (s - 1) = true) ∧ (s < j → f s = false)
 | 0, i, j, hn, hl, hij, hj => by
  have e : i = j := by omega
  subst e
  exact ⟨i, Lp_exit (h2 i), Nat.le_refl _, Nat.le_refl _, fun h => absurd h (Nat.lt_irrefl _), fun h => absurd h (Nat.lt_irrefl _)⟩
 | n + 1, i, j, hn, hl, hij, hj => by
  by_cases e : i = j
  ·subst e
   exact ⟨i, Lp_exit (h2 i), Nat.le_refl _, Nat.le_refl _, fun h => absurd h (Nat.lt_irrefl _), fun h => absurd h (Nat.lt_irrefl _)⟩
  have hr := h1 i j hl (by omega) hj
  cases hf : f ((i + j) / 2) with
  | true =>
   rw [if_pos hf] at hr
   obtain ⟨s, s1, s2, s3, s4, s5⟩ := bsearch mk f lo hi h1 h2 n ((i + j) / 2 + 1) j (by omega) (by omega) (by omega) hj
   refine ⟨s, by rw [Lp_cont hr]; exact s1, by omega, s3, fun _ => ?_, s5⟩
   by_cases c : (i + j) / 2 + 1 < s
   ·exact s4 c
   ·have : s - 1 = (i + j) / 2 := by omega
    rw [this]; exact hf
  | false =>
   rw [if_neg (by rw [hf]; simp)] at hr
   obtain ⟨s, s1, s2, s3, s4, s5⟩ := bsearch mk f lo hi h1 h2 n i ((i + j) / 2) (by omega) hl (by omega) (by omega)
   refine ⟨s, by rw [Lp_cont hr]; exact s1, s2, by omega, s4, fun _ => ?_⟩
   by_cases c : s < (i + j) / 2
   ·exact s5 c
   ·have : s = (i + j) / 2 := by omega
    rw [this]; exact hf
theorem e_u64 (n : Int) : IntKind.u64.wrap n = n % 18446744073709551616 := by simp [IntKind.wrap, IntKind.bits, IntKind.signed]
theorem e_half (i j : Nat) (h : i + j ≤ 1048576) : IntKind.i64.wrap ((IntKind.u64.wrap (IntKind.i64.wrap ((i : Int) + (j : Int)))).fdiv 2) = (((i + j) / 2 : Nat) : Int) := by
 rw [e_wrap (n := (i : Int) + j) (by omega) (by omega)]
 have e1 : IntKind.u64.wrap ((i : Int) + (j : Int)) = ((i + j : Nat) : Int) := by rw [e_u64]; omega
 rw [e1]
 have e2 : (((i + j : Nat) : Int)).fdiv 2 = (((i + j) / 2 : Nat) : Int) := by
  rw [Int.fdiv_eq_ediv_of_nonneg _ (by decide)]; omega
 rw [e2, e_wrap (by omega) (by omega)]
theorem swp_get1 {α : Type} (P M Z : List α) (x y d : α) : (P ++ x :: (M ++ y :: Z)).getD P.length d = x := getD_mid _ _ _ _
theorem swp_get2 {α : Type} (P M Z : List α) (x y d : α) : (P ++ x :: (M ++ y :: Z)).getD (P.length + 1 + M.length) d = y := by
 have e : P ++ x :: (M ++ y :: Z) = (P ++ x :: M) ++ y :: Z := by simp
 have l : P.length + 1 + M.length = (P ++ x :: M).length := by simp; omega
 rw [e, l, getD_mid]
theorem swp_set1 {α : Type} (P M Z : List α) (x y : α) : ((P ++ x :: (M ++ y :: Z)).set P.length y).set (P.length + 1 + M.length) x = P ++ y :: (M ++ x :: Z) := by
 rw [set_mid]
 have e : P ++ y :: (M ++ y :: Z) = (P ++ y :: M) ++ y :: Z := by simp
 have l : P.length + 1 + M.length = (P ++ y :: M).length := by simp; omega
 rw [e, l, set_mid]; simp
theorem swp_set2 {α : Type} (P M Z : List α) (x y : α) : ((P ++ x :: (M ++ y :: Z)).set (P.length + 1 + M.length) x).set P.length y = P ++ y :: (M ++ x :: Z) := by
 have e : P ++ x :: (M ++ y :: Z) = (P ++ x :: M) ++ y :: Z := by simp
 have l : P.length + 1 + M.length = (P ++ x :: M).length := by simp; omega
 rw [e, l, set_mid]
 have e2 : (P ++ x :: M) ++ x :: Z = P ++ x :: (M ++ x :: Z) := by simp
 rw [e2, set_mid]
theorem q_swapRange (p u w v z : List Mat) (huv : u.length = v.length) (hb : p.length + u.length + w.length + v.length + z.length ≤ 1000) :
    S.zh7k (p ++ u ++ w ++ v ++ z) (p.length : Nat) ((p.length + u.length + w.length : Nat) : Int) (u.length : Nat) = some ⟨p ++ v ++ w ++ u ++ z⟩ := by
 have hN : (p ++ u ++ w ++ v ++ z).length = p.length + u.length + w.length + v.length + z.length := by simp; omega
 have hw := Lp_walk (r := S.zh7k_1_r (p ++ u ++ w ++ v ++ z).length (p.length : Nat) ((p.length + u.length + w.length : Nat) : Int) (u.length : Nat)) (fun k => (⟨(k : Int), p ++ (v.take k ++ u.drop k) ++ w ++ (u.take k ++ v.drop k) ++ z⟩ : S.zh7k_1_V)) u.length 0 (fun k hk => ?_) ?_
 ·unfold S.zh7k S.zh7k_R
  dsimp only
  have e0 : p ++ (v.take 0 ++ u.drop 0) ++ w ++ (u.take 0 ++ v.drop 0) ++ z = p ++ u ++ w ++ v ++ z := by simp
  have e1 : p ++ (v.take u.length ++ u.drop u.length) ++ w ++ (u.take u.length ++ v.drop u.length) ++ z = p ++ v ++ w ++ u ++ z := by
   have a1 : v.take u.length = v := List.take_of_length_le (by omega)
   have a2 : v.drop u.length = [] := List.drop_eq_nil_of_le (by omega)
   rw [a1, a2]; simp
  rw [e0, e1] at hw
  unfold S.zh7k_1_j S.zh7k_1_v
  rw [show ((0 : Nat) : Int) = (0 : Int) from rfl] at hw
  rw [Lp_j_of hw, Lp_v_of hw]
  rfl
 ·have hk' : k < v.length := by omega
  have au : u.drop k = u[k] :: u.drop (k + 1) := List.drop_eq_getElem_cons hk
  have av : v.drop k = v[k] :: v.drop (k + 1) := List.drop_eq_getElem_cons hk'
  have tu : u.take (k + 1) = u.take k ++ [u[k]] := by rw [List.take_succ_eq_append_getElem hk]
  have tv : v.take (k + 1) = v.take k ++ [v[k]] := by rw [List.take_succ_eq_append_getElem hk']
  have d0 : p ++ (v.take k ++ u.drop k) ++ w ++ (u.take k ++ v.drop k) ++ z = (p ++ v.take k) ++ u[k] :: ((u.drop (k + 1) ++ w ++ u.take k) ++ v[k] :: (v.drop (k + 1) ++ z)) := by rw [au, av]; simp only [List.append_assoc, List.cons_append]
  have d1 : p ++ (v.take (k + 1) ++ u.drop (k + 1)) ++ w ++ (u.take (k + 1) ++ v.drop (k + 1)) ++ z = (p ++ v.take k) ++ v[k] :: ((u.drop (k + 1) ++ w ++ u.take k) ++ u[k] :: (v.drop (k + 1) ++ z)) := by rw [tu, tv]; simp only [List.append_assoc, List.cons_append, List.nil_append]
  have l1 : (p ++ v.take k).length = p.length + k := by simp; omega
  have l2 : (u.drop (k + 1) ++ w ++ u.take k).length = u.length - 1 + w.length := by simp; omega
  rw [d0, d1]
  generalize hP : p ++ v.take k = P at *
  generalize hM : u.drop (k + 1) ++ w ++ u.take k = M at *
  generalize hZ : v.drop (k + 1) ++ z = Z at *
  have lZ : Z.length = v.length - (k + 1) + z.length := by rw [← hZ]; simp
  generalize u[k] = x
  generalize v[k] = y
  have i1 : p.length + k = P.length := by omega
  have i2 : p.length + u.length + w.length + k = P.length + 1 + M.length := by omega
  have wa : IntKind.i64.wrap ((p.length : Int) + (k : Int)) = ((P.length : Nat) : Int) := by rw [e_wrap (by omega) (by omega)]; omega
  have wb : IntKind.i64.wrap (((p.length + u.length + w.length : Nat) : Int) + (k : Int)) = ((P.length + 1 + M.length : Nat) : Int) := by rw [e_wrap (by omega) (by omega)]; omega
  have z1 : ((k : Int) < (u.length : Int)) := by omega
  have z2 : (0 : Int) ≤ ((P.length : Nat) : Int) := by omega
  have z3 : (0 : Int) ≤ ((P.length + 1 + M.length : Nat) : Int) := by omega
  have z4 : ((P.length : Nat) : Int) < (((p ++ u ++ w ++ v ++ z).length : Nat) : Int) := by omega
  have z5 : ((P.length + 1 + M.length : Nat) : Int) < (((p ++ u ++ w ++ v ++ z).length : Nat) : Int) := by omega
  have hL : (P ++ x :: (M ++ y :: Z)).length = P.length + 1 + M.length + 1 + Z.length := by simp; omega
  have z6 : P.length < (P ++ x :: (M ++ y :: Z)).length := by omega
  have z7 : P.length + 1 + M.length < (P ++ x :: (M ++ y :: Z)).length := by omega
  have z8 : P.length + 1 + M.length < ((P ++ x :: (M ++ y :: Z)).set P.length y).length := by rw [List.length_set]; omega
  have g1 := swp_get1 P M Z x y (dflt ET.mat)
  have g2 := swp_get2 P M Z x y (dflt ET.mat)
  have s1 := swp_set1 P M Z x y
  unfold S.zh7k_1_r S.zh7k_1_R
  dsimp only
  simp only [xwrap, wa, wb, Int.toNat_natCast, Nat.zero_add]
  rw [g1, g2]
  have s1' : ((P ++ x :: (M ++ y :: Z)).set P.length ({ start := y.start, fin := y.fin, agg := y.agg, bad := y.bad } : Mat)).set (P.length + 1 + M.length) ({ start := x.start, fin := x.fin, agg := x.agg, bad := x.bad } : Mat) = P ++ y :: (M ++ x :: Z) := s1
  have z8' : P.length + 1 + M.length < ((P ++ x :: (M ++ y :: Z)).set P.length ({ start := y.start, fin := y.fin, agg := y.agg, bad := y.bad } : Mat)).length := z8
  simp only [DT.run_br, DT.run_leaf, DT.run_fail, xdec, z1, z2, z3, z4, z5, z6, z7, z8', decide_true, cond_true, Bool.and_self]
  rw [s1', e_wrap1 (show k ≤ 1048576 by omega)]
 ·have z1 : ¬ ((u.length : Int) < (u.length : Int)) := by omega
  unfold S.zh7k_1_r S.zh7k_1_R
  simp only [DT.run_br, DT.run_leaf, xdec, z1, decide_false, cond_false]
theorem q_swapRange_is (p u w v z : List Mat) (huv : u.length = v.length) (hb : p.length + u.length + w.length + v.length + z.length ≤ 1000) :
    S.zh7k_is (p ++ u ++ w ++ v ++ z) (p.length : Nat) ((p.length + u.length + w.length : Nat) : Int) (u.length : Nat) = true := by unfold S.zh7k_is; rw [q_swapRange p u w v z huv hb]; rfl
theorem q_swapRange_o (p u w v z : List Mat) (huv : u.length = v.length) (hb : p.length + u.length + w.length + v.length + z.length ≤ 1000) :
    S.zh7k_o (p ++ u ++ w ++ v ++ z) (p.length : Nat) ((p.length + u.length + w.length : Nat) : Int) (u.length : Nat) = ⟨p ++ v ++ w ++ u ++ z⟩ := by unfold S.zh7k_o; rw [q_swapRange p u w v z huv hb]; rfl
theorem rot_loop (N m : Nat) (hN : N ≤ 1000) : ∀ (n : Nat) (p u v z : List Mat), u.length + v.length ≤ n → 0 < u.length → 0 < v.length → p.length + u.length = m → p.length + u.length + v.length + z.length = N →
    ∃ p2 u2 v2 z2 : List Mat, Lp (S.z2ob_2_r N (m : Nat)) ⟨(u.length : Nat), (v.length : Nat), p ++ u ++ v ++ z⟩ = some (0, ⟨(u2.length : Nat), (u2.length : Nat), p2 ++ u2 ++ v2 ++ z2⟩) ∧ u2.length = v2.length ∧ p2.length + u2.length = m ∧ p2.length + u2.length + v2.length + z2.length = N ∧ p2 ++ v2 ++ u2 ++ z2 = p ++ v ++ u ++ z
 | 0, p, u, v, z, hn, hu, hv, hm, ht => by omega
 | n + 1, p, u, v, z, hn, hu, hv, hm, ht => by
  have hlen : N = (p ++ u ++ v ++ z).length := by simp; omega
  by_cases c : u.length = v.length
  ·refine ⟨p, u, v, z, Lp_exit ?_, c, hm, ht, rfl⟩
   unfold S.z2ob_2_r S.z2ob_2_R
   dsimp only
   rw [← c]
   simp [DT.run_br, DT.run_leaf, xneI]
  have cI : ((u.length : Nat) : Int) ≠ ((v.length : Nat) : Int) := by omega
  have w1 : IntKind.i64.wrap ((m : Int) - (u.length : Nat)) = ((p.length : Nat) : Int) := by rw [e_wrap (by omega) (by omega)]; omega
  by_cases c2 : u.length > v.length
  ·have c2I : ((u.length : Nat) : Int) > ((v.length : Nat) : Int) := by omega
   have l1 : (u.take v.length).length = v.length := by simp; omega
   have l2 : (u.drop v.length).length = u.length - v.length := by simp
   have eu : u = u.take v.length ++ u.drop v.length := (List.take_append_drop _ _).symm
   have i1 := q_swapRange_is p (u.take v.length) (u.drop v.length) v z l1 (by omega)
   have i2 := q_swapRange_o p (u.take v.length) (u.drop v.length) v z l1 (by omega)
   have em : p.length + (u.take v.length).length + (u.drop v.length).length = m := by omega
   have ed : p ++ u.take v.length ++ u.drop v.length ++ v ++ z = p ++ u ++ v ++ z := by rw [List.append_assoc p, ← eu]
   rw [em, l1, ed] at i1 i2
   obtain ⟨p2, u2, v2, z2, r1, r2, r3, r4, r5⟩ := rot_loop N m hN n (p ++ v) (u.drop v.length) (u.take v.length) z (by omega) (by omega) (by omega) (by simp; omega) (by simp; omega)
   refine ⟨p2, u2, v2, z2, ?_, r2, r3, r4, ?_⟩
   ·rw [Lp_cont (v' := ⟨((u.drop v.length).length : Nat), ((u.take v.length).length : Nat), (p ++ v) ++ u.drop v.length ++ u.take v.length ++ z⟩)]
    ·exact r1
    ·unfold S.z2ob_2_r S.z2ob_2_R
     dsimp only
     simp only [xwrap, w1]
     rw [i1, i2]
     have w2 : IntKind.i64.wrap (((u.length : Nat) : Int) - ((v.length : Nat) : Int)) = ((u.length - v.length : Nat) : Int) := by rw [e_wrap (by omega) (by omega)]; omega
     simp only [DT.run_br, DT.run_leaf, DT.run_fail, xdec, e_xneI, cI, c2I, hlen, w2, l1, l2, ne_eq, not_false_eq_true, decide_true, cond_true, Bool.and_self]
   ·rw [r5]
    have : p ++ v ++ u.take v.length ++ u.drop v.length ++ z = p ++ v ++ u ++ z := by rw [List.append_assoc (p ++ v), ← eu]
    exact this
  ·have c2I : ¬ ((u.length : Nat) : Int) > ((v.length : Nat) : Int) := by omega
   have l1 : (v.take (v.length - u.length)).length = v.length - u.length := by simp
   have l2 : (v.drop (v.length - u.length)).length = u.length := by simp; omega
   have ev : v = v.take (v.length - u.length) ++ v.drop (v.length - u.length) := (List.take_append_drop _ _).symm
   have i1 := q_swapRange_is p u (v.take (v.length - u.length)) (v.drop (v.length - u.length)) z l2.symm (by omega)
   have i2 := q_swapRange_o p u (v.take (v.length - u.length)) (v.drop (v.length - u.length)) z l2.symm (by omega)
   have em : p.length + u.length + (v.take (v.length - u.length)).length = m + v.length - u.length := by omega
   have ed : p ++ u ++ v.take (v.length - u.length) ++ v.drop (v.length - u.length) ++ z = p ++ u ++ v ++ z := by rw [List.append_assoc (p ++ u), ← ev]
   rw [em, ed] at i1 i2
   have w3 : IntKind.i64.wrap (IntKind.i64.wrap ((m : Int) + (v.length : Nat)) - (u.length : Nat)) = ((m + v.length - u.length : Nat) : Int) := by rw [e_wrap (n := (m : Int) + (v.length : Nat)) (by omega) (by omega), e_wrap (by omega) (by omega)]; omega
   obtain ⟨p2, u2, v2, z2, r1, r2, r3, r4, r5⟩ := rot_loop N m hN n p (v.drop (v.length - u.length)) (v.take (v.length - u.length)) (u ++ z) (by omega) (by omega) (by omega) (by omega) (by simp; omega)
   refine ⟨p2, u2, v2, z2, ?_, r2, r3, r4, ?_⟩
   ·rw [Lp_cont (v' := ⟨((v.drop (v.length - u.length)).length : Nat), ((v.take (v.length - u.length)).length : Nat), p ++ v.drop (v.length - u.length) ++ v.take (v.length - u.length) ++ (u ++ z)⟩)]
    ·exact r1
    ·unfold S.z2ob_2_r S.z2ob_2_R
     dsimp only
     simp only [xwrap, w1, w3]
     rw [i1, i2]
     have w2 : IntKind.i64.wrap (((v.length : Nat) : Int) - ((u.length : Nat) : Int)) = ((v.length - u.length : Nat) : Int) := by rw [e_wrap (by omega) (by omega)]; omega
     simp only [DT.run_br, DT.run_leaf, DT.run_fail, xdec, e_xneI, cI, c2I, hlen, w2, l1, l2, ne_eq, not_false_eq_true, decide_true, decide_false, cond_true, cond_false, Bool.and_self, List.append_assoc]
   ·rw [r5]
    have : p ++ v.take (v.length - u.length) ++ v.drop (v.length - u.length) ++ (u ++ z) = p ++ v ++ u ++ z := by rw [List.append_assoc p, ← ev, List.append_assoc (p ++ v)]
    exact this
theorem q_rotate (p u v z : List Mat) (hu : 0 < u.length) (hv : 0 < v.length) (hb : p.length + u.length + v.length + z.length ≤ 1000) :
    S.z2ob (p ++ u ++ v ++ z) (p.length : Nat) ((p.length + u.length : Nat) : Int) ((p.length + u.length + v.length : Nat) : Int) = some ⟨p ++ v ++ u ++ z⟩ := by
 obtain ⟨p2, u2, v2, z2, r1, r2, r3, r4, r5⟩ := rot_loop (p ++ u ++ v ++ z).length (p.length + u.length) (by simp; omega) (u.length + v.length) p u v z (Nat.le_refl _) hu hv rfl (by simp; omega)
 have w1 : IntKind.i64.wrap (((p.length + u.length : Nat) : Int) - (p.length : Nat)) = ((u.length : Nat) : Int) := by rw [e_wrap (by omega) (by omega)]; omega
 have w2 : IntKind.i64.wrap (((p.length + u.length + v.length : Nat) : Int) - ((p.length + u.length : Nat) : Int)) = ((v.length : Nat) : Int) := by rw [e_wrap (by omega) (by omega)]; omega
 have w3 : IntKind.i64.wrap (((p.length + u.length : Nat) : Int) - (u2.length : Nat)) = ((p2.length : Nat) : Int) := by rw [e_wrap (by omega) (by omega)]; omega
 have hl : (p ++ u ++ v ++ z).length = p.length + u.length + v.length + z.length := by simp; omega
 have hl2 : (p ++ u ++ v ++ z).length = (p2 ++ u2 ++ v2 ++ z2).length := by simp only [List.length_append] at r4 ⊢; omega
 have i1 := q_swapRange_is p2 u2 [] v2 z2 r2 (by simp; omega)
 have i2 := q_swapRange_o p2 u2 [] v2 z2 r2 (by simp; omega)
 have em : p2.length + u2.length + ([] : List Mat).length = p.length + u.length := by simp; omega
 rw [em, List.append_nil] at i1 i2
 rw [List.append_nil, r5] at i2
 unfold S.z2ob S.z2ob_R
 dsimp only
 simp only [xwrap, w1, w2]
 unfold S.z2ob_2_j S.z2ob_2_v
 rw [Lp_j_of r1, Lp_v_of r1]
 dsimp only
 rw [w3, i1, i2]
 simp only [DT.run_br, DT.run_leaf, DT.run_fail, xdec, hl2, decide_true, cond_true, Bool.and_self, beq_self_eq_true]
theorem srt_take {y : List Mat} (h : srt y) {n : Nat} (hn : n ≤ y.length) {q : Mat} (hq : q ∈ y.take n) (d : Mat) : 0 < n ∧ q.fin ≤ (y.getD (n - 1) d).fin := by
 obtain ⟨i, hi, rfl⟩ := List.getElem_of_mem hq
 have hi' : i < n := by rw [List.length_take] at hi; omega
 refine ⟨by omega, ?_⟩
 rw [getD_of y (n - 1) d (by omega), List.getElem_take]
 by_cases c : i = n - 1
 ·subst c; exact Int.le_refl _
 ·exact List.pairwise_iff_getElem.1 h i (n - 1) (by omega) (by omega) (by omega)
theorem srt_drop {y : List Mat} (h : srt y) {n : Nat} {q : Mat} (hq : q ∈ y.drop n) (d : Mat) : n < y.length ∧ (y.getD n d).fin ≤ q.fin := by
 obtain ⟨i, hi, rfl⟩ := List.getElem_of_mem hq
 have hi' : n + i < y.length := by rw [List.length_drop] at hi; omega
 refine ⟨by omega, ?_⟩
 rw [getD_of y n d (by omega), List.getElem_drop]
 by_cases c : i = 0
 ·subst c; exact Int.le_refl _
 ·exact List.pairwise_iff_getElem.1 h n (n + i) (by omega) (by omega) (by omega)
theorem getD_block {α : Type} (P y z : List α) (d : α) {k : Nat} (hk : k < y.length) : (P ++ y ++ z).getD (P.length + k) d = y.getD k d := by
 rw [List.append_assoc, List.getD_eq_getElem?_getD, List.getElem?_append_right (by omega), List.getD_eq_getElem?_getD]
 rw [show P.length + k - P.length = k by omega, List.getElem?_append_left hk]
section
variable (d : List Mat) (hb : d.length ≤ 1000)
include hb
theorem sm3 (a : Nat) (ha : a < d.length) (i j : Nat) (hij : i ≤ j) (hj : j ≤ d.length) : ∃ s : Nat, Lp (S.zxyf_3_r d.length (a : Nat) d) ⟨(i : Nat), (j : Nat)⟩ = some (0, ⟨(s : Nat), (s : Nat)⟩) ∧ i ≤ s ∧ s ≤ j ∧
    (i < s → (d.getD (s - 1) (dflt ET.mat)).fin < (d.getD a (dflt ET.mat)).fin) ∧ (s < j → ¬ (d.getD s (dflt ET.mat)).fin < (d.getD a (dflt ET.mat)).fin) := by
 have h1 : ∀ i j : Nat, 0 ≤ i → i < j → j ≤ d.length → S.zxyf_3_r d.length (a : Nat) d (⟨(i : Int), (j : Int)⟩ : S.zxyf_3_V) = some (none, if (decide ((d.getD ((i + j) / 2) (dflt ET.mat)).fin < (d.getD a (dflt ET.mat)).fin)) = true then (⟨(((i + j) / 2 + 1 : Nat) : Int), (j : Int)⟩ : S.zxyf_3_V) else ⟨(i : Int), (((i + j) / 2 : Nat) : Int)⟩) := by
  intro i j h0 h1 h2
  have hw := e_half i j (by omega)
  have z1 : ((i : Int) < (j : Int)) := by omega
  have z2 : (0 : Int) ≤ (((i + j) / 2 : Nat) : Int) := by omega
  have z3 : (((i + j) / 2 : Nat) : Int) < (d.length : Int) := by omega
  have z4 : (i + j) / 2 < d.length := by omega
  have z5 : (0 : Int) ≤ ((a : Nat) : Int) := by omega
  have z6 : ((a : Nat) : Int) < (d.length : Int) := by omega
  obtain ⟨c1, c2⟩ := q_zxni (d.getD ((i + j) / 2) (dflt ET.mat)).fin (d.getD a (dflt ET.mat)).fin
  unfold S.zxyf_3_r S.zxyf_3_R
  dsimp only
  simp only [xwrap, hw, Int.toNat_natCast, Nat.zero_add, e_wrap1 (show (i + j) / 2 ≤ 1048576 by omega)]
  rw [c1]
  simp only [DT.run_br, DT.run_leaf, DT.run_fail, xdec, z1, z2, z3, z4, z5, z6, ha, c2, decide_true, cond_true, Bool.and_self]
  by_cases c : (d.getD ((i + j) / 2) (dflt ET.mat)).fin < (d.getD a (dflt ET.mat)).fin
  ·simp only [c, decide_true, cond_true, if_true]
  ·simp only [c, decide_false, cond_false, Bool.false_eq_true, if_false]
 have h2 : ∀ i : Nat, S.zxyf_3_r d.length (a : Nat) d (⟨(i : Int), (i : Int)⟩ : S.zxyf_3_V) = some (some 0, (⟨(i : Int), (i : Int)⟩ : S.zxyf_3_V)) := by
  intro i
  have z1 : ¬ ((i : Int) < (i : Int)) := by omega
  unfold S.zxyf_3_r S.zxyf_3_R
  simp only [DT.run_br, DT.run_leaf, xdec, z1, decide_false, cond_false]
 obtain ⟨s, s1, s2, s3, s4, s5⟩ := bsearch (r := S.zxyf_3_r d.length (a : Nat) d) (fun i j => (⟨(i : Int), (j : Int)⟩ : S.zxyf_3_V)) (fun k => decide ((d.getD k (dflt ET.mat)).fin < (d.getD a (dflt ET.mat)).fin)) 0 d.length (fun i j h0 => h1 i j h0) h2 (j - i) i j (Nat.le_refl _) (Nat.zero_le _) hij hj
 exact ⟨s, s1, s2, s3, fun h => by simpa using s4 h, fun h => by simpa using s5 h⟩
theorem sm15 (m : Nat) (hm : m < d.length) (i j : Nat) (hij : i ≤ j) (hj : j ≤ d.length) : ∃ s : Nat, Lp (S.zxyf_15_r d.length (m : Nat) d) ⟨(i : Nat), (j : Nat)⟩ = some (0, ⟨(s : Nat), (s : Nat)⟩) ∧ i ≤ s ∧ s ≤ j ∧
    (i < s → (d.getD (s - 1) (dflt ET.mat)).fin ≤ (d.getD m (dflt ET.mat)).fin) ∧ (s < j → (d.getD m (dflt ET.mat)).fin < (d.getD s (dflt ET.mat)).fin) := by
 have h1 : ∀ i j : Nat, 0 ≤ i → i < j → j ≤ d.length → S.zxyf_15_r d.length (m : Nat) d (⟨(i : Int), (j : Int)⟩ : S.zxyf_15_V) = some (none, if (!decide ((d.getD m (dflt ET.mat)).fin < (d.getD ((i + j) / 2) (dflt ET.mat)).fin)) = true then (⟨(((i + j) / 2 + 1 : Nat) : Int), (j : Int)⟩ : S.zxyf_15_V) else ⟨(i : Int), (((i + j) / 2 : Nat) : Int)⟩) := by
  intro i j h0 h1 h2
  have hw := e_half i j (by omega)
  have z1 : ((i : Int) < (j : Int)) := by omega
  have z2 : (0 : Int) ≤ (((i + j) / 2 : Nat) : Int) := by omega
  have z3 : (((i + j) / 2 : Nat) : Int) < (d.length : Int) := by omega
  have z4 : (i + j) / 2 < d.length := by omega
  have z5 : (0 : Int) ≤ ((m : Nat) : Int) := by omega
  have z6 : ((m : Nat) : Int) < (d.length : Int) := by omega
  obtain ⟨c1, c2⟩ := q_zxni (d.getD m (dflt ET.mat)).fin (d.getD ((i + j) / 2) (dflt ET.mat)).fin
  unfold S.zxyf_15_r S.zxyf_15_R
  dsimp only
  simp only [xwrap, hw, Int.toNat_natCast, Nat.zero_add, e_wrap1 (show (i + j) / 2 ≤ 1048576 by omega)]
  rw [c1]
  simp only [DT.run_br, DT.run_leaf, DT.run_fail, xdec, xnot, z1, z2, z3, z4, z5, z6, hm, c2, decide_true, cond_true, Bool.and_self]
  by_cases c : (d.getD m (dflt ET.mat)).fin < (d.getD ((i + j) / 2) (dflt ET.mat)).fin
  ·simp only [c, decide_true, Bool.not_true, cond_false, Bool.false_eq_true, if_false]
  ·simp only [c, decide_false, Bool.not_false, cond_true, if_true]
 have h2 : ∀ i : Nat, S.zxyf_15_r d.length (m : Nat) d (⟨(i : Int), (i : Int)⟩ : S.zxyf_15_V) = some (some 0, (⟨(i : Int), (i : Int)⟩ : S.zxyf_15_V)) := by
  intro i
  have z1 : ¬ ((i : Int) < (i : Int)) := by omega
  unfold S.zxyf_15_r S.zxyf_15_R
  simp only [DT.run_br, DT.run_leaf, xdec, z1, decide_false, cond_false]
 obtain ⟨s, s1, s2, s3, s4, s5⟩ := bsearch (r := S.zxyf_15_r d.length (m : Nat) d) (fun i j => (⟨(i : Int), (j : Int)⟩ : S.zxyf_15_V)) (fun k => !decide ((d.getD m (dflt ET.mat)).fin < (d.getD k (dflt ET.mat)).fin)) 0 d.length (fun i j h0 => h1 i j h0) h2 (j - i) i j (Nat.le_refl _) (Nat.zero_le _) hij hj
 exact ⟨s, s1, s2, s3, fun h => by simpa using s4 h, fun h => by simpa using s5 h⟩
theorem sm33 (P lo hi : Nat) (hP : P ≤ 3000) (hlo : P < lo + d.length) (hhi : hi ≤ P + 1) (hd : hi ≤ d.length) (i j : Nat) (hi' : lo ≤ i) (hij : i ≤ j) (hj : j ≤ hi) : ∃ s : Nat, Lp (S.zxyf_33_r d.length (P : Nat) d) ⟨(i : Nat), (j : Nat)⟩ = some (0, ⟨(s : Nat), (s : Nat)⟩) ∧ i ≤ s ∧ s ≤ j ∧
    (i < s → (d.getD (s - 1) (dflt ET.mat)).fin ≤ (d.getD (P - (s - 1)) (dflt ET.mat)).fin) ∧ (s < j → (d.getD (P - s) (dflt ET.mat)).fin < (d.getD s (dflt ET.mat)).fin) := by
 have h1 : ∀ i j : Nat, lo ≤ i → i < j → j ≤ hi → S.zxyf_33_r d.length (P : Nat) d (⟨(i : Int), (j : Int)⟩ : S.zxyf_33_V) = some (none, if (!decide ((d.getD (P - ((i + j) / 2)) (dflt ET.mat)).fin < (d.getD ((i + j) / 2) (dflt ET.mat)).fin)) = true then (⟨(((i + j) / 2 + 1 : Nat) : Int), (j : Int)⟩ : S.zxyf_33_V) else ⟨(i : Int), (((i + j) / 2 : Nat) : Int)⟩) := by
  intro i j h0 h1 h2
  have hw := e_half i j (by omega)
  have hw2 : IntKind.i64.wrap ((P : Int) - (((i + j) / 2 : Nat) : Int)) = ((P - (i + j) / 2 : Nat) : Int) := by rw [e_wrap (by omega) (by omega)]; omega
  have z1 : ((i : Int) < (j : Int)) := by omega
  have z2 : (0 : Int) ≤ (((i + j) / 2 : Nat) : Int) := by omega
  have z3 : (((i + j) / 2 : Nat) : Int) < (d.length : Int) := by omega
  have z4 : (i + j) / 2 < d.length := by omega
  have z5 : (0 : Int) ≤ ((P - (i + j) / 2 : Nat) : Int) := by omega
  have z6 : ((P - (i + j) / 2 : Nat) : Int) < (d.length : Int) := by omega
  have z7 : P - (i + j) / 2 < d.length := by omega
  obtain ⟨c1, c2⟩ := q_zxni (d.getD (P - (i + j) / 2) (dflt ET.mat)).fin (d.getD ((i + j) / 2) (dflt ET.mat)).fin
  unfold S.zxyf_33_r S.zxyf_33_R
  dsimp only
  simp only [xwrap, hw, hw2, Int.toNat_natCast, Nat.zero_add, e_wrap1 (show (i + j) / 2 ≤ 1048576 by omega)]
  rw [c1]
  simp only [DT.run_br, DT.run_leaf, DT.run_fail, xdec, xnot, z1, z2, z3, z4, z5, z6, z7, c2, decide_true, cond_true, Bool.and_self]
  by_cases c : (d.getD (P - (i + j) / 2) (dflt ET.mat)).fin < (d.getD ((i + j) / 2) (dflt ET.mat)).fin
  ·simp only [c, decide_true, Bool.not_true, cond_false, Bool.false_eq_true, if_false]
  ·simp only [c, decide_false, Bool.not_false, cond_true, if_true]
 have h2 : ∀ i : Nat, S.zxyf_33_r d.length (P : Nat) d (⟨(i : Int), (i : Int)⟩ : S.zxyf_33_V) = some (some 0, (⟨(i : Int), (i : Int)⟩ : S.zxyf_33_V)) := by
  intro i
  have z1 : ¬ ((i : Int) < (i : Int)) := by omega
  unfold S.zxyf_33_r S.zxyf_33_R
  simp only [DT.run_br, DT.run_leaf, xdec, z1, decide_false, cond_false]
 obtain ⟨s, s1, s2, s3, s4, s5⟩ := bsearch (r := S.zxyf_33_r d.length (P : Nat) d) (fun i j => (⟨(i : Int), (j : Int)⟩ : S.zxyf_33_V)) (fun k => !decide ((d.getD (P - k) (dflt ET.mat)).fin < (d.getD k (dflt ET.mat)).fin)) lo hi (fun i j h0 => h1 i j h0) h2 (j - i) i j (Nat.le_refl _) hi' hij hj
 exact ⟨s, s1, s2, s3, fun h => by simpa using s4 h, fun h => by simpa using s5 h⟩
end
theorem sm9 (p : List Mat) (x : Mat) (y z : List Mat) (N : Nat) (hN : p.length + 1 + y.length + z.length = N) (hb : N ≤ 1000) :
    Lp (S.zxyf_9_r N ((p.length + 1 + y.length : Nat) : Int)) ⟨(p.length : Nat), p ++ x :: (y ++ z)⟩ = some (0, ⟨((p.length + y.length : Nat) : Int), p ++ (y ++ x :: z)⟩) := by
 have ws : IntKind.i64.wrap (((p.length + 1 + y.length : Nat) : Int) - 1) = ((p.length + y.length : Nat) : Int) := by rw [e_wrap (by omega) (by omega)]; omega
 have hw := Lp_walk (r := S.zxyf_9_r N ((p.length + 1 + y.length : Nat) : Int)) (fun k => (⟨((p.length + k : Nat) : Int), p ++ (y.take k ++ x :: (y.drop k ++ z))⟩ : S.zxyf_9_V)) y.length 0 (fun k hk => ?_) ?_
 ·have e0 : p ++ (y.take 0 ++ x :: (y.drop 0 ++ z)) = p ++ x :: (y ++ z) := by simp
  have e1 : p ++ (y.take y.length ++ x :: (y.drop y.length ++ z)) = p ++ (y ++ x :: z) := by simp
  rw [e0, e1] at hw
  exact hw
 ·have av : y.drop k = y[k] :: y.drop (k + 1) := List.drop_eq_getElem_cons hk
  have tv : y.take (k + 1) = y.take k ++ [y[k]] := by rw [List.take_succ_eq_append_getElem hk]
  have d0 : p ++ (y.take k ++ x :: (y.drop k ++ z)) = (p ++ y.take k) ++ x :: ([] ++ y[k] :: (y.drop (k + 1) ++ z)) := by rw [av]; simp only [List.append_assoc, List.cons_append, List.nil_append]
  have d1 : p ++ (y.take (k + 1) ++ x :: (y.drop (k + 1) ++ z)) = (p ++ y.take k) ++ y[k] :: ([] ++ x :: (y.drop (k + 1) ++ z)) := by rw [tv]; simp only [List.append_assoc, List.cons_append, List.nil_append]
  have l1 : (p ++ y.take k).length = p.length + k := by simp; omega
  rw [d0, d1]
  have lZ : (y.drop (k + 1) ++ z).length = y.length - (k + 1) + z.length := by simp
  generalize p ++ y.take k = P at *
  generalize y.drop (k + 1) ++ z = Z at *
  generalize y[k] = w
  have wa : IntKind.i64.wrap (((p.length + k : Nat) : Int) + 1) = ((P.length + 1 + ([] : List Mat).length : Nat) : Int) := by rw [e_wrap (by omega) (by omega)]; simp; omega
  have ea : p.length + k = P.length := by omega
  have z1 : ((P.length : Nat) : Int) < ((p.length + y.length : Nat) : Int) := by omega
  have z2 : (0 : Int) ≤ ((P.length : Nat) : Int) := by omega
  have z3 : (0 : Int) ≤ ((P.length + 1 + ([] : List Mat).length : Nat) : Int) := by omega
  have z4 : ((P.length : Nat) : Int) < (N : Int) := by omega
  have z5 : ((P.length + 1 + ([] : List Mat).length : Nat) : Int) < (N : Int) := by simp; omega
  have hL : (P ++ x :: ([] ++ w :: Z)).length = P.length + 1 + 1 + Z.length := by simp; omega
  have z6 : P.length < (P ++ x :: ([] ++ w :: Z)).length := by omega
  have z7 : P.length + 1 + ([] : List Mat).length < (P ++ x :: ([] ++ w :: Z)).length := by rw [hL]; simp; omega
  have z8 : P.length + 1 + ([] : List Mat).length < ((P ++ x :: ([] ++ w :: Z)).set P.length ({ start := w.start, fin := w.fin, agg := w.agg, bad := w.bad } : Mat)).length := by rw [List.length_set]; exact z7
  have g1 := swp_get1 P [] Z x w (dflt ET.mat)
  have g2 := swp_get2 P [] Z x w (dflt ET.mat)
  have s1 : ((P ++ x :: ([] ++ w :: Z)).set P.length ({ start := w.start, fin := w.fin, agg := w.agg, bad := w.bad } : Mat)).set (P.length + 1 + ([] : List Mat).length) ({ start := x.start, fin := x.fin, agg := x.agg, bad := x.bad } : Mat) = P ++ w :: ([] ++ x :: Z) := swp_set1 P [] Z x w
  unfold S.zxyf_9_r S.zxyf_9_R
  dsimp only
  simp only [xwrap, ws, wa]
  simp only [ea, Int.toNat_natCast, Nat.zero_add]
  rw [g1, g2]
  simp only [DT.run_br, DT.run_leaf, DT.run_fail, xdec, z1, z2, z3, z4, z5, z6, z7, z8, decide_true, cond_true, Bool.and_self]
  rw [s1]
  have : p.length + (k + 1) = P.length + 1 + ([] : List Mat).length := by simp; omega
  rw [this]
 ·have z1 : ¬ (((p.length + y.length : Nat) : Int) < ((p.length + y.length : Nat) : Int)) := by omega
  unfold S.zxyf_9_r S.zxyf_9_R
  dsimp only
  simp only [xwrap, ws]
  simp only [DT.run_br, DT.run_leaf, xdec, z1, decide_false, cond_false]
theorem sm21 (p : List Mat) (x : Mat) (y z : List Mat) (N : Nat) (hN : p.length + 1 + y.length + z.length = N) (hb : N ≤ 1000) :
    Lp (S.zxyf_21_r N (p.length : Nat)) ⟨((p.length + y.length : Nat) : Int), p ++ (y ++ x :: z)⟩ = some (0, ⟨(p.length : Nat), p ++ x :: (y ++ z)⟩) := by
 have hw := Lp_walk (r := S.zxyf_21_r N (p.length : Nat)) (fun k => (⟨((p.length + (y.length - k) : Nat) : Int), p ++ (y.take (y.length - k) ++ x :: (y.drop (y.length - k) ++ z))⟩ : S.zxyf_21_V)) y.length 0 (fun k hk => ?_) ?_
 ·have e0 : p ++ (y.take (y.length - 0) ++ x :: (y.drop (y.length - 0) ++ z)) = p ++ (y ++ x :: z) := by simp
  have e1 : p ++ (y.take (y.length - y.length) ++ x :: (y.drop (y.length - y.length) ++ z)) = p ++ x :: (y ++ z) := by simp
  have e2 : p.length + (y.length - y.length) = p.length := by omega
  rw [e0, e1, e2] at hw
  exact hw
 ·obtain ⟨t, ht⟩ : ∃ t, y.length - k = t + 1 := ⟨y.length - k - 1, by omega⟩
  have ht2 : y.length - (k + 1) = t := by omega
  have htl : t < y.length := by omega
  rw [ht, ht2]
  have av : y.drop t = y[t] :: y.drop (t + 1) := List.drop_eq_getElem_cons htl
  have tv : y.take (t + 1) = y.take t ++ [y[t]] := by rw [List.take_succ_eq_append_getElem htl]
  have d0 : p ++ (y.take (t + 1) ++ x :: (y.drop (t + 1) ++ z)) = (p ++ y.take t) ++ y[t] :: ([] ++ x :: (y.drop (t + 1) ++ z)) := by rw [tv]; simp only [List.append_assoc, List.cons_append, List.nil_append]
  have d1 : p ++ (y.take t ++ x :: (y.drop t ++ z)) = (p ++ y.take t) ++ x :: ([] ++ y[t] :: (y.drop (t + 1) ++ z)) := by rw [av]; simp only [List.append_assoc, List.cons_append, List.nil_append]
  have l1 : (p ++ y.take t).length = p.length + t := by simp; omega
  rw [d0, d1]
  have lZ : (y.drop (t + 1) ++ z).length = y.length - (t + 1) + z.length := by simp
  generalize p ++ y.take t = P at *
  generalize y.drop (t + 1) ++ z = Z at *
  generalize y[t] = w
  have ea : p.length + (t + 1) = P.length + 1 + ([] : List Mat).length := by simp; omega
  have eb : p.length + t = P.length := by omega
  rw [ea, eb]
  have wa : IntKind.i64.wrap (((P.length + 1 + ([] : List Mat).length : Nat) : Int) - 1) = ((P.length : Nat) : Int) := by rw [e_wrap (by simp <;> omega) (by simp <;> omega)]; simp <;> omega
  have z1 : ((P.length + 1 + ([] : List Mat).length : Nat) : Int) > ((p.length : Nat) : Int) := by simp; omega
  have z2 : (0 : Int) ≤ ((P.length : Nat) : Int) := by omega
  have z3 : (0 : Int) ≤ ((P.length + 1 + ([] : List Mat).length : Nat) : Int) := by omega
  have z4 : ((P.length : Nat) : Int) < (N : Int) := by omega
  have z5 : ((P.length + 1 + ([] : List Mat).length : Nat) : Int) < (N : Int) := by simp; omega
  have hL : (P ++ w :: ([] ++ x :: Z)).length = P.length + 1 + 1 + Z.length := by simp; omega
  have z6 : P.length < (P ++ w :: ([] ++ x :: Z)).length := by omega
  have z7 : P.length + 1 + ([] : List Mat).length < (P ++ w :: ([] ++ x :: Z)).length := by rw [hL]; simp; omega
  have z8 : P.length < ((P ++ w :: ([] ++ x :: Z)).set (P.length + 1 + ([] : List Mat).length) ({ start := w.start, fin := w.fin, agg := w.agg, bad := w.bad } : Mat)).length := by rw [List.length_set]; exact z6
  have g1 := swp_get1 P [] Z w x (dflt ET.mat)
  have g2 := swp_get2 P [] Z w x (dflt ET.mat)
  have s1 : ((P ++ w :: ([] ++ x :: Z)).set (P.length + 1 + ([] : List Mat).length) ({ start := w.start, fin := w.fin, agg := w.agg, bad := w.bad } : Mat)).set P.length ({ start := x.start, fin := x.fin, agg := x.agg, bad := x.bad } : Mat) = P ++ x :: ([] ++ w :: Z) := swp_set2 P [] Z w x
  unfold S.zxyf_21_r S.zxyf_21_R
  dsimp only
  simp only [xwrap, wa]
  simp only [Int.toNat_natCast, Nat.zero_add]
  rw [g1, g2]
  simp only [DT.run_br, DT.run_leaf, DT.run_fail, xdec, z1, z2, z3, z4, z5, z6, z7, z8, decide_true, cond_true, Bool.and_self]
  rw [s1]
 ·have e2 : p.length + (y.length - y.length) = p.length := by omega
  have z1 : ¬ (((p.length : Nat) : Int) > ((p.length : Nat) : Int)) := by omega
  rw [e2]
  unfold S.zxyf_21_r S.zxyf_21_R
  simp only [DT.run_br, DT.run_leaf, xdec, z1, decide_false, cond_false]
def RecOk [SymRec] (k : Nat) : Prop := ∀ p x y z : List Mat, 0 < x.length → 0 < y.length → srt x → srt y → x.length + y.length ≤ 2 ^ k → p.length + x.length + y.length + z.length ≤ 1000 →
 S.symRec_is (p ++ x ++ y ++ z) (p.length : Nat) ((p.length + x.length : Nat) : Int) ((p.length + x.length + y.length : Nat) : Int) = true ∧
 S.symRec_o (p ++ x ++ y ++ z) (p.length : Nat) ((p.length + x.length : Nat) : Int) ((p.length + x.length + y.length : Nat) : Int) = p ++ stab (x ++ y) ++ z
section
variable (p y z : List Mat) (a : Mat) (sy : srt y) (hb : p.length + 1 + y.length + z.length ≤ 1000)
include sy hb
theorem merge_first : ∃ s : Nat, Lp (S.zxyf_3_r (p ++ a :: (y ++ z)).length (p.length : Nat) (p ++ a :: (y ++ z))) ⟨((p.length + 1 : Nat) : Int), ((p.length + 1 + y.length : Nat) : Int)⟩ = some (0, ⟨(s : Nat), (s : Nat)⟩) ∧
    ∃ v, Lp (S.zxyf_9_r (p ++ a :: (y ++ z)).length (s : Nat)) ⟨(p.length : Nat), p ++ a :: (y ++ z)⟩ = some (0, ⟨v, p ++ stab (a :: y) ++ z⟩) := by
 have hL : (p ++ a :: (y ++ z)).length = p.length + 1 + y.length + z.length := by simp; omega
 obtain ⟨s, s1, s2, s3, s4, s5⟩ := sm3 (p ++ a :: (y ++ z)) (by omega) p.length (by omega) (p.length + 1) (p.length + 1 + y.length) (by omega) (by omega)
 have ga : (p ++ a :: (y ++ z)).getD p.length (dflt ET.mat) = a := getD_mid _ _ _ _
 have gy : ∀ k, k < y.length → (p ++ a :: (y ++ z)).getD (p.length + 1 + k) (dflt ET.mat) = y.getD k (dflt ET.mat) := fun k hk => by
  have e : p ++ a :: (y ++ z) = (p ++ [a]) ++ y ++ z := by simp
  have l : p.length + 1 + k = (p ++ [a]).length + k := by simp
  rw [e, l, getD_block _ _ _ _ hk]
 rw [ga] at s4 s5
 obtain ⟨n, rfl⟩ : ∃ n, s = p.length + 1 + n := ⟨s - (p.length + 1), by omega⟩
 have hn : n ≤ y.length := by omega
 refine ⟨_, s1, ((p.length + (y.take n).length : Nat) : Int), ?_⟩
 have lt : (y.take n).length = n := by simp; omega
 have m9 := sm9 p a (y.take n) (y.drop n ++ z) (p.length + 1 + y.length + z.length) (by simp; omega) hb
 rw [lt] at m9
 have e0 : p ++ a :: (y.take n ++ (y.drop n ++ z)) = p ++ a :: (y ++ z) := by rw [← List.append_assoc (y.take n), List.take_append_drop]
 rw [e0] at m9
 rw [hL, lt, m9]
 have hm := merge_one a (y.take n) (y.drop n) (by rw [List.take_append_drop]; exact sy) (fun q hq => ?_) (fun q hq => ?_)
 ·rw [List.take_append_drop] at hm
  rw [← hm]
  simp only [List.append_assoc, List.cons_append]
 ·obtain ⟨c1, c2⟩ := srt_take sy hn hq (dflt ET.mat)
  have := s4 (by omega)
  rw [show p.length + 1 + n - 1 = p.length + 1 + (n - 1) by omega, gy (n - 1) (by omega)] at this
  omega
 ·obtain ⟨c1, c2⟩ := srt_drop sy hq (dflt ET.mat)
  have := s5 (by omega)
  rw [gy n c1] at this
  omega
theorem merge_behind : ∃ s : Nat, Lp (S.zxyf_15_r (p ++ (y ++ a :: z)).length ((p.length + y.length : Nat) : Int) (p ++ (y ++ a :: z))) ⟨(p.length : Nat), ((p.length + y.length : Nat) : Int)⟩ = some (0, ⟨(s : Nat), (s : Nat)⟩) ∧
    ∃ v, Lp (S.zxyf_21_r (p ++ (y ++ a :: z)).length (s : Nat)) ⟨((p.length + y.length : Nat) : Int), p ++ (y ++ a :: z)⟩ = some (0, ⟨v, p ++ stab (y ++ [a]) ++ z⟩) := by
 have hL : (p ++ (y ++ a :: z)).length = p.length + 1 + y.length + z.length := by simp; omega
 obtain ⟨s, s1, s2, s3, s4, s5⟩ := sm15 (p ++ (y ++ a :: z)) (by omega) (p.length + y.length) (by omega) p.length (p.length + y.length) (by omega) (by omega)
 have ga : (p ++ (y ++ a :: z)).getD (p.length + y.length) (dflt ET.mat) = a := by
  have e : p ++ (y ++ a :: z) = (p ++ y) ++ a :: z := by simp
  have l : p.length + y.length = (p ++ y).length := by simp
  rw [e, l, getD_mid]
 have gy : ∀ k, k < y.length → (p ++ (y ++ a :: z)).getD (p.length + k) (dflt ET.mat) = y.getD k (dflt ET.mat) := fun k hk => by
  rw [← List.append_assoc, getD_block _ _ _ _ hk]
 rw [ga] at s4 s5
 obtain ⟨n, rfl⟩ : ∃ n, s = p.length + n := ⟨s - p.length, by omega⟩
 have hn : n ≤ y.length := by omega
 refine ⟨_, s1, ((p ++ y.take n).length : Nat), ?_⟩
 have lt : (p ++ y.take n).length = p.length + n := by simp; omega
 have ld : (y.drop n).length = y.length - n := by simp
 have m21 := sm21 (p ++ y.take n) a (y.drop n) z (p.length + 1 + y.length + z.length) (by omega) hb
 have e0 : (p ++ y.take n) ++ (y.drop n ++ a :: z) = p ++ (y ++ a :: z) := by rw [List.append_assoc, ← List.append_assoc (y.take n), List.take_append_drop]
 have e1 : (p ++ y.take n).length + (y.drop n).length = p.length + y.length := by omega
 rw [e0, e1, lt] at m21
 rw [hL, lt, m21]
 have hm := merge_last a (y.take n) (y.drop n) (by rw [List.take_append_drop]; exact sy) (fun q hq => ?_) (fun q hq => ?_)
 ·rw [List.take_append_drop] at hm
  rw [← hm]
  simp only [List.append_assoc, List.cons_append]
 ·obtain ⟨c1, c2⟩ := srt_take sy hn hq (dflt ET.mat)
  have := s4 (by omega)
  rw [show p.length + n - 1 = p.length + (n - 1) by omega, gy (n - 1) (by omega)] at this
  omega
 ·obtain ⟨c1, c2⟩ := srt_drop sy hq (dflt ET.mat)
  have := s5 (by omega)
  rw [gy n c1] at this
  omega
end
set_option maxHeartbeats 4000000
theorem q_rotate_is (p u v z : List Mat) (hu : 0 < u.length) (hv : 0 < v.length) (hb : p.length + u.length + v.length + z.length ≤ 1000) :
    S.z2ob_is (p ++ u ++ v ++ z) (p.length : Nat) ((p.length + u.length : Nat) : Int) ((p.length + u.length + v.length : Nat) : Int) = true := by unfold S.z2ob_is; rw [q_rotate p u v z hu hv hb]; rfl
theorem q_rotate_o (p u v z : List Mat) (hu : 0 < u.length) (hv : 0 < v.length) (hb : p.length + u.length + v.length + z.length ≤ 1000) :
    S.z2ob_o (p ++ u ++ v ++ z) (p.length : Nat) ((p.length + u.length : Nat) : Int) ((p.length + u.length + v.length : Nat) : Int) = ⟨p ++ v ++ u ++ z⟩ := by unfold S.z2ob_o; rw [q_rotate p u v z hu hv hb]; rfl
theorem nil_of {α : Type} {l : List α} (h : ¬ 0 < l.length) : l = [] := List.eq_nil_of_length_eq_zero (by omega)
theorem merge_mid [SymRec] {k : Nat} (hr : RecOk k) (p x y z : List Mat) (sx : srt x) (sy : srt y) (hx : 0 < x.length) (hy : 0 < y.length) (hk : x.length + y.length ≤ 2 ^ (k + 1)) (hb : p.length + x.length + y.length + z.length ≤ 1000)
    (mid a m b s0 r0 : Nat) (ha : a = p.length) (hm : m = p.length + x.length) (hbb : b = p.length + x.length + y.length) (hmid : mid = (a + b) / 2) (hc : (m > mid ∧ s0 = mid + m - b ∧ r0 = mid) ∨ (m ≤ mid ∧ s0 = a ∧ r0 = m)) :
    S.zxyf_c32 (p ++ x ++ y ++ z).length (a : Nat) (m : Nat) (b : Nat) (mid : Nat) ((mid + m : Nat) : Int) (s0 : Nat) (r0 : Nat) (p ++ x ++ y ++ z) = some ⟨p ++ stab (x ++ y) ++ z⟩ := by
 have hL : (p ++ x ++ y ++ z).length = p.length + x.length + y.length + z.length := by simp; omega
 have hpow : 2 ^ (k + 1) = 2 * 2 ^ k := by rw [Nat.pow_succ]; omega
 have gx : ∀ i, i < x.length → (p ++ x ++ y ++ z).getD (a + i) (dflt ET.mat) = x.getD i (dflt ET.mat) := fun i hi => by
  rw [ha, List.append_assoc (p ++ x), getD_block _ _ _ _ hi]
 have gy : ∀ i, i < y.length → (p ++ x ++ y ++ z).getD (m + i) (dflt ET.mat) = y.getD i (dflt ET.mat) := fun i hi => by
  have l : m + i = (p ++ x).length + i := by simp; omega
  rw [l, getD_block _ _ _ _ hi]
 obtain ⟨s, l1, l2, l3, l4, l5⟩ := sm33 (p ++ x ++ y ++ z) (by omega) (mid + m - 1) s0 r0 (by omega) (by omega) (by omega) (by omega) s0 r0 (Nat.le_refl _) (by omega) (Nat.le_refl _)
 have f1 : a ≤ s := by omega
 have f2 : s ≤ m := by omega
 have f3 : s ≤ mid := by omega
 obtain ⟨e, he⟩ : ∃ e, e = mid + m - s := ⟨_, rfl⟩
 have f4 : m ≤ e := by omega
 have f5 : e ≤ b := by omega
 have w0 : IntKind.i64.wrap (((mid + m : Nat) : Int) - 1) = ((mid + m - 1 : Nat) : Int) := by rw [e_wrap (by omega) (by omega)]; omega
 have w1 : IntKind.i64.wrap (((mid + m : Nat) : Int) - (s : Nat)) = ((e : Nat) : Int) := by rw [e_wrap (by omega) (by omega)]; omega
 -- the four parts
 obtain ⟨x1, x2, ex, k1⟩ : ∃ x1 x2, x = x1 ++ x2 ∧ x1 = x.take (s - a) ∧ x2 = x.drop (s - a) ∧ x1.length = s - a ∧ x2.length = m - s := ⟨x.take (s - a), x.drop (s - a), (List.take_append_drop _ _).symm, rfl, rfl, by simp; omega, by simp; omega⟩
 obtain ⟨y1, y2, ey, k2⟩ : ∃ y1 y2, y = y1 ++ y2 ∧ y1 = y.take (e - m) ∧ y2 = y.drop (e - m) ∧ y1.length = e - m ∧ y2.length = b - e := ⟨y.take (e - m), y.drop (e - m), (List.take_append_drop _ _).symm, rfl, rfl, by simp; omega, by simp; omega⟩
 obtain ⟨k11, k12, lx1, lx2⟩ := k1
 obtain ⟨k21, k22, ly1, ly2⟩ := k2
 have h1 : ∀ u ∈ x1, ∀ v ∈ y2, u.fin ≤ v.fin := fun u hu v hv => by
  rw [k11] at hu; rw [k22] at hv
  obtain ⟨c1, c2⟩ := srt_take sx (by omega) hu (dflt ET.mat)
  obtain ⟨c3, c4⟩ := srt_drop sy hv (dflt ET.mat)
  have := l4 (by omega)
  rw [show s - 1 = a + (s - a - 1) by omega, gx _ (by omega), show mid + m - 1 - (a + (s - a - 1)) = m + (e - m) by omega, gy _ c3] at this
  omega
 have h2 : ∀ u ∈ y1, ∀ v ∈ x2, u.fin < v.fin := fun u hu v hv => by
  rw [k21] at hu; rw [k12] at hv
  obtain ⟨c1, c2⟩ := srt_take sy (by omega) hu (dflt ET.mat)
  obtain ⟨c3, c4⟩ := srt_drop sx hv (dflt ET.mat)
  have := l5 (by omega)
  rw [show mid + m - 1 - s = m + (e - m - 1) by omega, gy _ (by omega)] at this
  have e2 : (p ++ x ++ y ++ z).getD s (dflt ET.mat) = x.getD (s - a) (dflt ET.mat) := by rw [← gx _ c3]; congr 1; omega
  rw [e2] at this
  omega
 have hmg := merge_two x1 x2 y1 y2 (by rw [← ex]; exact sx) (by rw [← ey]; exact sy) h1 h2
 have sx1 : srt x1 := srt_left (by rw [← ex]; exact sx)
 have sx2 : srt x2 := srt_right (by rw [← ex]; exact sx)
 have sy1 : srt y1 := srt_left (by rw [← ey]; exact sy)
 have sy2 : srt y2 := srt_right (by rw [← ey]; exact sy)
 -- turned about
 obtain ⟨d1, hd1⟩ : ∃ d1, d1 = p ++ x1 ++ y1 ++ (x2 ++ y2 ++ z) := ⟨_, rfl⟩
 have ld1 : (p ++ x ++ y ++ z).length = d1.length := by rw [hL, hd1]; simp; omega
 have hd : p ++ x ++ y ++ z = (p ++ x1) ++ x2 ++ y1 ++ (y2 ++ z) := by rw [ex, ey]; simp
 have hrot : s < m → m < e → S.z2ob_is (p ++ x ++ y ++ z) (s : Nat) (m : Nat) (e : Nat) = true ∧ S.z2ob_o (p ++ x ++ y ++ z) (s : Nat) (m : Nat) (e : Nat) = ⟨d1⟩ := fun c1 c2 => by
  have i1 := q_rotate_is (p ++ x1) x2 y1 (y2 ++ z) (by omega) (by omega) (by simp; omega)
  have i2 := q_rotate_o (p ++ x1) x2 y1 (y2 ++ z) (by omega) (by omega) (by simp; omega)
  have q1 : (p ++ x1).length = s := by simp; omega
  have q2 : (p ++ x1).length + x2.length = m := by simp; omega
  have q3 : (p ++ x1).length + x2.length + y1.length = e := by simp; omega
  rw [q3, q2, q1] at i1 i2
  rw [hd, hd1]
  refine ⟨i1, ?_⟩
  rw [i2]; simp
 have hno : ¬ (s < m ∧ m < e) → p ++ x ++ y ++ z = d1 := fun c => by
  rw [hd, hd1]
  by_cases c1 : s < m
  ·have : y1 = [] := nil_of (by omega)
   subst this; simp
  ·have : x2 = [] := nil_of (by omega)
   subst this; simp
 -- the part ahead
 obtain ⟨d2, hd2⟩ : ∃ d2, d2 = p ++ stab (x1 ++ y1) ++ (x2 ++ y2 ++ z) := ⟨_, rfl⟩
 have lst : (stab (x1 ++ y1)).length = x1.length + y1.length := by rw [stab_len]; simp
 have ld2 : d1.length = d2.length := by rw [hd1, hd2]; simp only [List.length_append, lst]; omega
 have hr1 : a < s → s < mid → S.symRec_is d1 (a : Nat) (s : Nat) (mid : Nat) = true ∧ S.symRec_o d1 (a : Nat) (s : Nat) (mid : Nat) = d2 := fun c1 c2 => by
  have := hr p x1 y1 (x2 ++ y2 ++ z) (by omega) (by omega) sx1 sy1 (by omega) (by simp; omega)
  rw [show p.length + x1.length + y1.length = mid by omega, show p.length + x1.length = s by omega, ← ha] at this
  rw [hd1, hd2]; exact this
 have hn1 : ¬ (a < s ∧ s < mid) → d1 = d2 := fun c => by
  rw [hd1, hd2]
  by_cases c1 : a < s
  ·have : y1 = [] := nil_of (by omega)
   subst this
   rw [List.append_nil, List.append_nil, stab_fix sx1]
  ·have : x1 = [] := nil_of (by omega)
   subst this
   rw [List.append_nil, List.nil_append, stab_fix sy1]
 -- the part behind
 obtain ⟨d3, hd3⟩ : ∃ d3, d3 = (p ++ stab (x1 ++ y1)) ++ stab (x2 ++ y2) ++ z := ⟨_, rfl⟩
 have hr2 : mid < e → e < b → S.symRec_is d2 (mid : Nat) (e : Nat) (b : Nat) = true ∧ S.symRec_o d2 (mid : Nat) (e : Nat) (b : Nat) = d3 := fun c1 c2 => by
  have lp : (p ++ stab (x1 ++ y1)).length = mid := by simp only [List.length_append, lst]; omega
  have := hr (p ++ stab (x1 ++ y1)) x2 y2 z (by omega) (by omega) sx2 sy2 (by omega) (by rw [lp]; omega)
  rw [lp, show mid + x2.length + y2.length = b by omega, show mid + x2.length = e by omega] at this
  rw [hd2, hd3]
  have ee : p ++ stab (x1 ++ y1) ++ (x2 ++ y2 ++ z) = (p ++ stab (x1 ++ y1)) ++ x2 ++ y2 ++ z := by simp
  rw [ee]; exact this
 have hn2 : ¬ (mid < e ∧ e < b) → d2 = d3 := fun c => by
  rw [hd2, hd3]
  by_cases c1 : mid < e
  ·have : y2 = [] := nil_of (by omega)
   subst this
   rw [List.append_nil, stab_fix sx2]; simp
  ·have : x2 = [] := nil_of (by omega)
   subst this
   rw [List.nil_append, stab_fix sy2]; simp
 have hfin : p ++ stab (x ++ y) ++ z = d3 := by rw [hd3, ex, ey, ← hmg]; simp
 rw [hfin]
 have I1 : (((s : Nat) : Int) < (m : Nat)) = (s < m) := by simp
 have I2 : (((m : Nat) : Int) < (e : Nat)) = (m < e) := by simp
 have I3 : (((a : Nat) : Int) < (s : Nat)) = (a < s) := by simp
 have I4 : (((s : Nat) : Int) < (mid : Nat)) = (s < mid) := by simp
 have I5 : (((mid : Nat) : Int) < (e : Nat)) = (mid < e) := by simp
 have I6 : (((e : Nat) : Int) < (b : Nat)) = (e < b) := by simp
 unfold S.zxyf_c32 S.zxyf_c32_R
 dsimp only
 simp only [xwrap, w0]
 unfold S.zxyf_33_j S.zxyf_33_v
 rw [Lp_j_of l1, Lp_v_of l1]
 dsimp only
 simp only [w1]
 -- what stands behind the turn, for whatever row
 have key : ∀ (d : List Mat), d = d1 → ∀ (N : Nat), N = d1.length →
     (DT.br (xdec (((a : Nat) : Int) < (s : Nat))) (DT.br (xdec (((s : Nat) : Int) < (mid : Nat))) (DT.br (xdec (N = d.length) && S.symRec_is d (a : Nat) (s : Nat) (mid : Nat))
      (DT.br (xdec (((mid : Nat) : Int) < (e : Nat))) (DT.br (xdec (((e : Nat) : Int) < (b : Nat))) (DT.br (xdec (N = (S.symRec_o d (a : Nat) (s : Nat) (mid : Nat)).length) && S.symRec_is (S.symRec_o d (a : Nat) (s : Nat) (mid : Nat)) (mid : Nat) (e : Nat) (b : Nat)) (DT.leaf (⟨S.symRec_o (S.symRec_o d (a : Nat) (s : Nat) (mid : Nat)) (mid : Nat) (e : Nat) (b : Nat)⟩ : S.zxyf_c32_T)) DT.fail) (DT.leaf ⟨S.symRec_o d (a : Nat) (s : Nat) (mid : Nat)⟩)) (DT.leaf ⟨S.symRec_o d (a : Nat) (s : Nat) (mid : Nat)⟩)) DT.fail)
      (DT.br (xdec (((mid : Nat) : Int) < (e : Nat))) (DT.br (xdec (((e : Nat) : Int) < (b : Nat))) (DT.br (xdec (N = d.length) && S.symRec_is d (mid : Nat) (e : Nat) (b : Nat)) (DT.leaf ⟨S.symRec_o d (mid : Nat) (e : Nat) (b : Nat)⟩) DT.fail) (DT.leaf ⟨d⟩)) (DT.leaf ⟨d⟩)))
      (DT.br (xdec (((mid : Nat) : Int) < (e : Nat))) (DT.br (xdec (((e : Nat) : Int) < (b : Nat))) (DT.br (xdec (N = d.length) && S.symRec_is d (mid : Nat) (e : Nat) (b : Nat)) (DT.leaf ⟨S.symRec_o d (mid : Nat) (e : Nat) (b : Nat)⟩) DT.fail) (DT.leaf ⟨d⟩)) (DT.leaf ⟨d⟩))).run = some ⟨d3⟩ := by
  intro d hdd N hN
  subst hdd
  simp only [DT.run_br, DT.run_leaf, DT.run_fail, xdec, I3, I4, I5, I6, hN, decide_true, Bool.true_and]
  have part2 : (bif decide (mid < e) then bif decide (e < b) then bif S.symRec_is d2 (mid : Nat) (e : Nat) (b : Nat) then some (⟨S.symRec_o d2 (mid : Nat) (e : Nat) (b : Nat)⟩ : S.zxyf_c32_T) else none else some ⟨d2⟩ else some ⟨d2⟩) = some ⟨d3⟩ := by
   by_cases c1 : mid < e
   ·by_cases c2 : e < b
    ·obtain ⟨g1, g2⟩ := hr2 c1 c2
     rw [g1, g2]; simp only [c1, c2, decide_true, cond_true]
    ·have := hn2 (fun h => c2 h.2)
     simp only [c1, c2, decide_true, decide_false, cond_true, cond_false, this]
   ·have := hn2 (fun h => c1 h.1)
    simp only [c1, decide_false, cond_false, this]
  by_cases c1 : a < s
  ·by_cases c2 : s < mid
   ·obtain ⟨g1, g2⟩ := hr1 c1 c2
    rw [g1, g2]
    simp only [c1, c2, ld2, decide_true, cond_true, Bool.true_and]
    exact part2
   ·have e0 := hn1 (fun h => c2 h.2)
    simp only [c1, c2, decide_true, decide_false, cond_true, cond_false]
    rw [e0]; exact part2
  ·have e0 := hn1 (fun h => c1 h.1)
   simp only [c1, decide_false, cond_false]
   rw [e0]; exact part2
 rw [DT.run_br, beq_self_eq_true, cond_true, DT.run_br, DT.run_br]
 by_cases c1 : s < m
 ·by_cases c2 : m < e
  ·obtain ⟨g1, g2⟩ := hrot c1 c2
   rw [g1, g2, DT.run_br]
   simp only [xdec, I1, I2, c1, c2, decide_true, cond_true, Bool.and_self]
   exact key d1 rfl _ ld1
  ·simp only [xdec, I1, I2, c1, c2, decide_true, decide_false, cond_true, cond_false]
   have kk := key _ (hno fun h => c2 h.2) _ ld1
   simp only [xdec, decide_true, Bool.true_and] at kk ⊢
   exact kk
 ·simp only [xdec, I1, c1, decide_false, cond_false]
  have kk := key _ (hno fun h => c1 h.1) _ ld1
  simp only [xdec, decide_true, Bool.true_and] at kk ⊢
  exact kk
set_option maxHeartbeats 2000000
theorem q_symMerge [SymRec] {k : Nat} (hr : RecOk k) (p x y z : List Mat) (sx : srt x) (sy : srt y) (hx : 0 < x.length) (hy : 0 < y.length) (hk : x.length + y.length ≤ 2 ^ (k + 1)) (hb : p.length + x.length + y.length + z.length ≤ 1000) :
    S.zxyf (p ++ x ++ y ++ z) (p.length : Nat) ((p.length + x.length : Nat) : Int) ((p.length + x.length + y.length : Nat) : Int) = some ⟨p ++ stab (x ++ y) ++ z⟩ := by
 have w1 : IntKind.i64.wrap (((p.length + x.length : Nat) : Int) - (p.length : Nat)) = ((x.length : Nat) : Int) := by rw [e_wrap (by omega) (by omega)]; omega
 have w2 : IntKind.i64.wrap (((p.length + x.length + y.length : Nat) : Int) - ((p.length + x.length : Nat) : Int)) = ((y.length : Nat) : Int) := by rw [e_wrap (by omega) (by omega)]; omega
 by_cases c1 : x.length = 1
 ·obtain ⟨a, rfl⟩ : ∃ a, x = [a] := by
    match x, c1 with
    | [a], _ => exact ⟨a, rfl⟩
  obtain ⟨s, r1, v, r2⟩ := merge_first p y z a sy (by simpa using hb)
  have ed : p ++ [a] ++ y ++ z = p ++ a :: (y ++ z) := by simp
  rw [ed]
  unfold S.zxyf S.zxyf_R
  dsimp only
  unfold S.zxyf_3_j S.zxyf_3_v S.zxyf_9_j S.zxyf_9_v
  have el : p.length + [a].length = p.length + 1 := rfl
  rw [el] at w1 ⊢
  rw [Lp_j_of r1, Lp_v_of r1]
  dsimp only
  rw [Lp_j_of r2, Lp_v_of r2]
  simp only [xwrap, w1, DT.run_br, DT.run_leaf, e_xeqI, beq_self_eq_true, cond_true]
  rfl
 by_cases c2 : y.length = 1
 ·obtain ⟨a, rfl⟩ : ∃ a, y = [a] := by
    match y, c2 with
    | [a], _ => exact ⟨a, rfl⟩
  obtain ⟨s, r1, v, r2⟩ := merge_behind p x z a sx (by simp at hb; omega)
  have ed : p ++ x ++ [a] ++ z = p ++ (x ++ a :: z) := by simp
  rw [ed]
  have z1 : ¬ (((x.length : Nat) : Int) = 1) := by omega
  unfold S.zxyf S.zxyf_R
  dsimp only
  unfold S.zxyf_15_j S.zxyf_15_v S.zxyf_21_j S.zxyf_21_v
  rw [Lp_j_of r1, Lp_v_of r1]
  dsimp only
  rw [Lp_j_of r2, Lp_v_of r2]
  simp only [xwrap, w1, w2, DT.run_br, DT.run_leaf, e_xeqI, z1, decide_false, cond_false, beq_self_eq_true, cond_true]
  rfl
 have z1 : ¬ (((x.length : Nat) : Int) = 1) := by omega
 have z2 : ¬ (((y.length : Nat) : Int) = 1) := by omega
 have hmid := e_half p.length (p.length + x.length + y.length) (by omega)
 obtain ⟨mid, hm⟩ : ∃ mid, mid = (p.length + (p.length + x.length + y.length)) / 2 := ⟨_, rfl⟩
 rw [← hm] at hmid
 have w3 : IntKind.i64.wrap (((mid : Nat) : Int) + ((p.length + x.length : Nat) : Int)) = ((mid + (p.length + x.length) : Nat) : Int) := by rw [e_wrap (by omega) (by omega)]; omega
 unfold S.zxyf S.zxyf_R
 dsimp only
 simp only [xwrap, w1, w2, hmid, w3, e_xeqI, z1, z2, xdec, decide_false, decide_true, DT.run_br, DT.run_leaf, DT.run_fail, cond_true, cond_false]
 by_cases c3 : p.length + x.length > mid
 ·have c3I : ((p.length + x.length : Nat) : Int) > ((mid : Nat) : Int) := by omega
  have w4 : IntKind.i64.wrap (((mid + (p.length + x.length) : Nat) : Int) - ((p.length + x.length + y.length : Nat) : Int)) = ((mid + (p.length + x.length) - (p.length + x.length + y.length) : Nat) : Int) := by rw [e_wrap (by omega) (by omega)]; omega
  have mm := merge_mid hr p x y z sx sy hx hy hk hb mid p.length (p.length + x.length) (p.length + x.length + y.length) (mid + (p.length + x.length) - (p.length + x.length + y.length)) mid rfl rfl rfl hm (.inl ⟨c3, rfl, rfl⟩)
  rw [w4]
  unfold S.zxyf_c32_is S.zxyf_c32_o
  rw [mm]
  simp only [c3I, decide_true, cond_true, Option.isSome_some, Option.getD_some]
 ·have c3I : ¬ ((p.length + x.length : Nat) : Int) > ((mid : Nat) : Int) := by omega
  have mm := merge_mid hr p x y z sx sy hx hy hk hb mid p.length (p.length + x.length) (p.length + x.length + y.length) p.length (p.length + x.length) rfl rfl rfl hm (.inr ⟨by omega, rfl, rfl⟩)
  unfold S.zxyf_c32_is S.zxyf_c32_o
  rw [mm]
  simp only [c3I, decide_false, cond_false, cond_true, Option.isSome_some, Option.getD_some]
theorem recOk : ∀ k, @RecOk (symS k) k
 | 0 => by
  intro p x y z hx hy _ _ hk _
  have : (2 : Nat) ^ 0 = 1 := rfl
  omega
 | k + 1 => by
  intro p x y z hx hy sx sy hk hb
  have h := @q_symMerge (symS k) k (recOk k) p x y z sx sy hx hy hk hb
  refine ⟨?_, ?_⟩
  ·show (@S.zxyf_is (symS k) _ _ _ _) = true
   unfold S.zxyf_is; rw [h]; rfl
  ·show (@S.zxyf_o (symS k) _ _ _ _).x0 = _
   unfold S.zxyf_o; rw [h]; rfl
theorem q_zovx (p x y z : List Mat) (sx : srt x) (sy : srt y) (hx : 0 < x.length) (hy : 0 < y.length) (hk : x.length + y.length ≤ 64) (hb : p.length + x.length + y.length + z.length ≤ 1000) :
    S.zovx_is (p ++ x ++ y ++ z) (p.length : Nat) ((p.length + x.length : Nat) : Int) ((p.length + x.length + y.length : Nat) : Int) = true ∧
    S.zovx_o (p ++ x ++ y ++ z) (p.length : Nat) ((p.length + x.length : Nat) : Int) ((p.length + x.length + y.length : Nat) : Int) = p ++ stab (x ++ y) ++ z :=
 recOk 6 p x y z hx hy sx sy hk hb
set_option maxHeartbeats 2000000
def Sorts2 (n : Nat) : Prop := ∀ l : List (Ty .mat), l.length ≤ n → S.sort2 l = some ⟨stab l⟩
theorem q_stable39 (l : List (Ty .mat)) (h : l.length ≤ 39) : S.zcqk l (l.length : Nat) = some ⟨stab l⟩ := by
 have w40 : IntKind.i64.wrap (20 + 20) = 40 := e_wrap (by omega) (by omega)
 have w40' : IntKind.i64.wrap (2 * 20) = 40 := e_wrap (by omega) (by omega)
 have w40'' : IntKind.i64.wrap (20 * 2) = 40 := e_wrap (by omega) (by omega)
 have w20 : IntKind.i64.wrap (0 + 20) = 20 := e_wrap (by omega) (by omega)
 by_cases c : 20 ≤ l.length
 case neg =>
  have z7 : ¬ ((20 : Int) < (l.length : Int)) := by omega
  have z1 : ¬ ((20 : Int) ≤ (l.length : Int)) := by omega
  have L7 : Lp (S.zcqk_7_r l.length (l.length : Nat)) ⟨20, stab l⟩ = some (0, ⟨20, stab l⟩) := by
   refine Lp_exit ?_
   unfold S.zcqk_7_r S.zcqk_7_R
   simp only [DT.run_br, DT.run_leaf, xdec, z7, decide_false, cond_false]
  have L2 : Lp (S.zcqk_2_r l.length (l.length : Nat) 20) ⟨0, 20, l⟩ = some (0, ⟨0, 20, l⟩) := by
   refine Lp_exit ?_
   unfold S.zcqk_2_r S.zcqk_2_R
   simp only [DT.run_br, DT.run_leaf, xdec, z1, decide_false, cond_false]
  unfold S.zcqk S.zcqk_R
  dsimp only
  unfold S.zcqk_2_j S.zcqk_2_v S.zcqk_7_j S.zcqk_7_v
  rw [Lp_j_of L2, Lp_v_of L2]
  dsimp only
  rw [q_insAll_is l (by omega), q_insAll_o l (by omega)]
  dsimp only
  rw [Lp_j_of L7, Lp_v_of L7]
  simp only [DT.run_br, DT.run_leaf, xdec, decide_true, cond_true, Bool.and_self, beq_self_eq_true]
 obtain ⟨x, y, e, lx⟩ : ∃ x y : List Mat, l = x ++ y ∧ x.length = 20 := ⟨l.take 20, l.drop 20, (List.take_append_drop _ _).symm, by simp; omega⟩
 have ln : l.length = 20 + y.length := by rw [e]; simp; omega
 have sx := stab_len x
 have sy := stab_len y
 have z1 : (20 : Int) ≤ (l.length : Int) := by omega
 have z2 : ¬ ((40 : Int) ≤ (l.length : Int)) := by omega
 have z4 : ¬ ((40 : Int) < (l.length : Int)) := by omega
 have i1 : S.zztx_is l 0 20 = true := by
  have := q_insSort_is [] x y (by simp; omega)
  rw [show ([] : List Mat).length + x.length = 20 by simp [lx], List.nil_append, ← e] at this
  exact this
 have i2 : S.zztx_o l 0 20 = ⟨stab x ++ y⟩ := by
  have := q_insSort_o [] x y (by simp; omega)
  rw [show ([] : List Mat).length + x.length = 20 by simp [lx], List.nil_append, List.nil_append, ← e] at this
  exact this
 have L2 : Lp (S.zcqk_2_r l.length (l.length : Nat) 20) ⟨0, 20, l⟩ = some (0, ⟨20, 40, stab x ++ y⟩) := by
  rw [Lp_cont (v' := ⟨20, 40, stab x ++ y⟩)]
  ·refine Lp_exit ?_
   unfold S.zcqk_2_r S.zcqk_2_R
   simp only [DT.run_br, DT.run_leaf, xdec, z2, decide_false, cond_false]
  ·unfold S.zcqk_2_r S.zcqk_2_R
   dsimp only
   rw [i1, i2]
   simp only [DT.run_br, DT.run_leaf, xdec, xwrap, w40, z1, decide_true, cond_true, Bool.and_self]
 have i3 : S.zztx_is (stab x ++ y) 20 (l.length : Nat) = true := by
  have := q_insSort_is (stab x) y [] (by simp; omega)
  rw [show (stab x).length + y.length = l.length by omega, show (stab x).length = 20 by omega, List.append_nil] at this
  exact this
 have i4 : S.zztx_o (stab x ++ y) 20 (l.length : Nat) = ⟨stab x ++ stab y⟩ := by
  have := q_insSort_o (stab x) y [] (by simp; omega)
  rw [show (stab x).length + y.length = l.length by omega, show (stab x).length = 20 by omega, List.append_nil, List.append_nil] at this
  exact this
 have hl1 : l.length = (stab x ++ y).length := by simp; omega
 have hl2 : l.length = (stab x ++ stab y).length := by simp; omega
 have hres : stab (stab x ++ stab y) = stab l := by
  refine stab_of (stab_srt _) fun q => ?_
  rw [stab_filter, List.filter_append, stab_filter, stab_filter, ← List.filter_append, ← e]
 have L7 : ∃ v, Lp (S.zcqk_7_r l.length (l.length : Nat)) ⟨20, stab x ++ stab y⟩ = some (0, ⟨v, stab l⟩) := by
  by_cases g : y.length = 0
  ·have z7 : ¬ ((20 : Int) < (l.length : Int)) := by omega
   have hy : y = [] := List.eq_nil_of_length_eq_zero g
   refine ⟨20, Lp_exit ?_⟩
   unfold S.zcqk_7_r S.zcqk_7_R
   simp only [DT.run_br, DT.run_leaf, xdec, z7, decide_false, cond_false]
   subst hy
   rw [e, List.append_nil]
   simp [stab]
  ·have z7 : ((20 : Int) < (l.length : Int)) := by omega
   have L9 : Lp (S.zcqk_9_r l.length (l.length : Nat) 20) ⟨0, 40, stab x ++ stab y⟩ = some (0, ⟨0, 40, stab x ++ stab y⟩) := by
    refine Lp_exit ?_
    unfold S.zcqk_9_r S.zcqk_9_R
    simp only [DT.run_br, DT.run_leaf, xdec, z2, decide_false, cond_false]
   obtain ⟨f1, f2⟩ := q_zovx [] (stab x) (stab y) [] (stab_srt _) (stab_srt _) (by omega) (by omega) (by omega) (by simp; omega)
   rw [show ([] : List Mat).length + (stab x).length + (stab y).length = l.length by simp; omega, show ([] : List Mat).length + (stab x).length = 20 by simp; omega, List.nil_append, List.append_nil] at f1 f2
   rw [List.nil_append, List.append_nil, hres] at f2
   refine ⟨40, ?_⟩
   rw [Lp_cont (v' := ⟨40, stab l⟩)]
   ·refine Lp_exit ?_
    unfold S.zcqk_7_r S.zcqk_7_R
    simp only [DT.run_br, DT.run_leaf, xdec, z4, decide_false, cond_false]
   ·unfold S.zcqk_7_r S.zcqk_7_R
    dsimp only
    unfold S.zcqk_9_j S.zcqk_9_v
    simp only [xwrap, w40', w40'']
    rw [Lp_j_of L9, Lp_v_of L9]
    dsimp only
    simp only [w20]
    have f1' : S.zovx_is (stab x ++ stab y) 0 20 (l.length : Nat) = true := f1
    have f2' : S.zovx_o (stab x ++ stab y) 0 20 (l.length : Nat) = stab l := f2
    rw [f1', f2']
    simp only [DT.run_br, DT.run_leaf, DT.run_fail, xdec, z7, hl2, decide_true, cond_true, Bool.and_self, beq_self_eq_true]
    rw [← hl2]
    simp only [z7, decide_true, cond_true]
 obtain ⟨v, L7⟩ := L7
 unfold S.zcqk S.zcqk_R
 dsimp only
 unfold S.zcqk_2_j S.zcqk_2_v S.zcqk_7_j S.zcqk_7_v
 rw [Lp_j_of L2, Lp_v_of L2]
 dsimp only
 rw [i3, i4]
 dsimp only
 rw [Lp_j_of L7, Lp_v_of L7]
 have hl1' : xdec (l.length = (stab x ++ y).length) = true := decide_eq_true hl1
 rw [hl1']
 simp only [DT.run_br, DT.run_leaf, cond_true, Bool.and_self, beq_self_eq_true]
theorem sorts39 : Sorts2 39 := fun l hl => by
 unfold S.sort2 S.sort2_R S.zcqk_is S.zcqk_o
 dsimp only
 rw [q_stable39 l hl]
 simp only [DT.run_br, DT.run_leaf, xdec, decide_true, cond_true, Bool.and_self, Option.isSome_some, Option.getD_some]
theorem all2_loop (q : Query) (l : List (Ty .evt)) (o : Int) (hl : q.steps.length ≤ 1048576) (hb : l.length ≤ 1000) : ∀ (n k : Nat) (f : Bool), k + n = l.length →
    ∃ f', Lp (S.all2_1_r l q.steps q.within q.agg q.aggStep q.aggF l.length o) ⟨(k : Int), f, (kL HB q l o k).length, kL HB q l o k⟩ = some (0, ⟨(l.length : Nat), f', (kL HB q l o l.length).length, kL HB q l o l.length⟩)
 | 0, k, f, hk => by
  have e : k = l.length := by omega
  subst e
  refine ⟨f, Lp_exit ?_⟩
  unfold S.all2_1_r S.all2_1_R
  dsimp only
  have z : ¬ ((l.length : Int) < (l.length : Int)) := by omega
  simp only [DT.run_br, DT.run_leaf, xdec, z, decide_false, cond_false]
 | n + 1, k, f, hk => by
  have hk' : k < l.length := by omega
  have z : ((k : Int) < (l.length : Int)) := by omega
  have g1 := q_One_is q l k hl hb hk'
  have g2 := q_One_o q l k hl hb hk'
  have hlen := kL_len HB q l o k
  have hround : ∃ f1, S.all2_1_r l q.steps q.within q.agg q.aggStep q.aggF l.length o ⟨(k : Int), f, (kL HB q l o k).length, kL HB q l o k⟩ = some (none, ⟨((k + 1 : Nat) : Int), f1, (kL HB q l o (k + 1)).length, kL HB q l o (k + 1)⟩) := by
   unfold S.all2_1_r S.all2_1_R
   dsimp only
   rw [g1, g2]
   simp only [xwrap, e_wrap1 (show k ≤ 1048576 by omega), List.take_length]
   cases ho : oneL HB q l k with
   | none =>
    rw [kL_none ho]
    refine ⟨f, ?_⟩
    dsimp only [outOne]
    simp only [DT.run_br, DT.run_leaf, xdec, z, decide_true, cond_true, cond_false]
   | some m =>
    rw [kL_some ho]
    dsimp only [outOne]
    have y3 : (kL HB q l o k).length + 1 ≤ 1048576 := by omega
    by_cases c : keptB o m = true
    ·rw [if_pos c]
     refine ⟨false, ?_⟩
     have ec : (kL HB q l o k ++ [m]).length = (kL HB q l o k).length + 1 := by simp
     rw [ec]
     simp only [DT.run_br, DT.run_leaf, DT.run_fail, xdec, xnot, z, y3, decide_true, cond_true, cond_false, Bool.and_self, List.replicate, List.set, List.length_cons, List.length_nil, Nat.le_refl, Bool.not_true]
     by_cases c1 : o < 0
     ·simp only [c1, decide_true, cond_true]
     ·have c2 : m.fin ≤ o := by simpa [keptB, c1] using c
      simp only [c1, c2, decide_true, decide_false, cond_true, cond_false]
    ·rw [if_neg c]
     refine ⟨f, ?_⟩
     have c0 : ¬ o < 0 ∧ ¬ m.fin ≤ o := by simpa [keptB] using c
     simp only [DT.run_br, DT.run_leaf, DT.run_fail, xdec, xnot, z, c0.1, c0.2, decide_true, decide_false, cond_true, cond_false, Bool.not_true]
  obtain ⟨f1, hr⟩ := hround
  obtain ⟨f', h⟩ := all2_loop q l o hl hb n (k + 1) f1 (by omega)
  exact ⟨f', by rw [Lp_cont hr]; exact h⟩
theorem q_All2 {N : Nat} (hs : Sorts2 N) (n0 : Option Bool) (f0 : Bool) (q : Query) (n1 : Option Bool) (f1 : Bool) (l : List (Ty .evt)) (most : Int) (hl : q.steps.length ≤ 1048576) (hN : l.length ≤ N) (hb : l.length ≤ 1000) :
    ∃ f, S.all2 n0 f0 q.steps q.within q.agg q.aggStep q.aggF n1 f1 l most = some ⟨allL HB q l most, f, (allL HB q l most).length⟩ := by
 obtain ⟨f', h⟩ := all2_loop q l (overL HB q l most) hl hb l.length 0 true (by omega)
 have hk := kL_len HB q l (overL HB q l most) l.length
 have h0 : kL HB q l (overL HB q l most) 0 = [] := rfl
 rw [h0] at h
 have hS := hs (kL HB q l (overL HB q l most) l.length) (by omega)
 have hA : stab (kL HB q l (overL HB q l most) l.length) = allL HB q l most := rfl
 have hL : (allL HB q l most).length = (kL HB q l (overL HB q l most) l.length).length := by rw [← hA, stab_len]
 rw [hA] at hS
 refine ⟨f', ?_⟩
 have hm : S.zpzf_o n0 f0 q.steps q.within q.agg q.aggStep q.aggF n1 f1 l = ⟨n1, f1, l, n0, f0, q.steps, q.within, q.agg, q.aggStep, q.aggF⟩ := rfl
 have hS1 : S.sort2_is (kL HB q l (overL HB q l most) l.length) = true := by simp [S.sort2_is, hS]
 have hS2 : S.sort2_o (kL HB q l (overL HB q l most) l.length) = ⟨allL HB q l most⟩ := by simp [S.sort2_o, hS]
 unfold S.all2 S.all2_R
 dsimp only
 rw [hm, q_Over_is q l most hl hb, q_Over_o q l most hl hb]
 dsimp only
 unfold S.all2_1_j S.all2_1_v
 rw [show ((0 : Nat) : Int) = (0 : Int) from rfl] at h
 rw [show ([] : List Mat).length = 0 from rfl] at h
 rw [Lp_j_of h, Lp_v_of h]
 dsimp only
 rw [hS1, hS2, hL]
 simp only [DT.run_br, DT.run_leaf, xdec, decide_true, cond_true, cond_false, Bool.and_self]
 rfl
theorem q_All2_is {N : Nat} (hs : Sorts2 N) (n0 : Option Bool) (f0 : Bool) (q : Query) (n1 : Option Bool) (f1 : Bool) (l : List (Ty .evt)) (most : Int) (hl : q.steps.length ≤ 1048576) (hN : l.length ≤ N) (hb : l.length ≤ 1000) :
    S.all2_is n0 f0 q.steps q.within q.agg q.aggStep q.aggF n1 f1 l most = true := by
 obtain ⟨f, h⟩ := q_All2 hs n0 f0 q n1 f1 l most hl hN hb
 simp [S.all2_is, h]
theorem q_All2_o {N : Nat} (hs : Sorts2 N) (n0 : Option Bool) (f0 : Bool) (q : Query) (n1 : Option Bool) (f1 : Bool) (l : List (Ty .evt)) (most : Int) (hl : q.steps.length ≤ 1048576) (hN : l.length ≤ N) (hb : l.length ≤ 1000) :
    ∃ f, S.all2_o n0 f0 q.steps q.within q.agg q.aggStep q.aggF n1 f1 l most = ⟨allL HB q l most, f, (allL HB q l most).length⟩ := by
 obtain ⟨f, h⟩ := q_All2 hs n0 f0 q n1 f1 l most hl hN hb
 exact ⟨f, by simp [S.all2_o, h]⟩
set_option maxHeartbeats 2000000
theorem storeAt_q' (q : Query) (l : List Evt) (i : Nat) : (storeAt HB q l i).q = q := by
 unfold storeAt
 split <;> rfl
theorem giv_is (u : SubL) (h : FitU u) : S.zdm7_is u.id u.sess u.s.q.steps u.s.q.within u.s.q.agg u.s.q.aggStep u.s.q.aggF u.s.r u.s.over u.ack u.sent u.m u.hold u.fin u.told = true := by simp [S.zdm7_is, q_uGive u h]
theorem giv_o (u : SubL) (h : FitU u) : S.zdm7_o u.id u.sess u.s.q.steps u.s.q.within u.s.q.agg u.s.q.aggStep u.s.q.aggF u.s.r u.s.over u.ack u.sent u.m u.hold u.fin u.told = outVu (giveU u) := by simp [S.zdm7_o, q_uGive u h]
theorem fee_is (u : SubL) (e : Evt) (i : Int) (h : FitU u) : S.zyqf_is u.id u.sess u.s.q.steps u.s.q.within u.s.q.agg u.s.q.aggStep u.s.q.aggF u.s.r u.s.over u.ack u.sent u.m u.hold u.fin u.told e.name e.at_ e.v i = true := by simp [S.zyqf_is, q_uFeed u e i h]
theorem fee_o (u : SubL) (e : Evt) (i : Int) (h : FitU u) : S.zyqf_o u.id u.sess u.s.q.steps u.s.q.within u.s.q.agg u.s.q.aggStep u.s.q.aggF u.s.r u.s.over u.ack u.sent u.m u.hold u.fin u.told e.name e.at_ e.v i = outFu (feedU HB u e i) := by simp [S.zyqf_o, q_uFeed u e i h]
theorem ack_is (u : SubL) (x : Int) (h : FitU u) : S.z7df_is u.id u.sess u.s.q.steps u.s.q.within u.s.q.agg u.s.q.aggStep u.s.q.aggF u.s.r u.s.over u.ack u.sent u.m u.hold u.fin u.told x = true := by simp [S.z7df_is, q_uAck u x h]
theorem ack_o (u : SubL) (x : Int) (h : FitU u) (hw : whyL u.ack u.sent u.m x = 0) : S.z7df_o u.id u.sess u.s.q.steps u.s.q.within u.s.q.agg u.s.q.aggStep u.s.q.aggF u.s.r u.s.over u.ack u.sent u.m u.hold u.fin u.told x = outAu (ackL u x) 0 := by
 unfold S.z7df_o; rw [q_uAck u x h, if_pos hw]; rfl
def v17 (u : SubL) (n e k : Nat) : S.zkmz_17_V := ⟨(n : Int), (e : Int), (k : Int), u.id, u.sess, u.s.q.steps, u.s.q.within, u.s.q.agg, u.s.q.aggStep, u.s.q.aggF, u.s.r, u.s.over, u.ack, u.sent, u.m, u.hold, u.fin, u.told⟩
def v13 (u : SubL) (n e k : Nat) : S.zkmz_13_V := ⟨(n : Int), (e : Int), (k : Int), u.id, u.sess, u.s.q.steps, u.s.q.within, u.s.q.agg, u.s.q.aggStep, u.s.q.aggF, u.s.r, u.s.over, u.ack, u.sent, u.m, u.hold, u.fin, u.told⟩
theorem in_none {u : SubL} (hf : FitU u) {u' : SubL} {nt : NoteL} (hg : giveU u = (u', nt, false)) (L : Nat) (o i : Int) (W : List Mat) (n e k : Nat) (hk : k < 9) :
    S.zkmz_17_r L o i W (v17 u n e k) = some (some 0, v17 u n e k) := by
 have z : ((k : Int) < 9) := by omega
 unfold S.zkmz_17_r S.zkmz_17_R
 dsimp only [v17]
 rw [giv_is u hf, giv_o u hf, hg]
 dsimp only [outVu]
 simp only [DT.run_br, DT.run_leaf, xdec, xnot, z, decide_true, cond_true, Bool.not_false]
theorem in_over {u : SubL} (hf : FitU u) {u' : SubL} {m : Mat} (hg : giveU u = (u', ⟨1, 0, 1, m⟩, true)) (L : Nat) (o i : Int) (hio : i = o) (W : List Mat) (n e k : Nat) (hk : k < 9) (he : e ≤ 1000) :
    S.zkmz_17_r L o i W (v17 u n e k) = some (none, v17 u' n (e + 1) (k + 1)) := by
 have z : ((k : Int) < 9) := by omega
 subst hio
 unfold S.zkmz_17_r S.zkmz_17_R
 dsimp only [v17]
 rw [giv_is u hf, giv_o u hf, hg]
 dsimp only [outVu]
 simp only [DT.run_br, DT.run_leaf, xdec, xnot, xwrap, e_xneI, z, decide_true, decide_false, cond_true, cond_false, Bool.not_true, e_wrap1 (show e ≤ 1048576 by omega), e_wrap1 (show k ≤ 1048576 by omega),
  ne_eq, not_true_eq_false, show ¬ ((1 : Int) = 0) by decide, not_false_eq_true]
theorem in_match {u : SubL} (hf : FitU u) {u' : SubL} (W : List Mat) (n k : Nat) (hn : n < W.length) (hb : W.length ≤ 1000) (hg : giveU u = (u', ⟨1, (n : Int) + 1, 0, W[n]⟩, true)) (o i : Int) (hk : k < 9) :
    S.zkmz_17_r W.length o i W (v17 u n 0 k) = some (none, v17 u' (n + 1) 0 (k + 1)) := by
 have z : ((k : Int) < 9) := by omega
 have z1 : ¬ ((n : Int) ≥ (W.length : Int)) := by omega
 have z2 : ((n : Int) < (W.length : Int)) := by omega
 have z3 : (0 : Int) ≤ (n : Int) := by omega
 have z5 : ((n : Int) + 1 = ((n + 1 : Nat) : Int)) = True := eq_true (by omega)
 have z6 : ¬ (((0 : Nat) : Int) > 0) := by omega
 unfold S.zkmz_17_r S.zkmz_17_R
 dsimp only [v17]
 rw [giv_is u hf, giv_o u hf, hg]
 dsimp only [outVu]
 rw [Int.toNat_natCast, Nat.zero_add, getD_of W n _ hn]
 simp only [DT.run_br, DT.run_leaf, DT.run_fail, xdec, xnot, xwrap, e_xneI, e_xeqI, xeqB, z, z1, z2, z3, hn, decide_true, decide_false, cond_true, cond_false, Bool.not_true, Bool.and_self,
  e_wrap1 (show n ≤ 1048576 by omega), e_wrap1 (show k ≤ 1048576 by omega), ne_eq, not_true_eq_false, beq_self_eq_true, z5, z6]
def endsB (b : Bool) : Nat := if b then 1 else 0
section
variable {q : Query} {l : List Evt}
theorem fit_mid (hq : Made q) (hl : q.steps.length ≤ 1048576) {k : Nat} (hk : k < l.length) (j : Nat) (t : Bool) : FitU (subMid HB q l k j t) := by
 have h1 := store_may (H := HB) hq l (k := k + 1) (by omega)
 have h2 := toldAt_len (H := HB) hq l hk
 refine ⟨?_, ?_, ?_⟩
 ·show (storeAt HB q l (k + 1)).q.steps.length ≤ 1048576; rw [storeAt_q']; exact hl
 ·show (storeAt HB q l (k + 1)).r.length ≤ 1048576; have := h1.1; omega
 ·show (toldAt HB q l k).length ≤ 1048575; omega
theorem fit_at (hq : Made q) (hl : q.steps.length ≤ 1048576) {k : Nat} (hk : k ≤ l.length) : FitU (subAt HB q l k) := by
 have h1 := store_may (H := HB) hq l hk
 refine ⟨?_, ?_, ?_⟩
 ·show (storeAt HB q l k).q.steps.length ≤ 1048576; rw [storeAt_q']; exact hl
 ·show (storeAt HB q l k).r.length ≤ 1048576; have := h1.1; omega
 ·show (0 : Nat) ≤ 1048575; omega
theorem in_from (hq : Made q) (hl : q.steps.length ≤ 1048576) (hb : l.length ≤ 1000) {k : Nat} (hk : k < l.length) (ho : (storeAt HB q l k).over = -1) : ∀ d j, j + d = (toldAt HB q l k).length →
    ∃ K, Lp (S.zkmz_17_r (allL HB q l 5).length (overL HB q l 5) k (allL HB q l 5)) (v17 (subMid HB q l k j false) (nBy HB q l k + j) 0 j) =
     some (0, v17 (subMid HB q l k (toldAt HB q l k).length (wasO HB q l (k + 1))) (nBy HB q l (k + 1)) (endsB (wasO HB q l (k + 1))) K) := by
 have h6 := toldAt_len (H := HB) hq l hk
 have hA := all_len (H := HB) (q := q) l 5
 intro d
 induction d with
 | zero =>
  intro j hj
  have hj : j = (toldAt HB q l k).length := by omega
  subst hj
  by_cases c : (storeAt HB q l (k + 1)).over = -1
  ·have w : wasO HB q l (k + 1) = false := by unfold wasO; simp [c]
   have hg := mid_none (H := HB) hq l hk hb (t := false) ⟨(by intro h; cases h), fun h => absurd c h⟩
   refine ⟨(toldAt HB q l k).length, ?_⟩
   rw [w, nBy_next]
   exact Lp_exit (in_none (fit_mid hq hl hk _ _) hg _ _ _ _ _ _ _ (by omega))
  ·have w : wasO HB q l (k + 1) = true := by unfold wasO; simp [c]
   have hg := mid_over (H := HB) hq l hk hb c
   have hg2 := mid_none (H := HB) hq l hk hb (t := true) ⟨fun _ => c, fun _ => rfl⟩
   have hio := over_here (H := HB) (q := q) l ho c
   refine ⟨(toldAt HB q l k).length + 1, ?_⟩
   rw [w, nBy_next]
   rw [Lp_cont (in_over (fit_mid hq hl hk _ _) hg _ _ _ hio.symm _ _ _ _ (by omega) (by omega))]
   exact Lp_exit (in_none (fit_mid hq hl hk _ _) hg2 _ _ _ _ _ _ _ (by omega))
 | succ d ih =>
  intro j hj
  have hjT : j < (toldAt HB q l k).length := by omega
  have ha := all_at (H := HB) (q := q) l hk hjT
  obtain ⟨hn, hW⟩ := List.getElem?_eq_some_iff.1 ha
  have hg := mid_give (H := HB) hq l hk hb hjT
  rw [← hW] at hg
  obtain ⟨K, hK⟩ := ih (j + 1) (by omega)
  refine ⟨K, ?_⟩
  rw [Lp_cont (in_match (fit_mid hq hl hk _ _) (allL HB q l 5) (nBy HB q l k + j) j hn (by omega) hg _ _ (by omega))]
  exact hK
theorem in_all (hq : Made q) (hl : q.steps.length ≤ 1048576) (hb : l.length ≤ 1000) {k : Nat} (hk : k < l.length) :
    ∃ K, Lp (S.zkmz_17_r (allL HB q l 5).length (overL HB q l 5) k (allL HB q l 5)) (v17 (subMid HB q l k 0 (wasO HB q l k)) (nBy HB q l k) (endsB (wasO HB q l k)) 0) =
     some (0, v17 (subMid HB q l k (toldAt HB q l k).length (wasO HB q l (k + 1))) (nBy HB q l (k + 1)) (endsB (wasO HB q l (k + 1))) K) := by
 by_cases ho : (storeAt HB q l k).over = -1
 ·have w : wasO HB q l k = false := by unfold wasO; simp [ho]
  rw [w]
  exact in_from hq hl hb hk ho _ 0 (Nat.zero_add _)
 ·obtain ⟨k1, k2⟩ := over_keeps (H := HB) hq l hk ho
  have w : wasO HB q l k = true := by unfold wasO; simp [ho]
  have w2 : wasO HB q l (k + 1) = true := by unfold wasO; rw [k1]; simp [ho]
  have hg := mid_none (H := HB) hq l hk hb (t := true) ⟨fun _ => by rw [k1]; exact ho, fun _ => rfl⟩
  have hT : (toldAt HB q l k).length = 0 := by rw [k2]; rfl
  refine ⟨0, ?_⟩
  rw [hT] at hg ⊢
  rw [w, w2, nBy_next, hT, Nat.add_zero]
  exact Lp_exit (in_none (fit_mid hq hl hk _ _) hg _ _ _ _ _ _ _ (by omega))
theorem out_round (hq : Made q) (hl : q.steps.length ≤ 1048576) (hb : l.length ≤ 1000) {k : Nat} (hk : k < l.length) :
    S.zkmz_13_r l (allL HB q l 5).length (overL HB q l 5) (allL HB q l 5) (v13 (subAt HB q l k) (nBy HB q l k) (endsB (wasO HB q l k)) k) =
     some (none, v13 (subAt HB q l (k + 1)) (nBy HB q l (k + 1)) (endsB (wasO HB q l (k + 1))) (k + 1)) := by
 have z1 : ((k : Int) < (l.length : Int)) := by omega
 have z2 : (0 : Int) ≤ (k : Int) := by omega
 obtain ⟨K, hin⟩ := in_all hq hl hb hk
 have he : evAt l k = l[k] := by have := evAt_get hk; rw [List.getElem?_eq_getElem hk] at this; injection this with this; exact this.symm
 have hfe := sub_feed (H := HB) hq l hk hb
 rw [he] at hfe
 have F1 := fee_is (subAt HB q l k) l[k] k (fit_at hq hl (by omega))
 have F2 := fee_o (subAt HB q l k) l[k] k (fit_at hq hl (by omega))
 rw [hfe] at F2
 have hw : wasO HB q l (k + 1) = true ↔ (storeAt HB q l (k + 1)).over ≠ -1 := by unfold wasO; simp
 obtain ⟨a1, a2⟩ := mid_ack (H := HB) hq l hk hb (t := wasO HB q l (k + 1)) hw
 have G1 := ack_is (subMid HB q l k (toldAt HB q l k).length (wasO HB q l (k + 1))) (nBy HB q l (k + 1)) (fit_mid hq hl hk _ _)
 have G2 := ack_o (subMid HB q l k (toldAt HB q l k).length (wasO HB q l (k + 1))) (nBy HB q l (k + 1)) (fit_mid hq hl hk _ _) a1
 rw [a2] at G2
 unfold S.zkmz_13_r S.zkmz_13_R
 dsimp only [v13]
 rw [Int.toNat_natCast, getD_of l k _ hk, F1, F2]
 dsimp only [outFu]
 have hj : ∀ x, S.zkmz_17_j (allL HB q l 5).length (overL HB q l 5) k (allL HB q l 5) (v17 (subMid HB q l k 0 (wasO HB q l k)) (nBy HB q l k) (endsB (wasO HB q l k)) 0) x = (0 == x) := fun x => Lp_j_of hin x
 have hv : S.zkmz_17_v (allL HB q l 5).length (overL HB q l 5) k (allL HB q l 5) (v17 (subMid HB q l k 0 (wasO HB q l k)) (nBy HB q l k) (endsB (wasO HB q l k)) 0) = _ := Lp_v_of hin
 unfold v17 at hj hv
 rw [show ((0 : Nat) : Int) = 0 from rfl] at hj hv
 rw [hv, hj, hj]
 dsimp only
 rw [G1, G2]
 dsimp only [outAu]
 simp only [DT.run_br, DT.run_leaf, DT.run_fail, xdec, xnot, xwrap, e_xneI, z1, z2, decide_true, decide_false, cond_true, cond_false, Bool.not_true, Bool.and_self, beq_self_eq_true, ne_eq, not_true_eq_false, e_wrap1 (show k ≤ 1048576 by omega)]
theorem out_loop (hq : Made q) (hl : q.steps.length ≤ 1048576) (hb : l.length ≤ 1000) : ∀ d k, k + d = l.length →
    Lp (S.zkmz_13_r l (allL HB q l 5).length (overL HB q l 5) (allL HB q l 5)) (v13 (subAt HB q l k) (nBy HB q l k) (endsB (wasO HB q l k)) k) =
     some (1, v13 (subAt HB q l l.length) (nBy HB q l l.length) (endsB (wasO HB q l l.length)) l.length) := by
 intro d
 induction d with
 | zero =>
  intro k hk
  have : k = l.length := by omega
  subst this
  refine Lp_exit ?_
  unfold S.zkmz_13_r S.zkmz_13_R
  dsimp only [v13]
  have : ¬ ((l.length : Int) < (l.length : Int)) := by omega
  simp only [DT.run_br, DT.run_leaf, xdec, this, decide_false, cond_false]
 | succ d ih =>
  intro k hk
  rw [Lp_cont (out_round hq hl hb (by omega))]
  exact ih (k + 1) (by omega)
end
theorem law_SubGives (n0 : Option Bool) (f0 : Bool) (q : Query) (n1 : Option Bool) (f1 : Bool) (l : List (Ty .evt)) (wq : wfL wfStep q.steps) : S.zkmz n0 f0 q.steps q.within q.agg q.aggStep q.aggF n1 f1 l = some ⟨true⟩ := by
 have w1 : S.zyn3_is = true := q_awake15_is
 have w2 : S.zyn3_o.x0 = true := by unfold S.zyn3_o; rw [q_awake15]; rfl
 unfold S.zkmz S.zkmz_R; dsimp only
 simp only [DT.run_br, DT.run_leaf, DT.run_fail, w1, w2, q_few09_is, q_log_is l 25 (by decide), q_made_is q wq, xnot, Bool.not_true, cond_true, cond_false]
 cases hf : (S.zydq_o q.steps).x0 with
 | false => simp
 | true =>
 have hl : q.steps.length ≤ 1048576 := by have := q_few09_o _ hf; omega
 cases hg : (S.zgwp_o l 25).x0 with
 | false => simp
 | true =>
 have hlog := q_log_o l 25 (by decide) hg
 cases hm : (S.zjar_o q.steps q.within q.agg q.aggStep q.aggF).x0 with
 | false => simp
 | true =>
 have hq := q_made_o q wq hm
 have A1 := q_All2_is sorts39 n0 f0 q n1 f1 l 5 hl (by omega) (by omega)
 obtain ⟨g1, A2⟩ := q_All2_o sorts39 n0 f0 q n1 f1 l 5 hl (by omega) (by omega)
 have eN : S.z3am_o 1 1 q.steps q.within q.agg q.aggStep q.aggF = ⟨1, 1, q.steps, q.within, q.agg, q.aggStep, q.aggF, [], -1, 0, 0, [], false, 0, false⟩ := rfl
 have h := out_loop hq hl (by omega) l.length 0 (Nat.zero_add _)
 have e0 : v13 (subAt HB q l 0) (nBy HB q l 0) (endsB (wasO HB q l 0)) 0 = ⟨0, 0, 0, 1, 1, q.steps, q.within, q.agg, q.aggStep, q.aggF, [], -1, 0, 0, [], false, 0, false⟩ := by
  have w : wasO HB q l 0 = false := by unfold wasO; rw [store_zero]; rfl
  rw [sub_zero', w]
  rfl
 rw [e0] at h
 rw [A1, A2, q_Over_is q l 5 hl (by omega), q_Over_o q l 5 hl (by omega), eN]
 dsimp only
 simp only [S.zkmz_13_j, S.zkmz_13_v, Lp_j_of h, Lp_v_of h]
 dsimp only [v13]
 rw [n_all]
 have hov : (storeAt HB q l l.length).over = overL HB q l 5 := store_over l
 have hfin : (subAt HB q l l.length).fin ≠ 2 := by
  show finO HB q l l.length ≠ 2
  unfold finO; split <;> decide
 have hends : (xeqI ((endsB (wasO HB q l l.length) : Nat) : Int) 1 == xdec (overL HB q l 5 ≥ 0)) = true ∧ ((endsB (wasO HB q l l.length) : Nat) : Int) ≤ 1 := by
  unfold wasO
  rw [hov]
  rcases overL_cases (H := HB) (q := q) l 5 with ⟨h1, h2⟩ | ⟨e, h1, h2, h3, h4⟩
  ·rw [h1]; decide
  ·have c1 : overL HB q l 5 ≠ -1 := by rw [h2]; omega
   have c2 : overL HB q l 5 ≥ 0 := by rw [h2]; omega
   simp [c1, c2, xdec, endsB, xeqI]
 simp only [xdec, e_xeqI, e_xneI, hfin, decide_true, cond_true, cond_false, ne_eq, not_false_eq_true, Nat.reduceBEq, beq_self_eq_true] at hends ⊢
 simp only [hends.1, hends.2, decide_true, cond_true, cond_false, Bool.not_true]
end Go.Eng
