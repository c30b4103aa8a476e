/- Whether an expression holds: the code's word is the document's. -/
import Derived.Test.YtbjeikmkngcjlaaVZP61
set_option linter.unusedVariables false
set_option linter.unusedSimpArgs false
namespace Go.Eng
open Go Go.Eng
def evalV (v : List Val) : List Opn → List Val → Option (List Val)
 | [], P => some P
 | x :: xs, P => match stepV v x P with
  | some P' => evalV v xs P'
  | none => none
theorem evA_loop (ops : List Opn) (v : List Val) (hv : goodP v) (hb : ops.length ≤ 12) (hx : ∀ x ∈ ops, mayO x = true ∧ wfVal x.v) : ∀ (k i : Nat) (P : List Val) (st : S.zn3l_2_V), i + k = ops.length → P.length ≤ i → goodP P → EvA i P st →
    ∃ j st', Lp (S.zn3l_2_r ops ops.length v false) st = some (j, st') ∧ match evalV v (ops.drop i) P with
     | some P' => j = 19 ∧ EvA ops.length P' st' ∧ goodP P'
     | none => j < 19
 | 0, i, P, st, hi, hl, hP, e => by
  have e0 : ops.drop i = [] := List.drop_eq_nil_of_le (by omega)
  rw [e0]
  have hi' : i = ops.length := by omega
  subst hi'
  refine ⟨19, st, Lp_exit ?_, rfl, e, hP⟩
  have h1 : ¬ (st.t11_ < (ops.length : Int)) := by rw [e.t]; omega
  unfold S.zn3l_2_r S.zn3l_2_R
  simp only [DT.run_br, DT.run_leaf, xdec, h1, decide_false, cond_false]
 | k + 1, i, P, st, hi, hl, hP, e => by
  have hlt : i < ops.length := by omega
  rw [List.drop_eq_getElem_cons hlt]
  obtain ⟨hx1, hx2⟩ := hx _ (List.getElem_mem hlt)
  have r := evA_round ops v hv hb i hlt hx1 P hP hl st e
  unfold evalV
  cases hs : stepV v ops[i] P with
  | none =>
   rw [hs] at r
   obtain ⟨j, h1, h2⟩ := r
   exact ⟨j, st, Lp_exit h2, h1⟩
  | some P' =>
   rw [hs] at r
   obtain ⟨st', h1, h2⟩ := r
   obtain ⟨g1, g2⟩ := stepV_good hv hx1 hx2 hP hs
   obtain ⟨j, st2, q1, q2⟩ := evA_loop ops v hv hb hx k (i + 1) P' st' (by omega) (by omega) g1 h2
   exact ⟨j, st2, by rw [Lp_cont h1, q1], q2⟩
structure EvR (i : Nat) (P : List Val) (st : S.ztk7_3_V) : Prop where
 t : st.t9_ = i
 l : st.t8_l = P.length
 b : P.length ≤ st.h_4.length
 h : st.h_4.take P.length = P
theorem EvR_lay {i : Nat} {P : List Val} {st : S.ztk7_3_V} (e : EvR i P st) (k : Nat) (hk : k ≤ P.length) (w : Val) (f : Bool) : EvR (i + 1) (P.take k ++ [w]) ⟨f, k + 1, ((i + 1 : Nat) : Int), st.h_4.take k ++ [w]⟩ := by
 have hb := e.b
 have l1 : (P.take k ++ [w]).length = k + 1 := by rw [List.length_append, List.length_take, Nat.min_eq_left hk]; rfl
 have l2 : (st.h_4.take k ++ [w]).length = k + 1 := by rw [List.length_append, List.length_take, Nat.min_eq_left (by omega)]; rfl
 refine ⟨rfl, l1.symm, by rw [l1, l2]; exact Nat.le_refl _, ?_⟩
 dsimp only
 rw [l1, List.take_of_length_le (by omega)]
 congr 1
 have e1 : st.h_4.take k = (st.h_4.take P.length).take k := by rw [List.take_take, Nat.min_eq_left hk]
 rw [e1, e.h]
theorem EvR_set {i : Nat} {P : List Val} {st : S.ztk7_3_V} (e : EvR i P st) (hk : 1 ≤ P.length) (w : Val) (f : Bool) : EvR (i + 1) (P.take (P.length - 1) ++ [w]) ⟨f, P.length, ((i + 1 : Nat) : Int), st.h_4.set (P.length - 1) w⟩ := by
 have hb := e.b
 have l1 : (P.take (P.length - 1) ++ [w]).length = P.length := by rw [List.length_append, List.length_take, Nat.min_eq_left (by omega), List.length_singleton]; omega
 refine ⟨rfl, l1.symm, by rw [l1, List.length_set]; exact hb, ?_⟩
 dsimp only
 rw [l1]
 have e2 : (st.h_4.set (P.length - 1) w).take P.length = (st.h_4.take P.length).set (P.length - 1) w := by rw [List.take_set]
 rw [e2, e.h]
 have e3 : P.set (P.length - 1) w = P.take (P.length - 1) ++ w :: P.drop (P.length - 1 + 1) := List.set_eq_take_append_cons_drop .. |>.trans (by rw [if_pos (by omega)])
 rw [e3, List.drop_eq_nil_of_le (by omega)]
theorem EvR_get {i : Nat} {P : List Val} {st : S.ztk7_3_V} (e : EvR i P st) (k : Nat) (hk : k < P.length) : @List.getD (Ty ET.val) st.h_4 k (dflt ET.val) = P[k] := by
 have hb := e.b
 have h1 : P[k]? = some P[k] := List.getElem?_eq_getElem hk
 have h2 : (st.h_4.take P.length)[k]? = P[k]? := congrArg (fun l : List Val => l[k]?) e.h
 rw [h1] at h2
 rw [List.getElem?_take, if_pos hk] at h2
 rw [List.getD_eq_getElem?_getD, h2]; rfl
theorem evR_round (ops : List Opn) (v : List Val) (hv : goodP v) (hb : ops.length ≤ 12) (i : Nat) (hi : i < ops.length) (hx : mayO ops[i] = true) (P : List Val) (hP : goodP P) (hl : P.length ≤ i) (st : S.ztk7_3_V) (e : EvR i P st) :
    match stepV v ops[i] P with
    | some P' => ∃ st', S.ztk7_3_r v ops false st = some (none, st') ∧ EvR (i + 1) P' st'
    | none => ∃ j, j < 4 ∧ S.ztk7_3_r v ops false st = some (some j, st) := by
 have lay := EvR_lay e
 have get := EvR_get e
 have set := fun h => EvR_set e h
 have hbb := e.b
 obtain ⟨f, l, t, h⟩ := st
 obtain ⟨e1, e2, e3, e4⟩ := e
 dsimp only at e1 e2 e3 e4 lay get set hbb
 subst e1; subst e2
 have g1 : ((i : Int) < (ops.length : Int)) := by omega
 have g2 : (0 : Int) ≤ (i : Int) := by omega
 have w1 : IntKind.i64.wrap ((i : Int) + 1) = ((i + 1 : Nat) : Int) := e_wrap1 (by omega)
 have w2 : IntKind.i64.wrap ((P.length : Int) - 1) = (P.length : Int) - 1 := e_wrap (by omega) (by omega)
 have w3 : IntKind.i64.wrap ((P.length : Int) - 2) = (P.length : Int) - 2 := e_wrap (by omega) (by omega)
 have eg : @List.getD (Ty ET.op) ops i (dflt ET.op) = ops[i] := getD_of (α := Opn) ops i _ hi
 have big : P.length + 1 ≤ 1048576 := by omega
 unfold S.ztk7_3_r S.ztk7_3_R
 dsimp only
 rw [Int.toNat_natCast, eg]
 generalize ops[i] = x at hx ⊢
 obtain ⟨c, g, w⟩ := x
 simp only [DT.run_br, DT.run_leaf, DT.run_fail, xdec, xwrap, xnot, e_xeqI, e_xneI, ne_eq, w1, w2, w3, g1, g2, decide_true, Bool.and_self, cond_true]
 by_cases c0 : c = 0
 ·subst c0
  unfold stepV
  rw [if_pos rfl]
  have := lay P.length (Nat.le_refl _) w false
  rw [List.take_length] at this
  refine ⟨_, ?_, this⟩
  simp only [decide_true, decide_false, cond_true, cond_false, hbb, big, List.length_set, List.length_replicate, Nat.zero_add, Nat.le_refl, Bool.and_self]
 by_cases c1 : c = 1
 ·subst c1
  have hg : 0 ≤ g := by unfold mayO at hx; simp only [Bool.and_eq_true, decide_eq_true_eq] at hx; exact hx.2.2.1
  unfold stepV
  rw [if_neg c0, if_pos rfl]
  dsimp only
  by_cases hgl : g.toNat < v.length
  ·rw [dif_pos hgl]
   have eg2 : @List.getD (Ty ET.val) v g.toNat (dflt ET.val) = v[g.toNat] := getD_of (α := Val) v _ _ hgl
   have n1 : ¬ g ≥ (v.length : Int) := by omega
   have n2 : g < (v.length : Int) := by omega
   have := lay P.length (Nat.le_refl _) v[g.toNat] false
   rw [List.take_length] at this
   refine ⟨_, ?_, this⟩
   rw [eg2]
   simp only [c0, n1, n2, hg, decide_true, decide_false, cond_true, cond_false, hbb, big, List.length_set, List.length_replicate, Nat.zero_add, Nat.le_refl, Bool.and_self]
  ·rw [dif_neg hgl]
   have n1 : g ≥ (v.length : Int) := by omega
   refine ⟨0, by decide, ?_⟩
   simp only [c0, n1, decide_true, decide_false, cond_true, cond_false]
 by_cases c9 : c = 9
 ·subst c9
  unfold stepV
  rw [if_neg c0, if_neg c1, if_pos rfl]
  by_cases hp : 1 ≤ P.length
  ·rw [dif_pos hp]
   have ek : 0 + ((P.length : Int) - 1).toNat = P.length - 1 := by omega
   have n1 : ¬ ((P.length : Int) < 1) := by omega
   have n2 : (0 : Int) ≤ (P.length : Int) - 1 := by omega
   have n3 : (P.length : Int) - 1 < (P.length : Int) := by omega
   have n4 : P.length - 1 < h.length := by omega
   rw [ek, get (P.length - 1) (by omega)]
   by_cases k1 : (P[P.length - 1]).kind = 1
   ·rw [if_pos k1]
    refine ⟨_, ?_, set hp (truthV (decide ((P[P.length - 1]).n = 0))) f⟩
    have k := q_truth (decide ((P[P.length - 1]).n = 0))
    simp only [c0, c1, n1, n2, n3, n4, k1, not_true, S.zrif_is, S.zrif_o, k, Option.isSome_some, Option.getD_some, decide_true, decide_false, cond_true, cond_false, Bool.and_self]
   ·rw [if_neg k1]
    refine ⟨2, by decide, ?_⟩
    simp only [c0, c1, n1, n2, n3, n4, k1, not_false_eq_true, decide_true, decide_false, cond_true, cond_false, Bool.and_self]
  ·rw [dif_neg hp]
   have n1 : (P.length : Int) < 1 := by omega
   refine ⟨1, by decide, ?_⟩
   simp only [c0, c1, n1, decide_true, decide_false, cond_true, cond_false]
 ·unfold stepV
  rw [if_neg c0, if_neg c1, if_neg c9]
  dsimp only
  by_cases hp : 2 ≤ P.length
  ·rw [dif_pos hp]
   have ek : 0 + ((P.length : Int) - 1).toNat = P.length - 1 := by omega
   have ek2 : 0 + ((P.length : Int) - 2).toNat = P.length - 2 := by omega
   have ek3 : ((P.length : Int) - 2).toNat = P.length - 2 := by omega
   have n1 : ¬ ((P.length : Int) < 2) := by omega
   have n2 : (0 : Int) ≤ (P.length : Int) - 1 := by omega
   have n3 : (P.length : Int) - 1 < (P.length : Int) := by omega
   have n4 : P.length - 1 < h.length := by omega
   have n5 : (0 : Int) ≤ (P.length : Int) - 2 := by omega
   have n6 : (P.length : Int) - 2 < (P.length : Int) := by omega
   have n7 : P.length - 2 < h.length := by omega
   have n8 : (P.length : Int) - 2 ≤ Int.ofNat P.length := by show (P.length : Int) - 2 ≤ (P.length : Int); omega
   rw [ek, ek2, ek3, get (P.length - 1) (by omega), get (P.length - 2) (by omega)]
   obtain ⟨m1, m2⟩ := hP _ (List.getElem_mem (show P.length - 2 < P.length by omega))
   obtain ⟨m3, m4⟩ := hP _ (List.getElem_mem (show P.length - 1 < P.length by omega))
   obtain ⟨tt, ee, q1, q2⟩ := q_twoR c m1 m3 m4
   simp only [c0, c1, c9, n1, n2, n3, n4, n5, n6, n7, n8, decide_true, decide_false, cond_true, cond_false, Bool.and_self, S.zwln_is, S.zwln_o, q1, Option.isSome_some, Option.getD_some]
   cases ht : twoV c P[P.length - 2] P[P.length - 1] with
   | some y =>
    rw [ht] at q2
    obtain ⟨rfl, rfl⟩ := q2
    have n11 : P.length - 2 ≤ h.length := by omega
    have n12 : P.length - 2 + 1 ≤ 1048576 := by omega
    refine ⟨_, ?_, lay (P.length - 2) (by omega) tt false⟩
    simp only [not_true, n11, n12, decide_true, decide_false, cond_true, cond_false, List.length_set, List.length_replicate, Nat.zero_add, Nat.le_refl, Bool.and_self]
   | none =>
    rw [ht] at q2
    have q2 : ¬ ee = 0 := q2
    refine ⟨3, by decide, ?_⟩
    simp only [q2, not_false_eq_true, decide_true, cond_true]
  ·rw [dif_neg hp]
   have n1 : (P.length : Int) < 2 := by omega
   refine ⟨1, by decide, ?_⟩
   simp only [c0, c1, c9, n1, decide_true, decide_false, cond_true, cond_false]
theorem evR_loop (ops : List Opn) (v : List Val) (hv : goodP v) (hb : ops.length ≤ 12) (hx : ∀ x ∈ ops, mayO x = true ∧ wfVal x.v) : ∀ (k i : Nat) (P : List Val) (st : S.ztk7_3_V), i + k = ops.length → P.length ≤ i → goodP P → EvR i P st →
    ∃ j st', Lp (S.ztk7_3_r v ops false) st = some (j, st') ∧ match evalV v (ops.drop i) P with
     | some P' => j = 4 ∧ EvR ops.length P' st' ∧ P'.length ≤ ops.length
     | none => j < 4
 | 0, i, P, st, hi, hl, hP, e => by
  have e0 : ops.drop i = [] := List.drop_eq_nil_of_le (by omega)
  rw [e0]
  have hi' : i = ops.length := by omega
  subst hi'
  refine ⟨4, st, Lp_exit ?_, rfl, e, hl⟩
  have h1 : ¬ (st.t9_ < (ops.length : Int)) := by rw [e.t]; omega
  unfold S.ztk7_3_r S.ztk7_3_R
  simp only [DT.run_br, DT.run_leaf, xdec, h1, decide_false, cond_false]
 | k + 1, i, P, st, hi, hl, hP, e => by
  have hlt : i < ops.length := by omega
  rw [List.drop_eq_getElem_cons hlt]
  obtain ⟨hx1, hx2⟩ := hx _ (List.getElem_mem hlt)
  have r := evR_round ops v hv hb i hlt hx1 P hP hl st e
  unfold evalV
  cases hs : stepV v ops[i] P with
  | none =>
   rw [hs] at r
   obtain ⟨j, h1, h2⟩ := r
   exact ⟨j, st, Lp_exit h2, h1⟩
  | some P' =>
   rw [hs] at r
   obtain ⟨st', h1, h2⟩ := r
   obtain ⟨g1, g2⟩ := stepV_good hv hx1 hx2 hP hs
   obtain ⟨j, st2, q1, q2⟩ := evR_loop ops v hv hb hx k (i + 1) P' st' (by omega) (by omega) g1 h2
   exact ⟨j, st2, by rw [Lp_cont h1, q1], q2⟩
end Go.Eng
