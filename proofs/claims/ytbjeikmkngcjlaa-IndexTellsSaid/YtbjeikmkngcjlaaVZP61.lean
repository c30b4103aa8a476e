/- How an expression goes on: the code's pile is the document's. -/
import Derived.Test.YtbjeikmkngcjlaaVZP60
set_option linter.unusedVariables false
set_option linter.unusedSimpArgs false
namespace Go.Eng
open Go Go.Eng
def stepV (v : List Val) (x : Opn) (P : List Val) : Option (List Val) :=
 if x.code = 0 then some (P ++ [x.v])
 else if x.code = 1 then (if h : x.arg.toNat < v.length then some (P ++ [v[x.arg.toNat]]) else none)
 else if x.code = 9 then (if h : 1 ≤ P.length then (if (P[P.length - 1]).kind = 1 then some (P.take (P.length - 1) ++ [truthV (decide ((P[P.length - 1]).n = 0))]) else none) else none)
 else (if h : 2 ≤ P.length then (twoV x.code P[P.length - 2] P[P.length - 1]).map (fun y => P.take (P.length - 2) ++ [y]) else none)
def goodP (P : List Val) : Prop := ∀ p ∈ P, mayV p = true ∧ wfVal p
theorem goodP_lay {P : List Val} (h : goodP P) (k : Nat) {w : Val} (hw : mayV w = true ∧ wfVal w) : goodP (P.take k ++ [w]) := by
 intro p hp
 rcases List.mem_append.mp hp with hp | hp
 ·exact h p (List.mem_of_mem_take hp)
 ·rw [List.mem_singleton.mp hp]; exact hw
theorem truth_good (b : Bool) : mayV (truthV b) = true ∧ wfVal (truthV b) := twoV_may (c := 6) (a := ⟨0, 0, ByteArray.empty⟩) (b := if b = true then ⟨0, 0, ByteArray.empty⟩ else ⟨0, 1, ByteArray.empty⟩) (by cases b <;> decide +kernel)
theorem stepV_good {v : List Val} {x : Opn} {P P' : List Val} (hv : goodP v) (hx : mayO x = true) (wx : wfVal x.v) (hP : goodP P) (h : stepV v x P = some P') : goodP P' ∧ P'.length ≤ P.length + 1 := by
 have hxv : mayV x.v = true := by unfold mayO at hx; simp only [Bool.and_eq_true] at hx; exact hx.2.2.2.2.2.2
 have one : ∀ (k : Nat) (w : Val), mayV w = true ∧ wfVal w → goodP (P.take k ++ [w]) ∧ (P.take k ++ [w]).length ≤ P.length + 1 := fun k w hw => ⟨goodP_lay hP k hw, by rw [List.length_append, List.length_take, List.length_singleton]; omega⟩
 have all : ∀ w : Val, mayV w = true ∧ wfVal w → goodP (P ++ [w]) ∧ (P ++ [w]).length ≤ P.length + 1 := fun w hw => by
  have := one P.length w hw; rwa [List.take_length] at this
 unfold stepV at h
 split at h
 ·injection h with h; rw [← h]; exact all _ ⟨hxv, wx⟩
 split at h
 ·split at h
  ·injection h with h; rw [← h]; exact all _ (hv _ (List.getElem_mem _))
  ·cases h
 split at h
 ·split at h
  ·split at h
   ·injection h with h; rw [← h]; exact one _ _ (truth_good _)
   ·cases h
  ·cases h
 ·split at h
  ·rename_i h2
   cases ht : twoV x.code P[P.length - 2] P[P.length - 1] with
   | none => rw [ht] at h; cases h
   | some w =>
    rw [ht] at h
    injection h with h
    rw [← h]
    exact one _ _ (twoV_may ht)
  ·cases h
structure EvA (i : Nat) (P : List Val) (st : S.zn3l_2_V) : Prop where
 t : st.t11_ = i
 l : st.h14_l = P.length
 b : P.length ≤ st.h_28.length
 h : st.h_28.take P.length = P.map ofV
theorem EvA_lay {i : Nat} {P : List Val} {st : S.zn3l_2_V} (e : EvA i P st) (k : Nat) (hk : k ≤ P.length) (w : Val) (f : Bool) : EvA (i + 1) (P.take k ++ [w]) ⟨((i + 1 : Nat) : Int), f, k + 1, st.h_28.take k ++ [ofV w]⟩ := by
 have hb := e.b
 have l1 : (P.take k ++ [w]).length = k + 1 := by rw [List.length_append, List.length_take, Nat.min_eq_left hk]; rfl
 have l2 : (st.h_28.take k ++ [ofV w]).length = k + 1 := by rw [List.length_append, List.length_take, Nat.min_eq_left (by omega)]; rfl
 refine ⟨rfl, l1.symm, by rw [l1, l2]; exact Nat.le_refl _, ?_⟩
 dsimp only
 rw [l1, List.take_of_length_le (by omega), List.map_append]
 congr 1
 have e1 : st.h_28.take k = (st.h_28.take P.length).take k := by rw [List.take_take, Nat.min_eq_left hk]
 rw [e1, e.h, ← List.map_take]
theorem EvA_get {i : Nat} {P : List Val} {st : S.zn3l_2_V} (e : EvA i P st) (k j : Nat) (hj : k + j < P.length) : (sub st.h_28 (0 + k) (0 + k + (P.length - k))).getD j (dflt ET.thing) = ofV P[k + j] := by
 have hb := e.b
 have h1 : (P.map ofV)[k + j]? = some (ofV P[k + j]) := by rw [List.getElem?_map, List.getElem?_eq_getElem hj]; rfl
 rw [← e.h, List.getElem?_take] at h1
 rw [if_pos hj] at h1
 unfold sub
 rw [List.getD_eq_getElem?_getD, List.getElem?_take, if_pos (by omega), List.getElem?_drop, Nat.zero_add, h1]; rfl
theorem q_ofV (k n : Int) (s : ByteArray) : S.expr_of k n s = some ⟨ofV ⟨k, n, s⟩⟩ := by
 unfold S.expr_of S.expr_of_R ofV
 simp only [DT.run_br, DT.run_leaf, e_xeqI]
 by_cases k0 : k = 0
 ·simp [k0]
 ·by_cases k1 : k = 1 <;> simp [k0, k1]
theorem evA_round (ops : List Opn) (v : List Val) (hv : goodP v) (hb : ops.length ≤ 12) (i : Nat) (hi : i < ops.length) (hx : mayO ops[i] = true) (P : List Val) (hP : goodP P) (hl : P.length ≤ i) (st : S.zn3l_2_V) (e : EvA i P st) :
    match stepV v ops[i] P with
    | some P' => ∃ st', S.zn3l_2_r ops ops.length v false st = some (none, st') ∧ EvA (i + 1) P' st'
    | none => ∃ j, j < 19 ∧ S.zn3l_2_r ops ops.length v false st = some (some j, st) := by
 have lay := EvA_lay e
 have get := EvA_get e
 have hbb := e.b
 obtain ⟨t, f, l, h⟩ := st
 obtain ⟨e1, e2, e3, e4⟩ := e
 dsimp only at e1 e2 e3 e4 lay get hbb
 subst e1; subst e2
 have g1 : ((i : Int) < (ops.length : Int)) := by omega
 have g2 : (0 : Int) ≤ (i : Int) := by omega
 have w1 : IntKind.i64.wrap ((i : Int) + 1) = ((i + 1 : Nat) : Int) := e_wrap1 (by omega)
 have w2 : IntKind.i64.wrap ((P.length : Int) - 1) = (P.length : Int) - 1 := e_wrap (by omega) (by omega)
 have w3 : IntKind.i64.wrap ((P.length : Int) - 2) = (P.length : Int) - 2 := e_wrap (by omega) (by omega)
 have eg : @List.getD (Ty ET.op) ops i (dflt ET.op) = ops[i] := getD_of (α := Opn) ops i _ hi
 have big : P.length + 1 ≤ 1048576 := by omega
 have z00 : ¬ ¬ (0 : Int) = 0 := fun h => h rfl
 have z20 : ¬ (2 : Int) = 0 := by decide
 have z30 : ¬ (3 : Int) = 0 := by decide
 have z50 : ¬ (5 : Int) = 0 := by decide
 unfold S.zn3l_2_r S.zn3l_2_R
 dsimp only
 rw [Int.toNat_natCast, eg]
 generalize ops[i] = x at hx ⊢
 obtain ⟨c, g, w⟩ := x
 simp only [DT.run_br, DT.run_leaf, DT.run_fail, xdec, xwrap, xnot, e_xeqI, e_xneI, ne_eq, w1, w2, w3, g1, g2, decide_true, Bool.and_self, cond_true]
 by_cases c0 : c = 0
 ·subst c0
  have k := q_ofV w.kind w.n w.s
  unfold stepV
  rw [if_pos rfl]
  have := lay P.length (Nat.le_refl _) w false
  rw [List.take_length] at this
  refine ⟨_, ?_, this⟩
  simp only [S.expr_of_is, S.expr_of_o, k, Option.isSome_some, Option.getD_some, decide_true, decide_false, cond_true, cond_false, z00, hbb, big, List.length_set, List.length_replicate, Nat.zero_add, Nat.le_refl, Bool.and_self]
  rfl
 by_cases c1 : c = 1
 ·subst c1
  have hg : 0 ≤ g := by unfold mayO at hx; simp only [Bool.and_eq_true, decide_eq_true_eq] at hx; exact hx.2.2.1
  unfold stepV
  rw [if_neg c0, if_pos rfl]
  dsimp only
  by_cases hgl : g.toNat < v.length
  ·rw [dif_pos hgl]
   have eg2 : @List.getD (Ty ET.val) v g.toNat (dflt ET.val) = v[g.toNat] := getD_of (α := Val) v _ _ hgl
   have n1 : ¬ g ≥ (v.length : Int) := by omega
   have n2 : g < (v.length : Int) := by omega
   have k := q_ofV (v[g.toNat]).kind (v[g.toNat]).n (v[g.toNat]).s
   have := lay P.length (Nat.le_refl _) v[g.toNat] false
   rw [List.take_length] at this
   refine ⟨_, ?_, this⟩
   rw [eg2]
   simp only [S.expr_of_is, S.expr_of_o, k, Option.isSome_some, Option.getD_some, c0, n1, n2, hg, decide_true, decide_false, cond_true, cond_false, z00, hbb, big, List.length_set, List.length_replicate, Nat.zero_add, Nat.le_refl, Bool.and_self]
   rfl
  ·rw [dif_neg hgl]
   have n1 : g ≥ (v.length : Int) := by omega
   refine ⟨1, by decide, ?_⟩
   simp only [c0, n1, z30, not_false_eq_true, decide_true, decide_false, cond_true, cond_false]
 by_cases c9 : c = 9
 ·subst c9
  unfold stepV
  rw [if_neg c0, if_neg c1, if_pos rfl]
  by_cases hp : 1 ≤ P.length
  ·rw [dif_pos hp]
   have ek : ((P.length : Int) - 1).toNat = P.length - 1 := by omega
   have n1 : ¬ ((P.length : Int) - 1 < 0) := by omega
   have n2 : (0 : Int) ≤ (P.length : Int) - 1 := by omega
   have n3 : (P.length : Int) - 1 ≤ Int.ofNat P.length := by show (P.length : Int) - 1 ≤ (P.length : Int); omega
   have hsl : (sub h (0 + (P.length - 1)) (0 + (P.length - 1) + (P.length - (P.length - 1)))).length = 1 := by rw [pile_len hbb]; omega
   have hcl := q_cloneT (a := sub h (0 + (P.length - 1)) (0 + (P.length - 1) + (P.length - (P.length - 1)))) (by rw [hsl]; decide)
   have g0 := get (P.length - 1) 0 (by omega)
   have n4 : 0 + (P.length - 1) + (P.length - (P.length - 1)) ≤ h.length := by omega
   have t0 : 0 + Int.toNat 0 = 0 := rfl
   rw [ek, t0]
   simp only [c0, c1, decide_true, decide_false, cond_true, cond_false, n1, n2, n3, n4, S.zfst_is, S.zfst_o, hcl, Option.isSome_some, Option.getD_some, Bool.and_self, Bool.not_true, hsl, g0, ofV_isB]
   have n5 : (0 : Int) ≤ 0 := by decide
   have n6 : (0 : Int) < ((1 : Nat) : Int) := by decide
   have n7 : 0 < 1 := by decide
   simp only [n5, n6, n7, decide_true, cond_true, Bool.and_self]
   have e0 : P[P.length - 1 + 0] = P[P.length - 1] := rfl
   rw [e0]
   by_cases k1 : (P[P.length - 1]).kind = 1
   ·rw [if_pos k1]
    have n8 : P.length - 1 ≤ h.length := by omega
    have n9 : P.length - 1 + 1 ≤ 1048576 := by omega
    have hmn := mayV_one (hP _ (List.getElem_mem (show P.length - 1 < P.length by omega))).1 k1
    have et : ofV (truthV (decide ((P[P.length - 1]).n = 0))) = .one 128 (.bool (!Thing.asB 128 (ofV P[P.length - 1]))) := by
     rw [ofV_truth, ofV_asB k1]
     rcases hmn with hh | hh <;> rw [hh] <;> rfl
    refine ⟨_, ?_, lay (P.length - 1) (by omega) (truthV (decide ((P[P.length - 1]).n = 0))) false⟩
    rw [et]
    simp only [Int.le_refl, Nat.le_refl, Nat.zero_le, Bool.and_true, Bool.true_and, Bool.and_self, not_true, k1, decide_true, decide_false, Bool.not_true, cond_false, cond_true, n8, n9, z00, List.length_set, List.length_replicate, Nat.zero_add, Nat.le_refl, Bool.and_self]
   ·rw [if_neg k1]
    refine ⟨7, by decide, ?_⟩
    simp only [Int.le_refl, Nat.le_refl, Nat.zero_le, Bool.and_true, Bool.true_and, Bool.and_self, not_true, k1, decide_false, Bool.not_false, cond_true, z50, not_false_eq_true, decide_true]
  ·rw [dif_neg hp]
   have n1 : (P.length : Int) - 1 < 0 := by omega
   refine ⟨3, by decide, ?_⟩
   simp only [c0, c1, n1, z20, not_false_eq_true, decide_true, decide_false, cond_true, cond_false, Bool.not_false]
 ·unfold stepV
  rw [if_neg c0, if_neg c1, if_neg c9]
  dsimp only
  by_cases hp : 2 ≤ P.length
  ·rw [dif_pos hp]
   have ek : ((P.length : Int) - 2).toNat = P.length - 2 := by omega
   have n1 : ¬ ((P.length : Int) - 2 < 0) := by omega
   have n2 : (0 : Int) ≤ (P.length : Int) - 2 := by omega
   have n3 : (P.length : Int) - 2 ≤ Int.ofNat P.length := by show (P.length : Int) - 2 ≤ (P.length : Int); omega
   have hsl : (sub h (0 + (P.length - 2)) (0 + (P.length - 2) + (P.length - (P.length - 2)))).length = 2 := by rw [pile_len hbb]; omega
   have hcl := q_cloneT (a := sub h (0 + (P.length - 2)) (0 + (P.length - 2) + (P.length - (P.length - 2)))) (by rw [hsl]; decide)
   have g0 := get (P.length - 2) 0 (by omega)
   have g1' := get (P.length - 2) 1 (by omega)
   have n4 : 0 + (P.length - 2) + (P.length - (P.length - 2)) ≤ h.length := by omega
   have t0 : 0 + Int.toNat 0 = 0 := rfl
   have t1 : 0 + Int.toNat 1 = 1 := rfl
   have e0 : P[P.length - 2 + 0] = P[P.length - 2] := rfl
   have e1 : P[P.length - 2 + 1]'(by omega) = P[P.length - 1] := by congr 1; omega
   rw [e0] at g0
   rw [e1] at g1'
   rw [ek, t0, t1]
   have n5 : (0 : Int) ≤ 0 := by decide
   have n6 : (0 : Int) < ((2 : Nat) : Int) := by decide
   have n7 : 0 < 2 := by decide
   have n8 : (0 : Int) ≤ 1 := by decide
   have n9 : (1 : Int) < ((2 : Nat) : Int) := by decide
   have n10 : 1 < 2 := by decide
   obtain ⟨m1, m2⟩ := hP _ (List.getElem_mem (show P.length - 2 < P.length by omega))
   obtain ⟨m3, m4⟩ := hP _ (List.getElem_mem (show P.length - 1 < P.length by omega))
   obtain ⟨tt, ee, q1, q2⟩ := q_twoE c m1 m3 m2 m4
   simp only [c0, c1, c9, decide_true, decide_false, cond_true, cond_false, n1, n2, n3, n4, S.zfst_is, S.zfst_o, hcl, Option.isSome_some, Option.getD_some, Bool.and_self, Bool.not_true, hsl, g0, g1', n5, n6, n7, n8, n9, n10, S.zoxb_is, S.zoxb_o, q1]
   cases ht : twoV c P[P.length - 2] P[P.length - 1] with
   | some y =>
    rw [ht] at q2
    obtain ⟨rfl, rfl⟩ := q2
    have n11 : P.length - 2 ≤ h.length := by omega
    have n12 : P.length - 2 + 1 ≤ 1048576 := by omega
    refine ⟨_, ?_, lay (P.length - 2) (by omega) y false⟩
    simp only [Int.le_refl, Nat.le_refl, Nat.zero_le, Bool.and_true, Bool.true_and, Bool.and_self, not_true, z00, n11, n12, decide_true, decide_false, cond_true, cond_false, List.length_set, List.length_replicate, Nat.zero_add, Nat.le_refl, Bool.and_self]
   | none =>
    rw [ht] at q2
    have q2 : ¬ ee = 0 := q2
    refine ⟨18, by decide, ?_⟩
    simp only [Int.le_refl, Nat.le_refl, Nat.zero_le, Bool.and_true, Bool.true_and, Bool.and_self, not_true, q2, not_false_eq_true, decide_true, decide_false, cond_true, cond_false]
  ·rw [dif_neg hp]
   have n1 : (P.length : Int) - 2 < 0 := by omega
   refine ⟨9, by decide, ?_⟩
   simp only [c0, c1, c9, n1, z20, not_false_eq_true, decide_true, decide_false, cond_true, cond_false, Bool.not_false]
end Go.Eng
