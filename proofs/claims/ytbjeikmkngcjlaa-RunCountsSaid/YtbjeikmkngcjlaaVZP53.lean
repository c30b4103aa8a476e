/- The law of what a Count tells. -/
import Derived.Test.YtbjeikmkngcjlaaVZP6
import Derived.Test.YtbjeikmkngcjlaaVZM4
import Derived.Test.YtbjeikmkngcjlaaVZL13
set_option linter.unusedVariables false
set_option linter.unusedSimpArgs false
namespace Go.Eng
open Go Go.Eng
def stC (f : Int) (i : Nat) (r : Run) : S.z64k_12_V := ⟨f, (i : Int), r.first, r.at_, r.step, r.n, r.many, r.agg, r.bad⟩
def stepC (n : Int) : Step := ⟨bA, [], n, n, false, ByteArray.empty, []⟩
theorem count_walk (l : List (Ty .int)) (agg : Int) (hx : ∀ x ∈ (show List Int from l), -9223372036854775808 ≤ x ∧ x ≤ 9223372036854775807) (hb : l.length ≤ 4) (h0 : 0 ≤ agg) (h4 : agg < 4) :
    ∀ (k i : Nat) (r : Run), i + k = l.length → 0 < i → CountInv agg l i r →
     ∃ r', CountInv agg l l.length r' ∧ Lp (S.z64k_12_r l l.length [stepC l.length] 1 0 agg 0 0) (stC (if (i : Int) ≥ (l.length : Int) then 2 else 0) i r) = some (0, stC 2 l.length r')
 | 0, i, r, hi, hp, hr => by
  have e : i = l.length := by omega
  subst e
  refine ⟨r, hr, ?_⟩
  rw [if_pos (Int.le_refl _)]
  refine Lp_exit ?_
  unfold S.z64k_12_r S.z64k_12_R stC
  simp [DT.run_br, DT.run_leaf, xdec]
 | k + 1, i, r, hi, hp, hr => by
  have hlt : i < l.length := by omega
  obtain ⟨g1, g2⟩ := count_next (H := HB) HB_Plain (a := bA) (n := (l.length : Int)) hx hp hlt hb rfl h0 h4 hr
  obtain ⟨r', q1, q2⟩ := count_walk l agg hx hb h0 h4 k (i + 1) _ (by omega) (by omega) g1
  refine ⟨r', q1, ?_⟩
  rw [← q2]
  refine Lp_cont ?_
  have c1 : ¬ ((i : Int) ≥ (l.length : Int)) := by omega
  rw [if_neg c1, ← g2]
  have h1 : ((i : Int) < (l.length : Int)) := by omega
  have h2 : (0 : Int) ≤ (i : Int) := by omega
  have w : IntKind.i64.wrap ((i : Int) + 1) = ((i + 1 : Nat) : Int) := e_wrap1 (by omega)
  have hl1 : (qCount bA l.length agg).steps.length ≤ 1048576 := (by decide : (1 : Nat) ≤ 1048576)
  have n1 := q_Next_is (qCount bA l.length agg) r (evC bA (show List Int from l)[i]) hl1
  have n2 := q_Next_o (qCount bA l.length agg) r (evC bA (show List Int from l)[i]) hl1
  unfold S.z64k_12_r S.z64k_12_R stC
  dsimp only
  have e1 : @List.getD (Ty ET.int) l i (dflt ET.int) = (show List Int from l)[i] := getD_of (α := Int) l i _ hlt
  rw [Int.toNat_natCast, e1]
  have e2 : sub [stepC l.length] 0 (0 + 1) = (qCount bA l.length agg).steps := rfl
  have e3 : sub [({ kind := 0, n := (show List Int from l)[i], s := ByteArray.empty : Val })] 0 (0 + 1) = (evC bA (show List Int from l)[i]).v := rfl
  have e4 : ({ data := { toList := [97] : Array UInt8 } : ByteArray }) = bA := rfl
  rw [e2, e3, e4]
  have n1' : S.zwus_is (qCount bA l.length agg).steps 0 agg 0 0 r.first r.at_ r.step r.n r.many r.agg r.bad bA 0 (evC bA (show List Int from l)[i]).v = true := n1
  have n2' : S.zwus_o (qCount bA l.length agg).steps 0 agg 0 0 r.first r.at_ r.step r.n r.many r.agg r.bad bA 0 (evC bA (show List Int from l)[i]).v = outN (nextL HB (qCount bA l.length agg) r (evC bA (show List Int from l)[i])) := n2
  rw [n1', n2']
  simp only [DT.run_br, DT.run_leaf, DT.run_fail, xdec, xwrap, e_xeqI, h1, h2, w, decide_true, Bool.and_self, Bool.and_true, Bool.true_and, cond_true, List.length_set, List.length_replicate, List.length_singleton, Nat.zero_add, Nat.le_refl]
  rfl
theorem count_all (l : List (Ty .int)) (agg : Int) (hx : ∀ x ∈ (show List Int from l), -9223372036854775808 ≤ x ∧ x ≤ 9223372036854775807) (hb : l.length ≤ 4) (hp : 0 < l.length) (h0 : 0 ≤ agg) (h4 : agg < 4) :
    S.zvb5_is [stepC l.length] agg 0 0 bA 0 [⟨0, (show List Int from l)[0], ByteArray.empty⟩] 0 = true ∧
    ∃ b, S.zvb5_o [stepC l.length] agg 0 0 bA 0 [⟨0, (show List Int from l)[0], ByteArray.empty⟩] 0 = b ∧
     ∃ r', CountInv agg l l.length r' ∧ Lp (S.z64k_12_r l l.length [stepC l.length] 1 0 agg 0 0) ⟨b.x7, 1, b.x0, b.x1, b.x2, b.x3, b.x4, b.x5, b.x6⟩ = some (0, stC 2 l.length r') := by
 have hl1 : (qCount bA l.length agg).steps.length ≤ 1048576 := (by decide : (1 : Nat) ≤ 1048576)
 have n1 := q_Begin_is (qCount bA l.length agg) (evC bA (show List Int from l)[0]) 0 hl1
 have n2 := q_Begin_o (qCount bA l.length agg) (evC bA (show List Int from l)[0]) 0 hl1
 obtain ⟨g1, g2⟩ := count_begin (H := HB) HB_Plain (a := bA) (n := (l.length : Int)) hx hp h0 h4
 refine ⟨n1, _, n2, ?_⟩
 obtain ⟨r', q1, q2⟩ := count_walk l agg hx hb h0 h4 (l.length - 1) 1 _ (by omega) (by omega) g1
 refine ⟨r', q1, ?_⟩
 rw [← q2]
 have : ((1 : Nat) : Int) = 1 := rfl
 rw [this, ← g2]
 rfl
theorem law_RunCounts (l : List (Ty .int)) (hx : ∀ x ∈ (show List Int from l), -9223372036854775808 ≤ x ∧ x ≤ 9223372036854775807) : S.z64k l = some ⟨true⟩ := by
 unfold S.z64k S.z64k_R; dsimp only
 rw [q_awake11_is, q_awake11_o]
 by_cases c1 : (l.length : Int) < 1
 ·simp [DT.run_br, DT.run_leaf, DT.run_fail, xdec, xnot, c1]
 by_cases c2 : (l.length : Int) > 4
 ·simp [DT.run_br, DT.run_leaf, DT.run_fail, xdec, xnot, c1, c2]
 have hb : l.length ≤ 4 := by omega
 have hp : 0 < l.length := by omega
 have hp2 : (0 : Int) < (l.length : Int) := by omega
 have e1 : @List.getD (Ty ET.int) l (Int.toNat 0) (dflt ET.int) = (show List Int from l)[0] := getD_of (α := Int) l 0 _ hp
 have e2 : ({ data := { toList := [97] : Array UInt8 } : ByteArray }) = bA := rfl
 have e3 : (List.replicate 1 (dflt ET.step)).set 0 ({ name := bA, ifs := [], min := (l.length : Int), max := (l.length : Int), guard := false, notName := ByteArray.empty, notIf := [] : Step }) = [stepC l.length] := rfl
 have e4 : sub [({ name := bA, ifs := [], min := (l.length : Int), max := (l.length : Int), guard := false, notName := ByteArray.empty, notIf := [] : Step })] 0 (0 + 1) = [stepC l.length] := rfl
 rw [e1, e2, e3, e4]
 have e5 : sub [({ kind := 0, n := (show List Int from l)[0], s := ByteArray.empty : Val })] 0 (0 + 1) = [⟨0, (show List Int from l)[0], ByteArray.empty⟩] := rfl
 rw [e5]
 obtain ⟨a1, b0, a2, r0, a3, a4⟩ := count_all l 0 hx hb hp (by decide) (by decide)
 obtain ⟨d1, b1, d2, r1, d3, d4⟩ := count_all l 1 hx hb hp (by decide) (by decide)
 obtain ⟨f1, b2, f2, r2, f3, f4⟩ := count_all l 2 hx hb hp (by decide) (by decide)
 obtain ⟨g1, b3, g2, r3, g3, g4⟩ := count_all l 3 hx hb hp (by decide) (by decide)
 rw [a1, a2, d1, d2, f1, f2, g1, g2]
 simp only [S.z64k_12_j, S.z64k_12_v, Lp_j_of a4, Lp_v_of a4, Lp_j_of d4, Lp_v_of d4, Lp_j_of f4, Lp_v_of f4, Lp_j_of g4, Lp_v_of g4]
 have key := Lp_walk (r := S.z64k_19_r l l.length r2.agg r3.agg) (fun k => (⟨(k : Int)⟩ : S.z64k_19_V)) l.length 1 (fun i h => by
  have h1 : ((i : Int) < (l.length : Int)) := by omega
  have h2 : (0 : Int) ≤ (i : Int) := by omega
  have w : IntKind.i64.wrap ((i : Int) + 1) = ((i + 1 : Nat) : Int) := e_wrap1 (by omega)
  have e1 : @List.getD (Ty ET.int) l i (dflt ET.int) = (show List Int from l)[i] := getD_of (α := Int) l i _ h
  have k1 := (f3.lo rfl).2 i h h
  have k2 := g3.hi rfl i h h
  unfold S.z64k_19_r S.z64k_19_R; dsimp only
  rw [Int.toNat_natCast, e1]
  have k1' : ¬ (r2.agg > (show List Int from l)[i]) := by intro h; exact absurd k1 (Int.not_le.mpr h)
  have k2' : ¬ (r3.agg < (show List Int from l)[i]) := by intro h; exact absurd k2 (Int.not_le.mpr h)
  simp only [DT.run_br, DT.run_leaf, DT.run_fail, xdec, xwrap, h1, h2, w, k1', k2', decide_true, decide_false, Bool.and_self, cond_true, cond_false]) (by
  unfold S.z64k_19_r S.z64k_19_R; simp [DT.run_br, DT.run_leaf, xdec])
 have e0 : (⟨((0 : Nat) : Int)⟩ : S.z64k_19_V) = ⟨0⟩ := rfl
 rw [e0] at key
 simp only [stC, S.z64k_19_j, Lp_j_of key]
 have m0 := a3.m
 have m1 := d3.m
 have m2 := f3.m
 have m3 := g3.m
 have k0 := a3.c rfl
 have kb := (f3.lo rfl).1
 have y1 : xdec ((0 : Int) ≤ 0) = true := rfl
 simp only [m0, m1, m2, m3, k0, kb]
 by_cases h1 : (l.length : Int) > 1
 ·simp only [DT.run_br, DT.run_leaf, DT.run_fail, xdec, xnot, e_xneI, e_xeqI, ne_eq, not_true, c1, c2, h1, hp2, Int.le_refl, Nat.le_refl, Nat.zero_add, List.length_set, List.length_replicate, List.length_singleton, decide_true, decide_false, Bool.not_true, Bool.not_false, Bool.and_self, Bool.and_true, Bool.true_and, cond_true, cond_false]
  rfl
 ·have hl1 : l.length = 1 := by omega
  have o1 := d3.one hl1 (by decide) hp
  have o2 := f3.one hl1 (by decide) hp
  have o3 := g3.one hl1 (by decide) hp
  simp only [o1, o2, o3, DT.run_br, DT.run_leaf, DT.run_fail, xdec, xnot, e_xneI, e_xeqI, ne_eq, not_true, c1, c2, h1, hp2, Int.le_refl, Nat.le_refl, Nat.zero_add, List.length_set, List.length_replicate, List.length_singleton, decide_true, decide_false, Bool.not_true, Bool.not_false, Bool.and_self, Bool.and_true, Bool.true_and, cond_true, cond_false]
  rfl
end Go.Eng
