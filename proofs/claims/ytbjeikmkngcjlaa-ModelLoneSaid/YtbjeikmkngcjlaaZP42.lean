/- The law of one step. -/
import Derived.Test.YtbjeikmkngcjlaaZP41
import Derived.Test.YtbjeikmkngcjlaaZL26
set_option maxHeartbeats 2000000
set_option linter.unusedVariables false
set_option linter.unusedSimpArgs false
namespace Go.Eng
open Go Go.Eng
def loneS (nm : ByteArray) : Step := { name := nm, ifs := [], min := 1, max := 1, guard := false, notName := ByteArray.empty, notIf := [] }
def loneQ (nm : ByteArray) : Query := ⟨[loneS nm], 0, 0, 0, 0⟩
theorem lone_begin (nm : ByteArray) (e : Evt) (i : Int) : beginL HB (loneQ nm) e i = if nm = e.name then (⟨i, e.at_, 0, 1, 1, 1, false⟩, 2) else (default, 1) := by
 have e0 : stp (loneQ nm).steps 0 = loneS nm := rfl
 have ht : takesL HB (loneS nm) e = decide (nm = e.name) := HB_Plain nm e
 unfold beginL
 rw [if_neg (by simp [loneQ]), e0, ht]
 by_cases c : nm = e.name
 ·rw [if_neg (by simp [c]), if_pos c]
  have h1 : w64 (0 + 1) = 1 := by decide
  have : toldL (loneQ nm) ⟨i, e.at_, 0, 1, 0, 0, false⟩ e.v = ⟨i, e.at_, 0, 1, 1, 1, false⟩ := by
   unfold toldL
   rw [if_neg (by simp [loneQ]), if_pos (show (loneQ nm).agg = 0 from rfl)]
   show Run.mk i e.at_ 0 1 (w64 (0 + 1)) (w64 (0 + 1)) false = _
   rw [h1]
  dsimp only
  rw [this]
  have hf : fateL (loneQ nm) ⟨i, e.at_, 0, 1, 1, 1, false⟩ = 2 := by
   unfold fateL
   exact if_pos ⟨rfl, Int.le_refl 1⟩
  rw [hf]
 ·rw [if_pos (by simp [c]), if_neg c]
theorem lone_from (nm : ByteArray) (l : List Evt) (i : Nat) : (fromL HB (loneQ nm) l i).1 = [] ∧ (nm = (evAt l i).name → (fromL HB (loneQ nm) l i).2 = (⟨i, (evAt l i).at_, 0, 1, 1, 1, false⟩, 2)) ∧ (nm ≠ (evAt l i).name → (fromL HB (loneQ nm) l i).2.2 = 1) := by
 unfold fromL
 rw [lone_begin]
 by_cases c : nm = (evAt l i).name
 ·rw [if_pos c, stepsL_stop _ (show (2 : Int) ≠ 0 by decide)]
  exact ⟨rfl, fun _ => rfl, fun h => absurd c h⟩
 ·rw [if_neg c, stepsL_stop _ (show (1 : Int) ≠ 0 by decide)]
  exact ⟨rfl, fun h => absurd h c, fun _ => rfl⟩
theorem lone_one (nm : ByteArray) (l : List Evt) (i : Nat) : oneL HB (loneQ nm) l i = if nm = (evAt l i).name then some ⟨i, i, 1, false⟩ else none := by
 obtain ⟨h1, h2, h3⟩ := lone_from nm l i
 unfold oneL matL nRun
 by_cases c : nm = (evAt l i).name
 ·rw [if_pos c, h1, h2 c]
  simp
 ·rw [if_neg c, if_neg (by rw [h3 c]; decide)]
theorem lone_run (nm : ByteArray) (l : List Evt) (i : Nat) : nRun HB (loneQ nm) l i = 0 := by unfold nRun; rw [(lone_from nm l i).1]; rfl
theorem lone_over (nm : ByteArray) (l : List Evt) (most : Int) : overL HB (loneQ nm) l most = -1 := overL_none fun j _ => by simp [overB, lone_run]
noncomputable def loneK (nm : ByteArray) (l : List Evt) (k : Nat) : List Mat := (List.range k).filterMap (oneL HB (loneQ nm) l)
theorem loneK_succ (nm : ByteArray) (l : List Evt) (k : Nat) : loneK nm l (k + 1) = loneK nm l k ++ (if nm = (evAt l k).name then [⟨k, k, 1, false⟩] else []) := by
 unfold loneK
 rw [List.range_succ, List.filterMap_append]
 by_cases c : nm = (evAt l k).name
 ·simp [lone_one, c]
 ·simp [lone_one, c]
theorem loneK_srt (nm : ByteArray) (l : List Evt) : ∀ k, srt (loneK nm l k) ∧ ∀ m ∈ loneK nm l k, m.fin < (k : Int)
 | 0 => ⟨List.Pairwise.nil, fun m hm => by cases hm⟩
 | k + 1 => by
  obtain ⟨h1, h2⟩ := loneK_srt nm l k
  rw [loneK_succ]
  by_cases c : nm = (evAt l k).name
  ·rw [if_pos c]
   refine ⟨srt_app h1 (List.pairwise_singleton _ _) (fun x hx y hy => ?_), fun m hm => ?_⟩
   ·obtain rfl := List.mem_singleton.1 hy
    have := h2 x hx
    show x.fin ≤ (k : Int); omega
   ·rcases List.mem_append.1 hm with hm | hm
    ·have := h2 m hm; omega
    ·obtain rfl := List.mem_singleton.1 hm
     show (k : Int) < _; omega
  ·rw [if_neg c, List.append_nil]
   exact ⟨h1, fun m hm => by have := h2 m hm; omega⟩
theorem lone_all (nm : ByteArray) (l : List Evt) (most : Int) : allL HB (loneQ nm) l most = loneK nm l l.length := by
 unfold allL
 rw [lone_over]
 have : (onesL HB (loneQ nm) l).filter (keptB (-1)) = loneK nm l l.length := by
  refine List.filter_eq_self.2 fun m _ => by simp [keptB]
 rw [this]
 exact stab_fix (loneK_srt nm l l.length).1
theorem loneK_pre (nm : ByteArray) (l : List Evt) (k : Nat) : ∀ n, ∃ r, loneK nm l (k + n) = loneK nm l k ++ r
 | 0 => ⟨[], by simp⟩
 | n + 1 => by
  obtain ⟨r, h⟩ := loneK_pre nm l k n
  exact ⟨_, by rw [← Nat.add_assoc, loneK_succ, h, List.append_assoc]⟩
theorem loneK_len (nm : ByteArray) (l : List Evt) (k : Nat) : (loneK nm l k).length ≤ k := by
 unfold loneK
 exact Nat.le_trans (List.length_filterMap_le _ _) (by simp)
theorem lone_loop (nm : ByteArray) (l : List (Ty .evt)) (hb : l.length ≤ 1000) : Lp (S.zlsj_9_r nm l (loneK nm l l.length).length (loneK nm l l.length)) ⟨0, 0⟩ = some (1, ⟨((loneK nm l l.length).length : Nat), (l.length : Nat)⟩) := by
 refine Lp_walk (fun k => (⟨((loneK nm l k).length : Nat), (k : Int)⟩ : S.zlsj_9_V)) l.length 1 (fun i hi => ?_) ?_
 ·have z1 : ((i : Int) < (l.length : Int)) := by omega
  have z2 : (0 : Int) ≤ (i : Int) := by omega
  have hev : evAt l i = l[i] := getD_of l i _ hi
  have hg : l.getD i (dflt ET.evt) = l[i] := getD_of l i _ hi
  have hs := loneK_succ nm l i
  rw [hev] at hs
  have hle := loneK_len nm l i
  obtain ⟨r, hr⟩ := loneK_pre nm l (i + 1) (l.length - (i + 1))
  rw [show i + 1 + (l.length - (i + 1)) = l.length by omega] at hr
  unfold S.zlsj_9_r S.zlsj_9_R
  dsimp only
  simp only [xwrap, Int.toNat_natCast, Nat.zero_add, hg, e_wrap1 (show i ≤ 1048576 by omega), e_wrap1 (show (loneK nm l i).length ≤ 1048576 by omega)]
  by_cases c : nm = l[i].name
  ·rw [if_pos c] at hs
   have c' : l[i].name = nm := c.symm
   rw [hs] at hr
   have hlen : (loneK nm l l.length).length = (loneK nm l i).length + 1 + r.length := by rw [hr]; simp; omega
   have z3 : ¬ (((loneK nm l i).length : Int) ≥ ((loneK nm l l.length).length : Int)) := by omega
   have z4 : (0 : Int) ≤ ((loneK nm l i).length : Int) := by omega
   have z5 : ((loneK nm l i).length : Int) < ((loneK nm l l.length).length : Int) := by omega
   have z6 : (loneK nm l i).length < (loneK nm l l.length).length := by omega
   have hget : (loneK nm l l.length).getD (loneK nm l i).length (dflt ET.mat) = ⟨i, i, 1, false⟩ := by
    rw [hr, List.append_assoc]
    exact getD_mid _ _ _ _
   rw [hget]
   have hls : (loneK nm l (i + 1)).length = (loneK nm l i).length + 1 := by rw [hs]; simp
   rw [hls]
   simp only [DT.run_br, DT.run_leaf, DT.run_fail, xdec, xnot, e_xeqI, xeqB, z1, z2, z3, z4, z5, z6, c', decide_true, decide_false, cond_true, cond_false, Bool.not_true, Bool.and_self, beq_self_eq_true]
  ·rw [if_neg c, List.append_nil] at hs
   have c' : ¬ l[i].name = nm := fun h => c h.symm
   rw [hs]
   simp only [DT.run_br, DT.run_leaf, DT.run_fail, xdec, xnot, z1, z2, c', decide_true, decide_false, cond_true, cond_false, Bool.not_false, Bool.and_self]
 ·have z1 : ¬ ((l.length : Int) < (l.length : Int)) := by omega
  unfold S.zlsj_9_r S.zlsj_9_R
  simp only [DT.run_br, DT.run_leaf, xdec, z1, decide_false, cond_false]
theorem law_ModelLone (nm : ByteArray) (n1 : Option Bool) (f1 : Bool) (l : List (Ty .evt)) (most : Int) : S.zlsj nm n1 f1 l most = some ⟨true⟩ := by
 unfold S.zlsj S.zlsj_R; dsimp only
 simp only [DT.run_br, DT.run_leaf, DT.run_fail, q_awake12_is, q_awake12_o, q_log_is l 25 (by decide), xnot, Bool.not_true, cond_true, cond_false]
 cases hg : (S.zgwp_o l 25).x0 with
 | false => simp
 | true =>
 have hlog := q_log_o l 25 (by decide) hg
 by_cases c1 : (nm.size : Int) > 60
 ·simp [xdec, c1]
 have hl : (loneQ nm).steps.length ≤ 1048576 := by show 1 ≤ 1048576; decide
 have A1 := q_All2_is sorts39 none true (loneQ nm) n1 f1 l most hl (by omega) (by omega)
 obtain ⟨g1, A2⟩ := q_All2_o sorts39 none true (loneQ nm) n1 f1 l most hl (by omega) (by omega)
 have O1 := q_Over_is (loneQ nm) l most hl (by omega)
 have O2 := q_Over_o (loneQ nm) l most hl (by omega)
 rw [lone_all] at A2
 rw [lone_over] at O2
 have hs : sub [({ name := nm, ifs := [], min := 1, max := 1, guard := false, notName := ByteArray.empty, notIf := [] } : Step)] 0 (0 + 1) = (loneQ nm).steps := rfl
 simp only [hs]
 have A1' : S.all2_is none true (loneQ nm).steps 0 0 0 0 n1 f1 l most = true := A1
 have A2' : S.all2_o none true (loneQ nm).steps 0 0 0 0 n1 f1 l most = ⟨loneK nm l l.length, g1, (loneK nm l l.length).length⟩ := A2
 have O1' : S.zjsn_is (loneQ nm).steps 0 0 0 0 l most = true := O1
 have O2' : S.zjsn_o (loneQ nm).steps 0 0 0 0 l most = ⟨-1⟩ := O2
 rw [A1', A2', O1', O2']
 dsimp only
 have lp := lone_loop nm l (by omega)
 simp only [S.zlsj_9_j, S.zlsj_9_v, Lp_j_of lp, Lp_v_of lp]
 have j0 : ((1 : Nat) == 0) = false := rfl
 have j1 : ((1 : Nat) == 1) = true := rfl
 simp [xdec, e_xeqI, c1, j0, j1]
end Go.Eng
