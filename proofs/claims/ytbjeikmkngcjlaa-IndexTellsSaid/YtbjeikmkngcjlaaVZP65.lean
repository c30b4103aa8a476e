/- The stage's theorem of what is asked: all rounds, and the law. -/
import Derived.Test.YtbjeikmkngcjlaaVZP64
set_option linter.unusedVariables false
set_option linter.unusedSimpArgs false
namespace Go.Eng
open Go Go.Eng
theorem foldP_short : ∀ (ps : List Pred) {m : List Pred}, shortP m → shortP ps → shortP (ps.foldl addP m)
 | [], _, h, _ => h
 | p :: ps, m, h, hp => by
  refine foldP_short ps ?_ (fun x hx => hp x (List.mem_cons_of_mem _ hx))
  intro x hx
  rcases addP_mem.mp hx with hx | hx
  ·exact h x hx
  ·rw [hx]; exact hp p List.mem_cons_self
theorem refAll_steps (Q : List Query) (qi : Nat) (hq : qi < Q.length) (l : List Step) (hQ : Q[qi].steps = l) (hl : l.length ≤ maxLen) (m : List Pred) (hw : shortP m) (hm : m.length + 2 * l.length ≤ 1048576) (hs : shortS l) :
    Lp (S.zecp_6_r Q qi) (ofR 0 m) = some (0, ofR l.length ((l.flatMap asks).foldl addP m)) := by
 have := Lp_walk (r := S.zecp_6_r Q qi) (fun k => ofR k (((l.take k).flatMap asks).foldl addP m)) l.length 0 (fun i h => by
  have hst : shortS (l.take i) := fun s h => hs s (List.mem_of_mem_take h)
  have k1 := refAll_round Q qi hq l hQ i h hl (((l.take i).flatMap asks).foldl addP m) (foldP_short _ hw (asks_short hst)) (by
   have a1 := foldP_len ((l.take i).flatMap asks) m
   have a2 := asksL_len (l.take i)
   have a3 : (l.take i).length ≤ i := by rw [List.length_take]; exact Nat.min_le_left _ _
   omega) (hs _ (List.getElem_mem h)).1
  rw [k1, ← List.foldl_append]
  congr 4
  rw [List.take_succ_eq_append_getElem h, List.flatMap_append]
  simp) (by
  have g3 : ((qi : Int) < (Q.length : Int)) := by omega
  have g4 : (0 : Int) ≤ (qi : Int) := by omega
  have eq : @List.getD (Ty ET.query) Q qi (dflt ET.query) = Q[qi] := getD_of (α := Query) Q qi _ hq
  unfold S.zecp_6_r S.zecp_6_R ofR
  dsimp only
  rw [Int.toNat_natCast, eq, hQ]
  simp [DT.run_br, DT.run_leaf, xdec, g3, g4, hq])
 rw [List.take_zero, List.take_of_length_le (Nat.le_refl _)] at this
 exact this
def ofR1 (i : Nat) (m : List Pred) : S.zecp_3_V := ⟨m.isEmpty, m.length, (i : Int), m⟩
theorem q_AllR (l : List Query) (hf : fewQ l) : S.zecp l = some ⟨allP l, (allP l).isEmpty, (allP l).length⟩ := by
 have sh0 : shortP ([] : List Pred) := fun p h => by cases h
 have big : (1048576 : Nat) ≤ maxLen := by decide
 have hl : l.length ≤ 6 := hf.1
 have key := Lp_walk (r := S.zecp_3_r l) (fun k => ofR1 k (((l.take k).flatMap (fun q => q.steps.flatMap asks)).foldl addP [])) l.length 0 (fun i h => by
  have g1 : ((i : Int) < (l.length : Int)) := by omega
  generalize hσ : ((l.take i).flatMap (fun q => q.steps.flatMap asks)).foldl addP [] = m
  have i2 : shortP m := by rw [← hσ]; exact foldP_short _ sh0 (asksQ_short fun q hq => (hf.2 q (List.mem_of_mem_take hq)).short)
  have i3 : m.length ≤ 96 := by
   rw [← hσ]
   have a1 := foldP_len ((l.take i).flatMap (fun q => q.steps.flatMap asks)) ([] : List Pred)
   have a2 := asksQ_len (l.take i) (fun q hq => (hf.2 q (List.mem_of_mem_take hq)).1)
   have a3 : (l.take i).length ≤ i := by rw [List.length_take]; exact Nat.min_le_left _ _
   simp only [List.length_nil] at a1
   omega
  have fq := hf.2 _ (List.getElem_mem h)
  have k1 := refAll_steps l i h l[i].steps rfl (by have := fq.1; omega) m i2 (by have := fq.1; omega) fq.short
  unfold S.zecp_3_r S.zecp_3_R ofR1
  dsimp only
  have k2 : (⟨m.isEmpty, m.length, 0, m⟩ : S.zecp_6_V) = ofR 0 m := rfl
  rw [k2]
  simp only [DT.run_br, DT.run_leaf, DT.run_fail, xdec, xwrap, g1, ix_wrap h (by omega), decide_true, Bool.and_self, cond_true, S.zecp_6_j, S.zecp_6_v]
  rw [Lp_j_of k1, Lp_v_of k1]
  have e : ((l.take (i + 1)).flatMap (fun q => q.steps.flatMap asks)).foldl addP [] = (l[i].steps.flatMap asks).foldl addP m := by
   rw [← hσ, ← List.foldl_append, List.take_succ_eq_append_getElem h, List.flatMap_append]
   simp
  rw [e]; rfl) (by
  unfold S.zecp_3_r S.zecp_3_R ofR1; simp [DT.run_br, DT.run_leaf, xdec])
 rw [List.take_zero, List.take_of_length_le (Nat.le_refl _)] at key
 have key' : Lp (S.zecp_3_r l) (⟨true, 0, 0, []⟩ : S.zecp_3_V) = some (0, ofR1 l.length (allP l)) := key
 unfold S.zecp S.zecp_R; dsimp only
 simp only [DT.run_br, DT.run_leaf, DT.run_fail, S.zecp_3_j, S.zecp_3_v]
 rw [Lp_j_of key', Lp_v_of key']; rfl
theorem q_HoldsR10 (m : ByteArray) (a : List Opn) (n : ByteArray) (t : Int) (v : List Val) (wv : ∀ x ∈ v, wfVal x) (wo : ∀ x ∈ a, wfOpn x) (ln : n.size ≤ maxLen) (lv : v.length ≤ maxLen) (lo : a.length ≤ maxLen) : S.zu7f m a n t v = some ⟨tellP n t v ⟨m, a⟩⟩ := by
 have k := q_HoldsR n t v a wv wo ln lv lo
 unfold S.zu7f S.zu7f_R tellP HB; dsimp only
 rw [q_HoldsE n t v a wv wo]
 simp only [DT.run_br, DT.run_leaf, DT.run_fail, xdec, S.z33o_is, S.z33o_o, k, Option.isSome_some, Option.getD_some, cond_true]
 cases decide (m = n) <;> rfl
theorem q_ToldR (l : List Pred) (n : ByteArray) (t : Int) (v : List Val) (hl : l.length ≤ 1048576) (wv : ∀ x ∈ v, wfVal x) (wl : ∀ p ∈ l, ∀ x ∈ p.ifs, wfOpn x) (ln : n.size ≤ maxLen) (lv : v.length ≤ maxLen) (lo : ∀ p ∈ l, p.ifs.length ≤ maxLen) :
    S.zv4a l n t v = some ⟨l.map (tellP n t v), (l.map (tellP n t v)).isEmpty, l.length⟩ := by
 have key := Lp_walk (r := S.zv4a_3_r l n t v) (fun k => (⟨((l.map (tellP n t v)).take k).isEmpty, k, (k : Int), (l.map (tellP n t v)).take k⟩ : S.zv4a_3_V)) l.length 0 (fun i h => by
  have h1 : ((i : Int) < (l.length : Int)) := by omega
  have h2 : (0 : Int) ≤ (i : Int) := by omega
  have hm : i < (l.map (tellP n t v)).length := by rw [List.length_map]; exact h
  have e1 : @List.getD (Ty ET.pred) l i (dflt ET.pred) = l[i] := getD_of (α := Pred) l i _ h
  have k := q_HoldsR10 l[i].name l[i].ifs n t v wv (wl _ (List.getElem_mem h)) ln lv (lo _ (List.getElem_mem h))
  have e2 : (l.map (tellP n t v)).take (i + 1) = (l.map (tellP n t v)).take i ++ [tellP n t v l[i]] := by
   rw [List.take_succ_eq_append_getElem hm, List.getElem_map]
  have e3 : ((l.map (tellP n t v)).take i).length = i := by rw [List.length_take, Nat.min_eq_left (by omega)]
  have e4 : List.take i ((l.map (tellP n t v)).take i) = (l.map (tellP n t v)).take i := by rw [List.take_take, Nat.min_self]
  have e5 : (⟨l[i].name, l[i].ifs⟩ : Pred) = l[i] := rfl
  rw [e5] at k
  have b1 : i + 1 ≤ 1048576 := by omega
  rw [e2]
  unfold S.zv4a_3_r S.zv4a_3_R; dsimp only
  rw [Int.toNat_natCast, e1]
  simp only [DT.run_br, DT.run_leaf, DT.run_fail, xdec, xwrap, h1, h2, ix_wrap h (Nat.le_trans hl (by decide)), decide_true, Bool.and_self, cond_true, S.zu7f_is, S.zu7f_o, k, Option.isSome_some, Option.getD_some, List.length_set, List.length_replicate, Nat.zero_add, Nat.le_refl]
  rw [e4]
  have b2 : i ≤ ((l.map (tellP n t v)).take i).length := by rw [e3]; exact Nat.le_refl _
  simp only [b1, b2, decide_true, Bool.and_self, cond_true, emp1]) (by
  unfold S.zv4a_3_r S.zv4a_3_R; simp [DT.run_br, DT.run_leaf, xdec])
 have e : (l.map (tellP n t v)).take l.length = l.map (tellP n t v) := List.take_of_length_le (by simp)
 rw [List.take_zero, e] at key
 have key' : Lp (S.zv4a_3_r l n t v) (⟨true, 0, 0, []⟩ : S.zv4a_3_V) = _ := key
 unfold S.zv4a S.zv4a_R; dsimp only
 simp only [DT.run_br, DT.run_leaf, DT.run_fail, S.zv4a_3_j, S.zv4a_3_v, Lp_j_of key', Lp_v_of key']
 rfl
theorem q_Bools (m : List Bool) (hm : m.length ≤ maxLen) : S.zgtf m m = some ⟨true⟩ := by
 have e : Lp (S.zgtf_4_r m m) (⟨0⟩ : S.zgtf_4_V) = some (1, ⟨m.length⟩) := by
  refine Lp_walk (fun k => (⟨(k : Int)⟩ : S.zgtf_4_V)) m.length 1 (fun i hi => ?_) ?_
  ·have h1 : ((i : Int) < (m.length : Int)) := by omega
   have h2 : (0 : Int) ≤ (i : Int) := by omega
   unfold S.zgtf_4_r S.zgtf_4_R; dsimp only
   rw [bif_same]
   simp only [DT.run_br, DT.run_leaf, DT.run_fail, xdec, xwrap, h1, h2, ix_wrap hi hm, decide_true, Bool.and_self, cond_true, cond_false]
  ·unfold S.zgtf_4_r S.zgtf_4_R; simp [DT.run_br, DT.run_leaf, xdec]
 unfold S.zgtf S.zgtf_R; dsimp only
 simp [DT.run_br, DT.run_leaf, e_xneI, S.zgtf_4_j, Lp_j_of e]
theorem law_IndexTells (l : List Query) (ps : List Pred) (pn : ByteArray) (pa : List Opn) (n : ByteArray) (t : Int) (v : List Val) (wps : wfL wfPred ps) (wpa : wfL wfOpn pa) (wn : wfS n) (wv : wfL wfVal v) : S.zimu l ps pn pa n t v = some ⟨true⟩ := by
 unfold S.zimu S.zimu_R; dsimp only
 rw [q_awake10_is, q_awake10_o, q_few10_is, q_preds_is, q_few06_is, q_few08_is]
 cases hf : (S.zzvx_o l).x0 with
 | false => rfl
 | true =>
 cases hg : (S.z6mj_o ps).x0 with
 | false => rfl
 | true =>
 cases hh : (S.z6c2_o n v).x0 with
 | false => rfl
 | true =>
 cases hi : (S.zzsx_o pa).x0 with
 | false => rfl
 | true =>
 have hq := q_few10_o l hf
 have hp := q_preds_o ps hg
 have hn := allP_len hq
 have hsh := allP_short hq
 have hA := q_All l hq
 have hB := q_AllR l hq
 have hS := q_Same10 (allP l) (Nat.le_trans hn (by decide)) hsh
 have hps : ps.length ≤ 1048576 := by have := hp.1; omega
 have hpm : ps.length ≤ maxLen := Nat.le_trans hps (by decide)
 have ho : ∀ p ∈ ps, p.ifs.length ≤ maxLen := fun p hx => (wps.2 p hx).2.1
 have hT := q_toldI ps n t v hps
 have hR := q_ToldR ps n t v hps wv.2 (fun p hx => (wps.2 p hx).2.2) wn wv.1 ho
 have hBo := q_Bools (ps.map (tellP n t v)) (by rw [List.length_map]; exact hpm)
 have hF := q_Find ps pn pa hpm (fun i h => ho _ (List.getElem_mem h))
 have hF2 := q_FindR ps pn pa hpm ho
 have hH := q_iHolds pn pa n t v
 have hH2 := q_HoldsR10 pn pa n t v wv.2 wpa.2 wn wv.1 wpa.1
 have hs2 : sub (ps.map (tellP n t v)) 0 (0 + ps.length) = ps.map (tellP n t v) := by
  have := sub_all (ps.map (tellP n t v)); rwa [List.length_map] at this
 have hl2 : 0 + ps.length ≤ (ps.map (tellP n t v)).length := by rw [List.length_map]; omega
 simp only [S.zdrt_is, S.zdrt_o, hA, S.zecp_is, S.zecp_o, hB, S.zerv_is, S.zerv_o, hT, S.zv4a_is, S.zv4a_o, hR, S.zgkp_is, S.zgkp_o, hF, S.zcq4_is, S.zcq4_o, hF2, S.zh5h_is, S.zh5h_o, hH, S.zu7f_is, S.zu7f_o, hH2, Option.isSome_some, Option.getD_some, sub_all, hs2, S.zhje_is, S.zhje_o, hS, S.zgtf_is, S.zgtf_o, hBo]
 have hz : (0 + (allP l).length ≤ (allP l).length) := by omega
 have he : (HB pn pa ⟨n, t, v⟩ == tellP n t v ⟨pn, pa⟩) = true := by unfold tellP; exact beq_self_eq_true _
 simp only [DT.run_br, DT.run_leaf, DT.run_fail, xdec, xnot, e_xeqI, hz, hl2, decide_true, Bool.and_self, Bool.not_true, cond_true, cond_false, he]
end Go.Eng
