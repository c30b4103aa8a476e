/- copy, clear. -/
import Derived.Test.YtnafjjkjogngjaaE16
set_option linter.unusedVariables false
set_option linter.unusedSimpArgs false
namespace Go.Eng
open Go Go.RowKit

section
variable {P : Program} {cx : Cx} {ok : Nat → Prop} {w0 : World} {ρ : Rho} {st : St} {a : Act} {w : World} {h : Heap}

theorem RL_put {t : ET} {l m : List (Ty t)} {vs us : List Value} {off : Nat} (hm : off + m.length ≤ l.length) (hv : l.length * width t ≤ vs.length) (hu : us.length = m.length * width t) (r1 : RL cx ok w t l vs) (r2 : RL cx ok w t m us) :
    RL cx ok w t (putL l off m) (putL vs (off * width t) us) := by
  intro i j hi hj
  rw [putL_length] at hi
  have hfit : off * width t + us.length ≤ vs.length := by
    rw [hu, ← Nat.add_mul]
    exact Nat.le_trans (Nat.mul_le_mul_right _ hm) hv
  have hc : cellAt t (putL l off m) i j = if off ≤ i ∧ i < off + m.length then cellAt t m (i - off) j else cellAt t l i j := by
    unfold cellAt
    rw [putL_getD (dflt t) m l off i hm]
    split <;> rfl
  rw [hc, putL_getD undef us vs _ _ hfit]
  by_cases hin : off ≤ i ∧ i < off + m.length
  · have h1 : i - off < m.length := by omega
    have e : i * width t + j - off * width t = (i - off) * width t + j := by
      have : i * width t = off * width t + (i - off) * width t := by rw [← Nat.add_mul]; congr 1; omega
      omega
    have hlt := idx_lt h1 hj
    have hge : off * width t ≤ i * width t := Nat.mul_le_mul_right _ hin.1
    rw [if_pos hin, if_pos (by omega), e]
    exact r2 _ _ h1 hj
  · rw [if_neg hin, if_neg]
    · exact r1 i j hi hj
    · intro hx
      apply hin
      rw [hu, ← Nat.add_mul] at hx
      constructor
      · rcases Nat.lt_or_ge i off with h | h
        · have : (i + 1) * width t ≤ off * width t := Nat.mul_le_mul_right _ h
          rw [Nat.add_mul, Nat.one_mul] at this
          omega
        · exact h
      · rcases Nat.lt_or_ge i (off + m.length) with h | h
        · exact h
        · have : (off + m.length) * width t ≤ i * width t := Nat.mul_le_mul_right _ h
          omega

theorem set_self {h : Heap} {n : Nat} {b : Option Blk} (e : lk h n = b) (hs : b.isSome = true) : h.set n b = h := by
  apply List.ext_getElem?
  intro m
  rw [List.getElem?_set]
  by_cases hm : n = m
  · subst hm
    have hl : n < h.length := lk_lt (by rw [e]; exact hs)
    simp only [if_true, hl]
    rw [← e, lk, List.getD_eq_getElem?_getD, List.getElem?_eq_getElem hl]
    rfl
  · rw [if_neg hm]

/-- a part of a row is written anew -/
theorem does_part (hi : Inv cx ok w0 ρ st a w) {nm : Nat} {o : Oper} {n off : Nat} {B : TypeId} {t : ET} {l m : List (Ty t)} {us : List Value} {v : V} {x : Value} (hn : lk st.heap n = some (.arr B t l)) (hm : off + m.length ≤ l.length) (hne : m ≠ [])
    (hu : us.length = m.length * width t) (r2 : RL cx (okc ok w0.heap.size st.heap ρ) w t m us) {b : Nat} (hb : ρ n = some b) (hv : ∀ ok' w', RV cx ρ ok' w' v x)
    (run : ∀ vs : List Value, w.heap[b]? = some (.cells vs.toArray B (0, 0)) → off * width t + us.length ≤ vs.length → (execOp a.eval o).run P w = .ok (.value x) (w.setRow b (vs.take (off * width t) ++ us ++ vs.drop (off * width t + us.length)).toArray)) :
    Does P cx ok w0 ρ st a w nm o v (st.heap.set n (some (.arr B t (l.take off ++ m ++ l.drop (off + m.length))))) := by
  rcases hi.heap n _ hn with ⟨_, q2⟩ | ⟨b', vs, q1, q2, q3, q4⟩
  · rw [hb] at q2; cases q2
  · rw [hb] at q1; injection q1 with q1; subst q1
    have hfit : off * width t + us.length ≤ vs.length := by
      rw [hu, ← Nat.add_mul]
      exact Nat.le_trans (Nat.mul_le_mul_right _ hm) q3
    have hrun := run vs q2 hfit
    rw [← putL_eq us vs _ hfit] at hrun
    rw [← putL_eq m l off hm]
    have hz : ((putL vs (off * width t) us).toArray).size = (vs.toArray).size := by simp [putL_length]
    have hx := fun N => ext_write hi.hv (lk_some hn) hb q2 hz (.arr B t (putL l off m)) N
    refine ⟨ρ, _, _, x, hrun, .inl rfl, fun _ _ => rfl, hx, hi.hv.write (lk_some hn) hb q2 hz _ (.inr ⟨b, _, hb, setRow_heap w b _ _ _ _ q2, by simpa [putL_length] using q3, ?_⟩), hv _ _⟩
    exact (RL_put hm q3 hu (fun i j hi' hj => q4 i j hi' hj) r2).ext (hx 0)

theorem does_none (hi : Inv cx ok w0 ρ st a w) {nm : Nat} {o : Oper} {n : Nat} {blk : Blk} {v : V} {x : Value} (hn : lk st.heap n = some blk) (hv : ∀ ok' w', RV cx ρ ok' w' v x) (run : (execOp a.eval o).run P w = .ok (.value x) w) :
    Does P cx ok w0 ρ st a w nm o v (st.heap.set n (some blk)) := by
  rw [set_self hn rfl]
  exact ⟨ρ, w, _, x, run, .inl rfl, fun _ _ => rfl, fun N => Ext.refl N _ _ _, hi.hv, hv _ _⟩

theorem firstCells_take {s : Sl} {v : Value} {A : Option Addr} {cap k : Nat} {vs : List Value} (hr : SlRead cx ok w s v A cap vs) (hk : k ≤ s.l.length) : (Builtin.firstCells (width s.t) k v).run P w = .ok (vs.take (k * width s.t)).toArray w := by
  obtain ⟨rfl, h1, h2, h3, h4, h5⟩ := hr
  by_cases hl : s.l = []
  · have e0 : s.l.length = 0 := by rw [hl]; rfl
    have ev : vs = [] := by apply List.length_eq_zero_iff.1; rw [h3, e0, Nat.zero_mul]
    have ek : k = 0 := by omega
    subst ek; subst ev
    cases A with
    | none => simpa using run_firstCells_none (P := P) w (width s.t) 0 s.l.length cap
    | some b => simpa using run_firstCells_some (P := P) w (width s.t) 0 b s.l.length cap [] (by simp) (fun j u hj => by simp at hj)
  · obtain ⟨b, off, rfl, hc⟩ := h5 hl
    have hkl : k * width s.t ≤ vs.length := by rw [h3]; exact Nat.mul_le_mul_right _ hk
    refine run_firstCells_some (P := P) w (width s.t) k _ _ cap (vs.take (k * width s.t)) (by simp; omega) (fun j u hj => ?_)
    have hj' : j < k * width s.t := by
      rcases Nat.lt_or_ge j (k * width s.t) with h | h
      · exact h
      · rw [List.getElem?_eq_none (by simp; omega)] at hj; cases hj
    rw [add_plain, hc j (by omega)]
    rw [List.getElem?_take, if_pos hj'] at hj
    rw [List.getD_eq_getElem?_getD, hj]
    rfl

theorem does_copy (hcx : CxOk P cx) (hi : Inv cx ok w0 ρ st a w) {nm : Nat} {o : Oper} {cl : Call} {S X : Operand} {T T2 : TypeId} {s x : C} {e : Eff} (ho : o.op = .call cl) (hb : cl.callee = .builtin .copy)
    (hargs : cl.args.toList = [S, X]) (hts : cl.argTypes.toList = [T, T2]) (hS : opv st.env S = .v false [s]) (hX : opv st.env X = .v false [x]) {E : TypeId} {t : ET} {n2 : Nat} {z2 : List D} {es2 : List (Option ET)} (hT : cx.tt T = some ⟨.slice E t, n2, z2, es2⟩)
    (he : copyE E t st.heap s x = some e) (hok : e.ok = true) : Does P cx ok w0 ρ st a w nm o e.val e.heap := by
  have hs := op_c hi hS
  have hx := op_c hi hX
  obtain ⟨hu, ie, hie, hsz, hz⟩ := und_of hcx hT
  have hte := hcx.ty _ _ hie
  obtain ⟨inf, g1, g2, _⟩ := hte.info
  have hw : inf.size = width t := by rw [g2, hsz]
  have hty : cl.argTypes[0]? = some T := by rw [← Array.getElem?_toList, hts]; rfl
  have run : ∀ u w', (Builtin.copy_ cl.argTypes o.type #[a.eval S, a.eval X]).run P w = .ok u w' → (execOp a.eval o).run P w = .ok (.value u) w' := fun u w' h =>
    run_builtin ho hb (fun cs => by rw [args_two hargs]; simp [builtin, h])
  unfold copyE at he
  split at he
  · rename_i n tn fulln off len
    split at he
    · rename_i htn; subst htn
      split at he
      · rename_i B t' l t2 l2 f2 r2 p hn hsl
        split at he
        · rename_i e1; subst e1
          split at he
          · rename_i e2; subst e2
            split at he
            · injection he with he; subst he
              simp only [Bool.and_eq_true, decide_eq_true_eq] at hok
              obtain ⟨hp, hlen⟩ := hok
              obtain ⟨A2, cap2, news, rx⟩ := sl_read hi.hv hx hsl hp
              obtain ⟨A, cap, hSe, hle, hfl, hA⟩ := hs
              have hxl : ∀ w' : World, (Builtin.lenOf (a.eval X)).run P w' = .ok l2.length w' := fun w' => by rw [rx.shape]; rfl
              have hfc := firstCells_take (P := P) rx (k := min l2.length len) (Nat.min_le_left _ _)
              simp only at hfc
              have hk : (l2.take len).length = min l2.length len := by rw [List.length_take, Nat.min_comm]
              have hl2 : l2.take len = l2.take (min l2.length len) := by
                rcases Nat.le_total l2.length len with h | h
                · rw [Nat.min_eq_left h, List.take_of_length_le h, List.take_of_length_le (Nat.le_refl _)]
                · rw [Nat.min_eq_right h]
              by_cases hk0 : min l2.length len = 0
              · have e3 : l2.take len = [] := List.length_eq_zero_iff.1 (by rw [hk, hk0])
                simp only [e3, hk0, Nat.add_zero, List.append_nil, List.take_append_drop]
                refine does_none hi hn (fun ok' w' => RV_of_sc (.int .i64 ((0 : Nat) : Int))) (run _ _ ?_)
                rw [hk0, Nat.zero_mul, List.take_zero] at hfc
                have hmin : Nat.min l2.length len = 0 := hk0
                cases A with
                | none => simp [Builtin.copy_, hty, hSe, run_underlying hu, hxl, hmin, sizeOf, typeInfo, g1, hw, hfc, goInt, Sc.val]
                | some A => simp [Builtin.copy_, hty, hSe, run_underlying hu, hxl, hmin, sizeOf, typeInfo, g1, hw, hfc, goInt, Sc.val, storeCells]
              · obtain ⟨b, hb', hA', hroom⟩ := hA (by omega)
                have hnl := rx.len
                simp only at hnl
                have hkl : min l2.length len * width t2 ≤ news.length := by rw [hnl]; exact Nat.mul_le_mul_right _ (Nat.min_le_left _ _)
                have key := does_part hi (nm := nm) (off := off) (m := l2.take len) (us := news.take (min l2.length len * width t2)) (v := .i (min l2.length len : Nat)) (x := .int .i64 ((min l2.length len : Nat) : Int)) hn (by rw [hk]; omega)
                  (fun e => hk0 (by rw [← hk, e]; rfl)) (by rw [hk, List.length_take]; omega) (by
                    rw [hl2]
                    exact RL_take (Nat.min_le_left _ _) rx.rl (fun q hq => by simp [List.getD_eq_getElem?_getD, List.getElem?_take, hq])) hb' (fun ok' w' => RV_of_sc (.int .i64 _)) (fun vs q2 hfit => run _ _ ?_)
                · rw [hk] at key; exact key
                · have hone : ∀ u ∈ news.take (min l2.length len * width t2), u.oneCell' = true := fun u hu => RL_one rx.len rx.rl u (List.mem_of_mem_take hu)
                  have hst := run_storeCells_at P b (off * width t2) B (news.take (min l2.length len * width t2)) 0 vs.toArray w q2 (by simpa using hfit) hone
                  simp only [Nat.add_zero] at hst
                  have hmin : Nat.min l2.length len = min l2.length len := rfl
                  simp [Builtin.copy_, hty, hSe, hA', run_underlying hu, hxl, hmin, sizeOf, typeInfo, g1, hw, hfc, goInt, hst]
            · cases he
          · cases he
        · cases he
      · cases he
    · cases he
  · cases he

theorem zeroCells_made (z : Array Value) (n : Nat) : Builtin.zeroCells z n = madeCells z (n * z.size) := rfl

theorem does_clear (hcx : CxOk P cx) (hi : Inv cx ok w0 ρ st a w) {nm : Nat} {o : Oper} {cl : Call} {S : Operand} {T : TypeId} {s : C} {e : Eff} (ho : o.op = .call cl) (hb : cl.callee = .builtin .clear)
    (hargs : cl.args.toList = [S]) (hts : cl.argTypes.toList = [T]) (hS : opv st.env S = .v false [s]) {E : TypeId} {t : ET} {n2 : Nat} {z2 : List D} {es2 : List (Option ET)} (hT : cx.tt T = some ⟨.slice E t, n2, z2, es2⟩)
    (he : clearE E t st.heap s = some e) (hok : e.ok = true) : Does P cx ok w0 ρ st a w nm o e.val e.heap := by
  have hs := op_c hi hS
  obtain ⟨hu, ie, hie, hsz, hz⟩ := und_of hcx hT
  have hte := hcx.ty _ _ hie
  have hcells := zval_cells hte hz hsz
  have hty : cl.argTypes[0]? = some T := by rw [← Array.getElem?_toList, hts]; rfl
  have run : ∀ u w', (Builtin.clear_ cl.argTypes o.type #[a.eval S]).run P w = .ok u w' → (execOp a.eval o).run P w = .ok (.value u) w' := fun u w' h =>
    run_builtin ho hb (fun cs => by rw [args_one hargs]; simp [builtin, h])
  unfold clearE at he
  split at he
  · rename_i n tn fulln off len
    split at he
    · rename_i htn; subst htn
      split at he
      · rename_i B t' l hn
        split at he
        · rename_i e1; subst e1
          injection he with he; subst he
          have hlen : off + len ≤ l.length := by simpa using hok
          obtain ⟨A, cap, hSe, hle, hfl, hA⟩ := hs
          by_cases hk0 : len = 0
          · subst hk0
            simp only [List.replicate_zero, Nat.add_zero, List.append_nil, List.take_append_drop]
            refine does_none hi hn (x := .tuple #[]) (fun ok' w' => trivial) (run _ _ ?_)
            cases A <;> simp [Builtin.clear_, hty, hSe, run_underlying hu]
          · obtain ⟨b, hb', hA', hroom⟩ := hA (by omega)
            have hzs : ((enc t' (dflt t')).map zval).toArray.size = width t' := by simp [enc_length]
            have key := does_part hi (nm := nm) (off := off) (m := List.replicate len (dflt t')) (us := (madeCells ((enc t' (dflt t')).map zval).toArray (len * width t')).toList) (v := .any) (x := .tuple #[]) hn (by simpa using hlen)
              (fun e => hk0 (by simpa using congrArg List.length e)) (by simp [size_madeCells]) (RL_zero t' len) hb' (fun _ _ => trivial) (fun vs q2 hfit => run _ _ ?_)
            · rw [List.length_replicate] at key; exact key
            · have hone : ∀ u ∈ (madeCells ((enc t' (dflt t')).map zval).toArray (len * width t')).toList, u.oneCell' = true :=
                RL_one (cx := cx) (ok := fun _ => True) (w := w) (l := List.replicate len (dflt t')) (by simp [size_madeCells]) (RL_zero t' len)
              have hst := run_storeCells_at P b (off * width t') B _ 0 vs.toArray w q2 (by simpa using hfit) hone
              simp only [Nat.add_zero] at hst
              have hz2 := run_zero (w := w) hte
              have hne : len ≠ 0 := hk0
              cases len with
              | zero => exact absurd rfl hk0
              | succ len =>
                have hzc : (Builtin.zeroCells (mkv ie.agg (ie.zero.map zval)).cells (len + 1)).toList = (madeCells ((enc t' (dflt t')).map zval).toArray ((len + 1) * width t')).toList := by
                  rw [hcells, zeroCells_made, hzs]
                simp [Builtin.clear_, hty, hSe, hA', run_underlying hu, hz2, hzc, hst]
        · cases he
      · cases he
    · cases he
  · cases he
end
end Go.Eng
