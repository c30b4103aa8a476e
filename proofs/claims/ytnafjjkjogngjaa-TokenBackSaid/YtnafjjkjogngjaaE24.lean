/- A region's operations, done one behind the other; two that do not meddle may change places. -/
import Derived.Test.YtnafjjkjogngjaaE23
set_option linter.unusedVariables false
set_option linter.unusedSimpArgs false
namespace Go.Eng
open Go Go.RowKit

abbrev CL := Func → FuncId → List Arg → Heap → List Arg → Heap → Prop

def guardV (ops : Array Oper) (env : List V) (o : Oper) : Option Bool :=
  match o.guard with
  | none => some true
  | some (j, want) => match (ops[j]?).bind (·.dst) with
    | none => none
    | some d => match env.getD d .any with
      | .v false [.d (.sc (.bool b))] => some (b == want)
      | .tup [] => some false
      | _ => none

inductive Done (cx : Cx) (cl : CL) (base i : Nat) (o : Oper) (env : List V) (h : Heap) : V → Heap → Note → Prop where
  | op (e : Eff) (h1 : inlE cx env o = none) (h2 : opE cx (base + i) env h o = some e) (h3 : e.ok = true) : Done cx cl base i o env h e.val e.heap ⟨i, e.rd, e.wr, false⟩
  | inl (fn : Func) (f : FuncId) (as rs : List Arg) (h' : Heap) (h1 : inlE cx env o = some (fn, f, as)) (h2 : cl fn f as h rs h') : Done cx cl base i o env h (valOf rs) h' ⟨i, [], [], true⟩

inductive Step1 (cx : Cx) (cl : CL) (ops : Array Oper) (base i : Nat) (st : St) : St → List Note → Prop where
  | run (o : Oper) (v : V) (h' : Heap) (n : Note) (h1 : ops[i]? = some o) (h2 : guardV ops st.env o = some true) (h3 : Done cx cl base i o st.env st.heap v h' n) : Step1 cx cl ops base i st ⟨putV st.env o.dst v, h', st.fb⟩ [n]
  | skip (o : Oper) (h1 : ops[i]? = some o) (h2 : guardV ops st.env o = some false) : Step1 cx cl ops base i st ⟨putV st.env o.dst (.tup []), st.heap, st.fb⟩ []

inductive Exec (cx : Cx) (cl : CL) (ops : Array Oper) (base : Nat) : List Nat → St → St → List Note → Prop where
  | nil (st : St) : Exec cx cl ops base [] st st []
  | cons {i : Nat} {is : List Nat} {st st1 st2 : St} {n1 n2 : List Note} (h1 : Step1 cx cl ops base i st st1 n1) (h2 : Exec cx cl ops base is st1 st2 n2) : Exec cx cl ops base (i :: is) st st2 (n1 ++ n2)

theorem env_set_self {env : List V} {d : Nat} {v : V} (h : env.getD d .any = v) (hv : v ≠ .any) : env.set d v = env := by
  apply List.ext_getElem?
  intro m
  rw [List.getElem?_set]
  by_cases e : d = m
  · subst e
    by_cases hl : d < env.length
    · simp only [if_true, hl]
      rw [← h, List.getD_eq_getElem?_getD, List.getElem?_eq_getElem hl]; rfl
    · rw [List.getD_eq_getElem?_getD, List.getElem?_eq_none (Nat.le_of_not_lt hl)] at h
      exact absurd h.symm hv
  · rw [if_neg e]

theorem evOps_adq {X : Type} {cx : Cx} {cl : CL} {hd : Hd (Option X)} (hcl : ∀ fn f as h K (x : X), hd.cl fn f as h K = some x → ∃ rs h', cl fn f as h rs h' ∧ K rs h' = some x) {ops : Array Oper} {base : Nat} :
    ∀ (is : List Nat) (st : St) (lg : List Note) (K : St → List Note → Option X) (x : X), evOps cx hd none ops base is st lg K = some x → ∃ st' ns, Exec cx cl ops base is st st' ns ∧ K st' (ns.reverse ++ lg) = some x
  | [], st, lg, K, x, h => ⟨st, [], .nil st, h⟩
  | i :: rest, st, lg, K, x, h => by
    have ih := evOps_adq (X := X) (cx := cx) hcl (ops := ops) (base := base) rest
    unfold evOps at h
    cases ho : ops[i]? with
    | none => rw [ho] at h; cases h
    | some o =>
      rw [ho] at h
      simp only at h
      have skip : guardV ops st.env o = some false → evOps cx hd none ops base rest ⟨putV st.env o.dst (.tup []), st.heap, st.fb⟩ lg K = some x → ∃ st' ns, Exec cx cl ops base (i :: rest) st st' ns ∧ K st' (ns.reverse ++ lg) = some x := fun hg he => by
        obtain ⟨st', ns, h1, h2⟩ := ih _ _ _ _ he
        exact ⟨st', _, .cons (.skip o ho hg) h1, h2⟩
      have go : guardV ops st.env o = some true → (match inlE cx st.env o with
        | some (fn, f, as) => hd.cl fn f as st.heap fun rs h => evOps cx hd none ops base rest ⟨putV st.env o.dst (valOf rs), h, st.fb⟩ (⟨i, [], [], true⟩ :: lg) K
        | none => match opE cx (base + i) st.env st.heap o with
          | none => none
          | some e => cond e.ok (evOps cx hd none ops base rest ⟨putV st.env o.dst e.val, e.heap, st.fb⟩ (⟨i, e.rd, e.wr, false⟩ :: lg) K) none) = some x → ∃ st' ns, Exec cx cl ops base (i :: rest) st st' ns ∧ K st' (ns.reverse ++ lg) = some x := fun hg he => by
        split at he
        · rename_i fn f as hin
          obtain ⟨rs, h', h1, h2⟩ := hcl _ _ _ _ _ _ he
          obtain ⟨st', ns, h3, h4⟩ := ih _ _ _ _ h2
          refine ⟨st', _, .cons (.run o _ _ _ ho hg (.inl fn f as rs h' hin h1)) h3, ?_⟩
          simpa using h4
        · rename_i hin
          split at he
          · cases he
          · rename_i e hop
            cases hok : e.ok with
            | false => rw [hok] at he; cases he
            | true =>
              rw [hok] at he
              obtain ⟨st', ns, h3, h4⟩ := ih _ _ _ _ he
              refine ⟨st', _, .cons (.run o _ _ _ ho hg (.op e hin hop hok)) h3, ?_⟩
              simpa using h4
      cases hgd : o.guard with
      | none =>
        rw [hgd] at h
        exact go (by simp [guardV, hgd]) h
      | some gw =>
        obtain ⟨j, want⟩ := gw
        rw [hgd] at h
        simp only at h
        split at h
        · cases h
        · rename_i d hd'
          split at h
          · rename_i b hb
            have hset : ∀ t, b = t → st.env.set d (.b t) = st.env := fun t e => by subst e; exact env_set_self hb (by simp)
            cases b with
            | true =>
              rw [hset true rfl] at h
              cases want with
              | true => exact go (by unfold guardV; rw [hgd]; simp only [hd', hb]; rfl) h
              | false => exact skip (by unfold guardV; rw [hgd]; simp only [hd', hb]; rfl) h
            | false =>
              rw [hset false rfl] at h
              cases want with
              | true => exact skip (by unfold guardV; rw [hgd]; simp only [hd', hb]; rfl) h
              | false => exact go (by unfold guardV; rw [hgd]; simp only [hd', hb]; rfl) h
          · rename_i hb
            exact skip (by unfold guardV; rw [hgd]; simp only [hd', hb]) h
          · cases h

section
variable {cx : Cx} {cl : CL} {ops : Array Oper} {base : Nat}

theorem opv_put {env : List V} {dst : Option Tmp} {v : V} {x : Operand} (h : ∀ d, dst = some d → x ≠ .tmp d) : opv (putV env dst v) x = opv env x := by
  cases dst with
  | none => rfl
  | some d =>
    cases x with
    | tmp t =>
      have hne : d ≠ t := fun e => h d rfl (e ▸ rfl)
      simp [opv, putV, List.getD_eq_getElem?_getD, List.getElem?_set, hne]
    | _ => rfl

theorem opv_apart {env : List V} {v : V} {x y : Oper} (h : ∀ d, x.dst = some d → d ∉ y.looksAt ops) : ∀ z ∈ y.op.operands, opv (putV env x.dst v) z = opv env z := fun z hz =>
  opv_put fun d hd hzd => h d hd (by
    subst hzd
    exact List.mem_append_left _ (List.mem_filterMap.2 ⟨.tmp d, by simpa using hz, rfl⟩))

theorem guardV_apart {env : List V} {v : V} {x y : Oper} (h : ∀ d, x.dst = some d → d ∉ y.looksAt ops) : guardV ops (putV env x.dst v) y = guardV ops env y := by
  cases hx : x.dst with
  | none => rfl
  | some d =>
    unfold guardV
    cases hg : y.guard with
    | none => rfl
    | some gw =>
      obtain ⟨g, want⟩ := gw
      simp only
      cases ht : (ops[g]?).bind (·.dst) with
      | none => rfl
      | some t =>
        have hne : d ≠ t := fun e => h d hx (by subst e; simp [Oper.looksAt, hg, ht])
        simp [putV, List.getD_eq_getElem?_getD, List.getElem?_set, hne]

theorem putV_comm {env : List V} {d e : Option Tmp} {v u : V} (h : ∀ t, d = some t → e ≠ some t) : putV (putV env d v) e u = putV (putV env e u) d v := by
  cases d with
  | none => rfl
  | some d =>
    cases e with
    | none => rfl
    | some e =>
      have hne : d ≠ e := fun he => h d rfl (he ▸ rfl)
      exact List.set_comm _ _ hne

theorem patch_set {n : Nat} {b : Option Blk} : ∀ (dl : List (Nat × Option Blk)) (h : Heap), (∀ p ∈ dl, p.1 ≠ n) → patch (h.set n b) dl = (patch h dl).set n b
  | [], _, _ => rfl
  | p :: dl, h, hn => by
    rw [patch, patch, List.set_comm _ _ (fun e => hn p List.mem_cons_self e.symm), patch_set dl _ (fun q hq => hn q (List.mem_cons_of_mem _ hq))]
theorem patch_comm : ∀ (d1 d2 : List (Nat × Option Blk)) (h : Heap), (∀ p ∈ d1, ∀ q ∈ d2, p.1 ≠ q.1) → patch (patch h d1) d2 = patch (patch h d2) d1
  | [], _, _, _ => rfl
  | p :: d1, d2, h, hn => by
    rw [patch, patch_comm d1 d2 _ (fun q hq => hn q (List.mem_cons_of_mem _ hq)), patch_set d2 h (fun q hq e => hn p List.mem_cons_self q hq e.symm), patch]

theorem meddle_wr {x y : Note} (h : meddle x y = false) : (∀ n ∈ x.wr, n ∉ y.rd ∧ n ∉ y.wr) ∧ (∀ n ∈ y.wr, n ∉ x.rd ∧ n ∉ x.wr) := by
  simp only [meddle, Bool.or_eq_false_iff] at h
  obtain ⟨⟨_, h1⟩, h2⟩ := h
  have k1 : ∀ n ∈ x.wr, n ∉ y.rd ∧ n ∉ y.wr := fun n hn => by
    have := List.any_eq_false.1 h1 n hn
    simpa using this
  refine ⟨k1, fun n hn => ⟨?_, fun hx => (k1 n hx).2 hn⟩⟩
  have := List.any_eq_false.1 h2 n hn
  simpa using this
theorem meddle_all {x y : Note} (h : meddle x y = false) (hx : x.all = true) : y.all = false ∧ y.rd = [] ∧ y.wr = [] := by
  simp only [meddle, Bool.or_eq_false_iff, hx, Bool.true_and] at h
  obtain ⟨⟨⟨h0, _⟩, _⟩, _⟩ := h
  simp at h0
  exact ⟨h0.1.1, h0.1.2, h0.2⟩
theorem meddle_comm (x y : Note) : meddle x y = meddle y x := by
  have key : ∀ x y : Note, meddle x y = false → meddle y x = false := fun x y h => by
    have hw := meddle_wr h
    have ha : (y.all && (x.all || !x.rd.isEmpty || !x.wr.isEmpty)) = false ∧ (x.all && (!y.rd.isEmpty || !y.wr.isEmpty)) = false := by
      simp only [meddle, Bool.or_eq_false_iff] at h
      obtain ⟨⟨⟨h0, h3⟩, _⟩, _⟩ := h
      cases hx : x.all <;> cases hy : y.all <;> simp [hx, hy] at h0 h3 ⊢ <;> first | exact h3 | exact h0
    simp only [meddle, Bool.or_eq_false_iff]
    refine ⟨⟨ha, List.any_eq_false.2 fun n hn => ?_⟩, List.any_eq_false.2 fun n hn => ?_⟩
    · have := hw.2 n hn; simpa using this
    · have := (hw.1 n hn).1; simpa using this
  cases h : meddle x y with
  | false => exact (key x y h).symm
  | true =>
    cases h2 : meddle y x with
    | true => rfl
    | false => rw [key y x h2] at h; cases h

theorem swap {i j : Nat} {oi oj : Oper} (hi : ops[i]? = some oi) (hj : ops[j]? = some oj) (ha : oi.apart ops oj = true) {st st1 st2 : St} {n1 n2 : List Note} (h1 : Step1 cx cl ops base i st st1 n1) (h2 : Step1 cx cl ops base j st1 st2 n2)
    (hm : ∀ x ∈ n1, ∀ y ∈ n2, meddle x y = false) : ∃ st1', Step1 cx cl ops base j st st1' n2 ∧ Step1 cx cl ops base i st1' st2 n1 := by
  obtain ⟨a1, a2, a3⟩ := Oper.apart_spec ha
  cases h1 with
  | skip o g1 g2 =>
    rw [hi] at g1; injection g1 with g1; subst g1
    cases h2 with
    | skip o k1 k2 =>
      rw [hj] at k1; injection k1 with k1; subst k1
      refine ⟨_, .skip oj hj ((guardV_apart a1).symm.trans k2), ?_⟩
      have := Step1.skip (cx := cx) (cl := cl) (base := base) (st := ⟨putV st.env oj.dst (.tup []), st.heap, st.fb⟩) oi hi ((guardV_apart a3).trans g2)
      rw [show putV (putV st.env oi.dst (.tup [])) oj.dst (.tup []) = putV (putV st.env oj.dst (.tup [])) oi.dst (.tup []) from putV_comm a2]
      exact this
    | run o v h' n k1 k2 k3 =>
      rw [hj] at k1; injection k1 with k1; subst k1
      have k3' : Done cx cl base j oj st.env st.heap v h' n := by
        cases k3 with
        | op e q1 q2 q3 => exact .op e ((inlE_env (opv_apart a1)).symm.trans q1) ((opE_env (opv_apart a1)).symm.trans q2) q3
        | inl fn f as rs h' q1 q2 => exact .inl fn f as rs h' ((inlE_env (opv_apart a1)).symm.trans q1) q2
      refine ⟨_, .run oj v h' n hj ((guardV_apart a1).symm.trans k2) k3', ?_⟩
      have := Step1.skip (cx := cx) (cl := cl) (base := base) (st := ⟨putV st.env oj.dst v, h', st.fb⟩) oi hi ((guardV_apart a3).trans g2)
      rw [show putV (putV st.env oi.dst (.tup [])) oj.dst v = putV (putV st.env oj.dst v) oi.dst (.tup []) from putV_comm a2]
      exact this
  | run o v h' n g1 g2 g3 =>
    rw [hi] at g1; injection g1 with g1; subst g1
    cases h2 with
    | skip o k1 k2 =>
      rw [hj] at k1; injection k1 with k1; subst k1
      refine ⟨_, .skip oj hj ((guardV_apart a1).symm.trans k2), ?_⟩
      have g3' : Done cx cl base i oi (putV st.env oj.dst (.tup [])) st.heap v h' n := by
        cases g3 with
        | op e q1 q2 q3 => exact .op e ((inlE_env (opv_apart a3)).trans q1) ((opE_env (opv_apart a3)).trans q2) q3
        | inl fn f as rs h' q1 q2 => exact .inl fn f as rs h' ((inlE_env (opv_apart a3)).trans q1) q2
      have := Step1.run (st := ⟨putV st.env oj.dst (.tup []), st.heap, st.fb⟩) oi v h' n hi ((guardV_apart a3).trans g2) g3'
      rw [show putV (putV st.env oi.dst v) oj.dst (.tup []) = putV (putV st.env oj.dst (.tup [])) oi.dst v from putV_comm a2]
      exact this
    | run o u h'' m k1 k2 k3 =>
      rw [hj] at k1; injection k1 with k1; subst k1
      have hnm := hm n (List.mem_singleton.2 rfl) m (List.mem_singleton.2 rfl)
      have hmn : meddle m n = false := by rw [meddle_comm]; exact hnm
      have fin : ∀ hx, Done cx cl base j oj st.env st.heap u hx m → Done cx cl base i oi (putV st.env oj.dst u) hx v h'' n → ∃ st1', Step1 cx cl ops base j st st1' [m] ∧ Step1 cx cl ops base i st1' ⟨putV (putV st.env oi.dst v) oj.dst u, h'', st.fb⟩ [n] := fun hx d1 d2 => by
        refine ⟨_, .run oj u hx m hj ((guardV_apart a1).symm.trans k2) d1, ?_⟩
        have := Step1.run (st := ⟨putV st.env oj.dst u, hx, st.fb⟩) oi v h'' n hi ((guardV_apart a3).trans g2) d2
        rw [show putV (putV st.env oi.dst v) oj.dst u = putV (putV st.env oj.dst u) oi.dst v from putV_comm a2]
        exact this
      cases g3 with
      | op e q1 q2 q3 =>
        obtain ⟨dl, l1, l2, l3⟩ := opE_local q2
        have d2 : ∀ hx, (∀ n ∈ e.rd, lk hx n = lk st.heap n) → Done cx cl base i oi (putV st.env oj.dst u) hx e.val (patch hx dl) ⟨i, e.rd, e.wr, false⟩ := fun hx hh =>
          Done.op (cx := cx) (cl := cl) (base := base) (i := i) (o := oi) (env := putV st.env oj.dst u) (h := hx) ⟨e.ok, e.val, patch hx dl, e.rd, e.wr⟩ ((inlE_env (opv_apart a3)).trans q1) ((opE_env (opv_apart a3)).trans (l3 hx hh)) q3
        cases k3 with
        | op e2 r1 r2 r3 =>
          have r2' := (opE_env (opv_apart a1)).symm.trans r2
          obtain ⟨dl2, m1, m2, m3⟩ := opE_local r2'
          have hw := meddle_wr hnm
          have e1 := m3 st.heap (fun n hn => by
            simp only [l1]
            exact (lk_patch dl st.heap n (fun p hp e => (hw.1 p.1 (l2 p hp).1).1 (e ▸ hn))).symm)
          refine fin (patch st.heap dl2) ?_ ?_
          · exact Done.op (cx := cx) (cl := cl) (base := base) (i := j) (o := oj) (env := st.env) (h := st.heap) ⟨e2.ok, e2.val, patch st.heap dl2, e2.rd, e2.wr⟩ ((inlE_env (opv_apart a1)).symm.trans r1) e1 r3
          · have := d2 (patch st.heap dl2) (fun n hn => lk_patch dl2 st.heap n (fun p hp e => (hw.2 p.1 (m2 p hp).1).1 (e ▸ hn)))
            rw [show e2.heap = patch (patch st.heap dl2) dl from by
              rw [m1]
              simp only [l1]
              exact patch_comm dl dl2 st.heap (fun p hp q hq e => (hw.1 p.1 (l2 p hp).1).2 (e ▸ (m2 q hq).1))]
            exact this
        | inl fn f as rs h' r1 r2 =>
          obtain ⟨_, hr, hwr⟩ := meddle_all hmn rfl
          simp only at hr hwr
          have hdl : dl = [] := by
            cases dl with
            | nil => rfl
            | cons p dl => have := (l2 p List.mem_cons_self).1; rw [hwr] at this; cases this
          subst hdl
          have hh : e.heap = st.heap := l1
          simp only [hh] at r2
          have := d2 h'' (fun n hn => by rw [hr] at hn; cases hn)
          exact fin h'' (.inl fn f as rs h'' ((inlE_env (opv_apart a1)).symm.trans r1) r2) this
      | inl fn f as rs h0 q1 q2 =>
        obtain ⟨hall, hr, hwr⟩ := meddle_all hnm rfl
        cases k3 with
        | inl fn2 f2 as2 rs2 h2 r1 r2 => cases hall
        | op e2 r1 r2 r3 =>
          have r2' := (opE_env (opv_apart a1)).symm.trans r2
          obtain ⟨dl2, m1, m2, m3⟩ := opE_local r2'
          simp only at hr hwr
          have hdl : dl2 = [] := by
            cases dl2 with
            | nil => rfl
            | cons p dl => have := (m2 p List.mem_cons_self).1; rw [hwr] at this; cases this
          subst hdl
          have e1 := m3 st.heap (fun n hn => by rw [hr] at hn; cases hn)
          have hh : e2.heap = h' := m1
          refine fin st.heap ?_ ?_
          · exact Done.op (cx := cx) (cl := cl) (base := base) (i := j) (o := oj) (env := st.env) (h := st.heap) ⟨e2.ok, e2.val, st.heap, e2.rd, e2.wr⟩ ((inlE_env (opv_apart a1)).symm.trans r1) e1 r3
          · rw [hh]
            exact .inl fn f as rs h' ((inlE_env (opv_apart a3)).trans q1) q2
end
end Go.Eng
