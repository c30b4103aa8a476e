/- What things come to: the method by which a thing is a value. -/
import Derived.Test.YtoohnjneocohnaaGreatZN1
import Derived.Test.YtoohnjneocohnaaGreatZG2
set_option linter.unusedVariables false
set_option linter.unusedSimpArgs false
namespace Go.Eng
open Go Go.Eng Go.Proofs Go.Eng.Tab
theorem inv165 (n : Int) (w : World) : (invoke (.fn (.method "towncrier/expr.value") #[]) #[.iface 165 (.int .i64 n)]).run Tryz.prog w = .ok (.enter 121 #[.int .i64 n]) w := by kernel_rfl
theorem inv142 (b : Bool) (w : World) : (invoke (.fn (.method "towncrier/expr.value") #[]) #[.iface 142 (.bool b)]).run Tryz.prog w = .ok (.enter 81 #[.bool b]) w := by kernel_rfl
theorem inv167 (v : Val) (w : World) : (invoke (.fn (.method "towncrier/expr.value") #[]) #[.iface 167 (.agg (valCells v))]).run Tryz.prog w = .ok (.enter 122 #[.agg (valCells v)]) w := by kernel_rfl
def S.thingIs (y : Thing) : Bool := y.isI 165 .i64 || (y.isB 142 || y.isV 167)
def S.thingV (y : Thing) : Val := bif y.isI 165 .i64 then ⟨0, y.asI 165 .i64, ByteArray.empty⟩ else bif y.isB 142 then ⟨1, bif y.asB 142 then 1 else 0, ByteArray.empty⟩ else y.asV 167
def g_zp57 : Con
 | [(false, [.th y])] => some ⟨S.thingIs y, none, [(true, (enc .val (S.thingV y)).map .d)]⟩
 | _ => none
theorem zp57_ok : StandsI Tryz.prog tyTab "towncrier/expr.value" g_zp57 := by
 intro das r hG hr ok w xs hx
 unfold g_zp57 at hG
 split at hG
 ·rename_i y
  injection hG with hG; subst hG
  have hl : xs.length = 1 := hx.1
  match xs, hl, hx with
  | [v], _, hx =>
   obtain ⟨c, hc, hd⟩ := hx.2 0 (by simp [liftA])
   simp only [List.map_cons, List.map_nil, List.cons.injEq, and_true] at hc
   subst hc
   have hd : RD (mkCx tyTab [] [] []) ok w (.th y) v := hd
   have hr : S.thingIs y = true := hr
   cases hd with
   | nilI => cases hr
   | one T s h1 =>
    by_cases e1 : (Thing.one T s).isI 165 .i64 = true
    ·cases s with
     | int k n =>
      simp only [Thing.isI, Bool.and_eq_true, beq_iff_eq, decide_eq_true_eq] at e1
      obtain ⟨rfl, rfl⟩ := e1
      obtain ⟨f, ys, q1, q2⟩ := zzh4_ok [(false, [.sc (.int .i64 n)])] _ rfl rfl ok w [.int .i64 n] ⟨rfl, fun j hj => by
       have : j = 0 := by simp [liftA] at hj; omega
       subst this; exact ⟨_, rfl, .sc (.int .i64 n)⟩⟩
      have q3 := run_callFunc (w := w) (P := Tryz.prog) (f := 121) (fn := Tryz.f121) ⟨by kernel_rfl, by kernel_rfl, by kernel_rfl⟩ [Value.int .i64 n].toArray
      rw [q3] at q1
      injection q1 with q1; injection q1 with e2 e3
      subst e2; subst e3
      exact ⟨121, _, inv165 n w, q2⟩
     | bool b => cases e1
     | str b => cases e1
    ·by_cases e2 : (Thing.one T s).isB 142 = true
     ·cases s with
      | int k n => cases e2
      | str b => cases e2
      | bool b =>
       simp only [Thing.isB, beq_iff_eq] at e2
       subst e2
       obtain ⟨f, ys, q1, q2⟩ := zo5k_ok [(false, [.sc (.bool b)])] _ rfl (by cases b <;> rfl) ok w [.bool b] ⟨rfl, fun j hj => by
        have : j = 0 := by simp [liftA] at hj; omega
        subst this; exact ⟨_, rfl, .sc (.bool b)⟩⟩
       have q3 := run_callFunc (w := w) (P := Tryz.prog) (f := 81) (fn := Tryz.f81) ⟨by kernel_rfl, by kernel_rfl, by kernel_rfl⟩ [Value.bool b].toArray
       rw [q3] at q1
       injection q1 with q1; injection q1 with e2 e3
       subst e2; subst e3
       refine ⟨81, _, inv142 b w, ?_⟩
       cases b
       ·exact q2
       ·exact q2
     ·exfalso
      simp only [Bool.not_eq_true] at e1 e2
      simp [S.thingIs, e1, e2, Thing.isV] at hr
   | val T v h1 =>
    have e1 : T = 167 := by
     simp only [S.thingIs, Thing.isI, Thing.isB, Thing.isV, Bool.false_or, beq_iff_eq] at hr
     exact hr
    subst e1
    obtain ⟨f, ys, q1, q2⟩ := zlhf_ok [(true, [.sc (.int .i64 v.kind), .sc (.int .i64 v.n), .sc (.str v.s)])] _ rfl rfl ok w [.agg (valCells v)] ⟨rfl, fun j hj => by
     have : j = 0 := by simp [liftA] at hj; omega
     subst this
     refine ⟨[.int .i64 v.kind, .int .i64 v.n, .string v.s], rfl, rfl, fun j hj => ?_⟩
     match j, hj with
     | 0, _ => exact .sc (.int .i64 v.kind)
     | 1, _ => exact .sc (.int .i64 v.n)
     | 2, _ => exact .sc (.str v.s)
     | j + 3, hj => simp at hj; omega⟩
    have q3 := run_callFunc (w := w) (P := Tryz.prog) (f := 122) (fn := Tryz.f122) ⟨by kernel_rfl, by kernel_rfl, by kernel_rfl⟩ [Value.agg (valCells v)].toArray
    rw [q3] at q1
    injection q1 with q1; injection q1 with e2 e3
    subst e2; subst e3
    exact ⟨122, _, inv167 v w, q2⟩
 ·cases hG
end Go.Eng
