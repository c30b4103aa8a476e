/- What is told of an event that was taken: by what is to be told. -/
import Derived.Test.YtoohnjneocohnaaGreatZG4
set_option linter.unusedVariables false
set_option linter.unusedSimpArgs false
namespace Go.Eng
open Go Go.Eng Go.Proofs Go.Eng.Tab
noncomputable def S.told_is (ag st af r0 r1 r2 r3 r4 r5 : Int) (r6 : Bool) (v : List (Ty .val)) : Bool :=
 match ag with
 | .ofNat 0 => S.told0_is st r0 r1 r2 r3 r4 r5 r6
 | .ofNat 1 => S.told1_is st af r0 r1 r2 r3 r4 r5 r6 v
 | .ofNat 2 => S.told2_is st af r0 r1 r2 r3 r4 r5 r6 v
 | .ofNat (n + 3) => S.toldp_is st af r0 r1 r2 r3 r4 r5 r6 v
 | .negSucc n => S.toldn_is st af r0 r1 r2 r3 r4 r5 r6 v
noncomputable def S.told_o (ag st af r0 r1 r2 r3 r4 r5 : Int) (r6 : Bool) (v : List (Ty .val)) : Run :=
 match ag with
 | .ofNat 0 => ⟨(S.told0_o st r0 r1 r2 r3 r4 r5 r6).x0, (S.told0_o st r0 r1 r2 r3 r4 r5 r6).x1, (S.told0_o st r0 r1 r2 r3 r4 r5 r6).x2, (S.told0_o st r0 r1 r2 r3 r4 r5 r6).x3, (S.told0_o st r0 r1 r2 r3 r4 r5 r6).x4, (S.told0_o st r0 r1 r2 r3 r4 r5 r6).x5, (S.told0_o st r0 r1 r2 r3 r4 r5 r6).x6⟩
 | .ofNat 1 => ⟨(S.told1_o st af r0 r1 r2 r3 r4 r5 r6 v).x0, (S.told1_o st af r0 r1 r2 r3 r4 r5 r6 v).x1, (S.told1_o st af r0 r1 r2 r3 r4 r5 r6 v).x2, (S.told1_o st af r0 r1 r2 r3 r4 r5 r6 v).x3, (S.told1_o st af r0 r1 r2 r3 r4 r5 r6 v).x4, (S.told1_o st af r0 r1 r2 r3 r4 r5 r6 v).x5, (S.told1_o st af r0 r1 r2 r3 r4 r5 r6 v).x6⟩
 | .ofNat 2 => ⟨(S.told2_o st af r0 r1 r2 r3 r4 r5 r6 v).x0, (S.told2_o st af r0 r1 r2 r3 r4 r5 r6 v).x1, (S.told2_o st af r0 r1 r2 r3 r4 r5 r6 v).x2, (S.told2_o st af r0 r1 r2 r3 r4 r5 r6 v).x3, (S.told2_o st af r0 r1 r2 r3 r4 r5 r6 v).x4, (S.told2_o st af r0 r1 r2 r3 r4 r5 r6 v).x5, (S.told2_o st af r0 r1 r2 r3 r4 r5 r6 v).x6⟩
 | .ofNat (n + 3) => ⟨(S.toldp_o st af r0 r1 r2 r3 r4 r5 r6 v).x0, (S.toldp_o st af r0 r1 r2 r3 r4 r5 r6 v).x1, (S.toldp_o st af r0 r1 r2 r3 r4 r5 r6 v).x2, (S.toldp_o st af r0 r1 r2 r3 r4 r5 r6 v).x3, (S.toldp_o st af r0 r1 r2 r3 r4 r5 r6 v).x4, (S.toldp_o st af r0 r1 r2 r3 r4 r5 r6 v).x5, (S.toldp_o st af r0 r1 r2 r3 r4 r5 r6 v).x6⟩
 | .negSucc n => ⟨(S.toldn_o st af r0 r1 r2 r3 r4 r5 r6 v).x0, (S.toldn_o st af r0 r1 r2 r3 r4 r5 r6 v).x1, (S.toldn_o st af r0 r1 r2 r3 r4 r5 r6 v).x2, (S.toldn_o st af r0 r1 r2 r3 r4 r5 r6 v).x3, (S.toldn_o st af r0 r1 r2 r3 r4 r5 r6 v).x4, (S.toldn_o st af r0 r1 r2 r3 r4 r5 r6 v).x5, (S.toldn_o st af r0 r1 r2 r3 r4 r5 r6 v).x6⟩
noncomputable def ret_told (b : Bool) (r : Run) : Ret := ⟨b, none, [(true,
    [C.d (D.sc (Sc.int IntKind.i64 r.first)), C.d (D.sc (Sc.int IntKind.i64 r.at_)), C.d (D.sc (Sc.int IntKind.i64 r.step)), C.d (D.sc (Sc.int IntKind.i64 r.n)),
     C.d (D.sc (Sc.int IntKind.i64 r.many)), C.d (D.sc (Sc.int IntKind.i64 r.agg)), C.d (D.sc (Sc.bool r.bad))])]⟩
noncomputable def g_told : Con
 | [(true, [.sl n0 f0 .step st, .sc (.int .i64 wi), .sc (.int .i64 ag), .sc (.int .i64 as'), .sc (.int .i64 af)]), (true, [.sc (.int .i64 r0), .sc (.int .i64 r1), .sc (.int .i64 r2), .sc (.int .i64 r3), .sc (.int .i64 r4), .sc (.int .i64 r5), .sc (.bool r6)]), (true, [.sc (.str en), .sc (.int .i64 ea), .sl n1 f1 .val ev])] => some (ret_told (S.told_is ag as' af r0 r1 r2 r3 r4 r5 r6 ev) (S.told_o ag as' af r0 r1 r2 r3 r4 r5 r6 ev))
 | _ => none
theorem told_ok : Stands Tryz.prog tyTab 72 g_told := by
 intro das r hG hr
 unfold g_told at hG
 split at hG
 ·rename_i n0 f0 st wi ag as' af r0 r1 r2 r3 r4 r5 r6 en ea n1 f1 ev
  injection hG with hG; subst hG
  match ag, hr with
  | .ofNat 0, hr => exact told0_ok _ _ rfl hr
  | .ofNat 1, hr => exact told1_ok _ _ rfl hr
  | .ofNat 2, hr => exact told2_ok _ _ rfl hr
  | .ofNat (n + 3), hr => exact toldp_ok _ _ rfl hr
  | .negSucc n, hr => exact toldn_ok _ _ rfl hr
 ·cases hG
end Go.Eng
