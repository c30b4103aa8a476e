/- The chapter's example of what is asked. -/
import Derived.Test.YtbjeikmkngcjlaaVZP48
set_option linter.unusedVariables false
set_option linter.unusedSimpArgs false
namespace Go.Eng
open Go Go.Eng
def qO : Query := ⟨[stA], 0, 0, 0, 0⟩
theorem q_lone : S.zo54 = some ⟨[stA], 0, 0, 0, 0⟩ := by
 unfold S.zo54 S.zo54_R
 simp [DT.run_br, DT.run_leaf, xdec, sub]
 rfl
theorem q_lone_is : S.zo54_is = true := by simp [S.zo54_is, q_lone]
theorem q_lone_o : S.zo54_o = ⟨[stA], 0, 0, 0, 0⟩ := by unfold S.zo54_o; rw [q_lone]; rfl
def pA : Pred := ⟨bA, []⟩
theorem q_awake10 : S.zg3i = some ⟨true⟩ := by
 have f1 : fewQ [qO, qO] := by
  refine ⟨by decide, fun q hq => ?_⟩
  have : q = qO := by simpa using hq
  subst this
  exact ⟨by decide, by decide⟩
 have a1 : S.zdrt [qO, qO] = some ⟨[pA], false, 1⟩ := by
  rw [q_All [qO, qO] f1, show allP [qO, qO] = [pA] from by decide +kernel]; rfl
 have a2 : S.zxuk [pA] bA 0 [] = some ⟨[true], 1⟩ := by
  rw [q_toldO [pA] bA 0 [] (by decide)]
  have : [pA].map (tellP bA 0 []) = [true] := by
   simp only [List.map_cons, List.map_nil]
   have : tellP bA 0 [] pA = true := by unfold tellP; rw [show pA.ifs = [] from rfl, HB_plain]; decide
   rw [this]
  rw [this]; rfl
 have a3 : S.zgkp [pA] bA [] = some ⟨0⟩ := by
  rw [q_Find [pA] bA [] (by decide) (fun i h => by
   have : i = 0 := by have := (show i < 1 from h); omega
   subst this; exact (by decide : (0 : Nat) ≤ maxLen))]
  rw [show findL [pA] ⟨bA, []⟩ = 0 from by decide +kernel]
 have a4 : S.zh5h bA [] bB 0 [] = some ⟨false⟩ := by
  rw [q_iHolds, HB_plain]; rw [show decide (bA = Evt.name ⟨bB, 0, []⟩) = false from by decide +kernel]
 unfold S.zg3i S.zg3i_R; dsimp only
 rw [q_lone_is, q_lone_o]
 have e : sub [({ steps := [stA], within := 0, agg := 0, aggStep := 0, aggF := 0 : Query }), ({ steps := [stA], within := 0, agg := 0, aggStep := 0, aggF := 0 : Query })] 0 (0 + 2) = [qO, qO] := rfl
 dsimp only
 rw [e]
 simp only [S.zdrt_is, S.zdrt_o, a1, Option.isSome_some, Option.getD_some]
 have e2 : sub [pA] 0 (0 + 1) = [pA] := rfl
 rw [e2]
 have e3 : ({ data := { toList := [97] : Array UInt8 } : ByteArray }) = bA := rfl
 have e4 : ({ data := { toList := [98] : Array UInt8 } : ByteArray }) = bB := rfl
 rw [e3, e4]
 simp only [S.zxuk_is, S.zxuk_o, a2, Option.isSome_some, Option.getD_some]
 have e5 : [pA].getD (0 + Int.toNat 0) (dflt ET.pred) = pA := rfl
 rw [e5]
 have e6 : pA.name = bA := rfl
 have e7 : pA.ifs = [] := rfl
 rw [e6, e7]
 simp only [S.zgkp_is, S.zgkp_o, a3, S.zh5h_is, S.zh5h_o, a4, Option.isSome_some, Option.getD_some]
 rfl
theorem q_awake10_is : S.zg3i_is = true := by simp [S.zg3i_is, q_awake10]
theorem q_awake10_o : S.zg3i_o.x0 = true := by simp [S.zg3i_o, q_awake10]
end Go.Eng
