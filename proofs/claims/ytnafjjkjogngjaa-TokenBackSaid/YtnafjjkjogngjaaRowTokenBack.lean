/- The law 'TokenBack' (towncrier/towncrierlaw16.TokenBack): whatever it is called with, it hands back true, and its arguments read as they did: no condition. -/
import Derived.Test.YtnafjjkjogngjaaRows
import Derived.Test.YtnafjjkjogngjaaE39
import Derived.Test.YtnafjjkjogngjaaP12
namespace Go.Proofs.Ytnafjjkjogngjaa.tokenBack
open Go Go.RowKit Go.Eng Go.Eng.Tab
set_option linter.unusedVariables false
set_option linter.unusedSimpArgs false
abbrev shapes : List Shape := [(false, [.sl (some true) true .pass []]), (false, [.sc (.int .i64 0)]), (false, [.sc (.int .u64 0)]), (false, [.sc (.int .i64 0)]), (false, [.sc (.int .i64 0)]), (false, [.sc (.int .i64 0)])]
theorem all (das : List DArg) (hfit : Fits shapes das) : ∃ r, g_law16_TokenBack das = some r ∧ r.ok = true ∧ r.vals = [(false, [.d (.sc (.bool true))])] := by
  obtain ⟨⟨g0, cs0⟩, das0, rfl, ⟨hg0, hk0, hw0, hl0⟩, hfit0⟩ := fits_cons hfit
  dsimp only at hg0 hk0 hw0 hl0
  subst hg0
  obtain ⟨d0_0, cs0_0, rfl, h0_0, hk0_0⟩ := map_cons hk0
  obtain ⟨a0n, a0f, a0, rfl⟩ := kd_sl h0_0
  have wa0 := hw0 _ List.mem_cons_self
  obtain ⟨hn0_0, rfl⟩ := hl0 _ List.mem_cons_self
  obtain ⟨a0n, rfl⟩ := Option.isSome_iff_exists.1 hn0_0
  have hw0_0 := fun x hx => hw0 x (List.mem_cons_of_mem _ hx)
  have hl0_0 := fun x hx => hl0 x (List.mem_cons_of_mem _ hx)
  obtain rfl := map_nil hk0_0
  obtain ⟨⟨g1, cs1⟩, das1, rfl, ⟨hg1, hk1, hw1, hl1⟩, hfit1⟩ := fits_cons hfit0
  dsimp only at hg1 hk1 hw1 hl1
  subst hg1
  obtain ⟨d1_0, cs1_0, rfl, h1_0, hk1_0⟩ := map_cons hk1
  obtain ⟨a1, rfl⟩ := kd_int h1_0
  have wa1 := hw1 _ List.mem_cons_self
  have hw1_0 := fun x hx => hw1 x (List.mem_cons_of_mem _ hx)
  have hl1_0 := fun x hx => hl1 x (List.mem_cons_of_mem _ hx)
  obtain rfl := map_nil hk1_0
  obtain ⟨⟨g2, cs2⟩, das2, rfl, ⟨hg2, hk2, hw2, hl2⟩, hfit2⟩ := fits_cons hfit1
  dsimp only at hg2 hk2 hw2 hl2
  subst hg2
  obtain ⟨d2_0, cs2_0, rfl, h2_0, hk2_0⟩ := map_cons hk2
  obtain ⟨a2, rfl⟩ := kd_int h2_0
  have wa2 := hw2 _ List.mem_cons_self
  have hw2_0 := fun x hx => hw2 x (List.mem_cons_of_mem _ hx)
  have hl2_0 := fun x hx => hl2 x (List.mem_cons_of_mem _ hx)
  obtain rfl := map_nil hk2_0
  obtain ⟨⟨g3, cs3⟩, das3, rfl, ⟨hg3, hk3, hw3, hl3⟩, hfit3⟩ := fits_cons hfit2
  dsimp only at hg3 hk3 hw3 hl3
  subst hg3
  obtain ⟨d3_0, cs3_0, rfl, h3_0, hk3_0⟩ := map_cons hk3
  obtain ⟨a3, rfl⟩ := kd_int h3_0
  have wa3 := hw3 _ List.mem_cons_self
  have hw3_0 := fun x hx => hw3 x (List.mem_cons_of_mem _ hx)
  have hl3_0 := fun x hx => hl3 x (List.mem_cons_of_mem _ hx)
  obtain rfl := map_nil hk3_0
  obtain ⟨⟨g4, cs4⟩, das4, rfl, ⟨hg4, hk4, hw4, hl4⟩, hfit4⟩ := fits_cons hfit3
  dsimp only at hg4 hk4 hw4 hl4
  subst hg4
  obtain ⟨d4_0, cs4_0, rfl, h4_0, hk4_0⟩ := map_cons hk4
  obtain ⟨a4, rfl⟩ := kd_int h4_0
  have wa4 := hw4 _ List.mem_cons_self
  have hw4_0 := fun x hx => hw4 x (List.mem_cons_of_mem _ hx)
  have hl4_0 := fun x hx => hl4 x (List.mem_cons_of_mem _ hx)
  obtain rfl := map_nil hk4_0
  obtain ⟨⟨g5, cs5⟩, das5, rfl, ⟨hg5, hk5, hw5, hl5⟩, hfit5⟩ := fits_cons hfit4
  dsimp only at hg5 hk5 hw5 hl5
  subst hg5
  obtain ⟨d5_0, cs5_0, rfl, h5_0, hk5_0⟩ := map_cons hk5
  obtain ⟨a5, rfl⟩ := kd_int h5_0
  have wa5 := hw5 _ List.mem_cons_self
  have hw5_0 := fun x hx => hw5 x (List.mem_cons_of_mem _ hx)
  have hl5_0 := fun x hx => hl5 x (List.mem_cons_of_mem _ hx)
  obtain rfl := map_nil hk5_0
  obtain rfl := fits_nil hfit5
  have h := law_TokenBack a0 a1 a2 a3 a4 a5
  refine ⟨_, rfl, ?_, ?_⟩
  · simp only [ret_law16_TokenBack, S.law16_TokenBack_is, h, Option.isSome_some]
  · simp only [ret_law16_TokenBack, S.law16_TokenBack_o, h, Option.getD_some]
theorem own : ownKnob Try.prog.godebug = none := by kernel_rfl
theorem laid : laidOutB Try.prog = true := by kernel_rfl
theorem isLaw : IsLaw Rows.tokenBackSpec 6 := ⟨rfl, fun H ds hl => by
  match ds, hl with
  | [_, _, _, _, _, _], _ => rfl⟩
theorem reads : ∀ t ∈ Try.f10.params.toList, Try.prog.readableRec t = true ∧ t < Try.prog.types.size := by
  have h : (Try.f10.params.toList.all fun t => Try.prog.readableRec t && decide (t < Try.prog.types.size)) = true := by kernel_rfl
  intro t ht
  have := List.all_eq_true.1 h t ht
  simpa using this
theorem lifted (os : Os) (started : os.Started) (H : Type) (enc : TypeId × Value → H) :
    ReturnsInHanded {} Try.checked os 10 .any (Rows.tokenBackSpec.pre6 enc Try.prog Try.f10 Rows.tokenBackRow.domain false) (Rows.tokenBackSpec.post enc Try.prog Try.f10 false true false false) := by
  refine returnsInHanded_of_change (C := Try.checked) own started (by kernel_rfl) (by kernel_rfl : Try.prog.funcs[10]? = some Try.f10) (ChangeSpec.witness6 (enc := enc) (C := Try.checked) false ⟨#[], #[.slice none 0 0, .int .i64 0, .int .u64 0, .int .i64 0, .int .i64 0, .int .i64 0], []⟩ 8 (by kernel_rfl) (by kernel_rfl) (by kernel_rfl) (by kernel_rfl)) ?_
  intro W base args ds gs before hval hW _ _
  exact law_calls (n := 6) laid isLaw (by kernel_rfl) reads ⟨by kernel_rfl, by kernel_rfl, by kernel_rfl⟩ (tb := 4) (by kernel_rfl) (by kernel_rfl) law16_TokenBack_ok (ss := shapes) (by kernel_rfl) all hval hW
theorem over : Rows.tokenBackRow.holds Try.pinned (OpenSpec.ofChange Rows.tokenBackSpec) :=
  OpenClaim.holds_of_wide 10 Try.f10 rfl rfl rfl rfl rfl rfl rfl ⟨rfl, rfl, rfl, rfl, rfl⟩ rfl rfl rfl rfl rfl (by kernel_rfl) (by kernel_rfl) (by kernel_rfl)
    (of_decide_eq_true (by kernel_rfl)) (by unfold Func.isWrapper; first | (rw [if_pos (by decide +kernel)]; kernel_rfl) | (rw [if_neg (by decide +kernel)]; exact ⟨rfl, rfl⟩))
    (fun os started H enc _ => lifted os started H enc)
theorem proved : Rows.TokenBackSaid := over
#print axioms proved
end Go.Proofs.Ytnafjjkjogngjaa.tokenBack
