/- The law 'RingNone' (towncrier/towncrierlaw14.RingNone): whatever it is called with, it hands back true, and its arguments read as they did: no condition. -/
import Derived.Test.YtnafjjkjogngjaaRows
import Derived.Test.YtnafjjkjogngjaaE39
import Derived.Test.YtnafjjkjogngjaaP4
namespace Go.Proofs.Ytnafjjkjogngjaa.ringNone
open Go Go.RowKit Go.Eng Go.Eng.Tab
set_option linter.unusedVariables false
set_option linter.unusedSimpArgs false
abbrev shapes : List Shape := [(true, [.sc (.int .i64 0), .sc (.int .i64 0), .sl (some true) true .mat []]), (true, [.sc (.int .i64 0), .sc (.int .i64 0), .sc (.int .i64 0), .b false]), (false, [.sc (.int .i64 0)])]
theorem all (das : List DArg) (hfit : Fits shapes das) : ∃ r, g_law14_RingNone das = some r ∧ r.ok = true ∧ r.vals = [(false, [.d (.sc (.bool true))])] := by
  obtain ⟨⟨g0, cs0⟩, das0, rfl, ⟨hg0, hk0, hw0, hl0⟩, hfit0⟩ := fits_cons hfit
  dsimp only at hg0 hk0 hw0 hl0
  subst hg0
  obtain ⟨d0_0, cs0_0, rfl, h0_0, hk0_0⟩ := map_cons hk0
  obtain ⟨a0_0, rfl⟩ := kd_int h0_0
  have wa0_0 := hw0 _ List.mem_cons_self
  have hw0_0 := fun x hx => hw0 x (List.mem_cons_of_mem _ hx)
  have hl0_0 := fun x hx => hl0 x (List.mem_cons_of_mem _ hx)
  obtain ⟨d0_1, cs0_1, rfl, h0_1, hk0_1⟩ := map_cons hk0_0
  obtain ⟨a0_1, rfl⟩ := kd_int h0_1
  have wa0_1 := hw0_0 _ List.mem_cons_self
  have hw0_1 := fun x hx => hw0_0 x (List.mem_cons_of_mem _ hx)
  have hl0_1 := fun x hx => hl0_0 x (List.mem_cons_of_mem _ hx)
  obtain ⟨d0_2, cs0_2, rfl, h0_2, hk0_2⟩ := map_cons hk0_1
  obtain ⟨a0_2n, a0_2f, a0_2, rfl⟩ := kd_sl h0_2
  have wa0_2 := hw0_1 _ List.mem_cons_self
  obtain ⟨hn0_2, rfl⟩ := hl0_1 _ List.mem_cons_self
  obtain ⟨a0_2n, rfl⟩ := Option.isSome_iff_exists.1 hn0_2
  have hw0_2 := fun x hx => hw0_1 x (List.mem_cons_of_mem _ hx)
  have hl0_2 := fun x hx => hl0_1 x (List.mem_cons_of_mem _ hx)
  obtain rfl := map_nil hk0_2
  obtain ⟨⟨g1, cs1⟩, das1, rfl, ⟨hg1, hk1, hw1, hl1⟩, hfit1⟩ := fits_cons hfit0
  dsimp only at hg1 hk1 hw1 hl1
  subst hg1
  obtain ⟨d1_0, cs1_0, rfl, h1_0, hk1_0⟩ := map_cons hk1
  obtain ⟨a1_0, rfl⟩ := kd_int h1_0
  have wa1_0 := hw1 _ List.mem_cons_self
  have hw1_0 := fun x hx => hw1 x (List.mem_cons_of_mem _ hx)
  have hl1_0 := fun x hx => hl1 x (List.mem_cons_of_mem _ hx)
  obtain ⟨d1_1, cs1_1, rfl, h1_1, hk1_1⟩ := map_cons hk1_0
  obtain ⟨a1_1, rfl⟩ := kd_int h1_1
  have wa1_1 := hw1_0 _ List.mem_cons_self
  have hw1_1 := fun x hx => hw1_0 x (List.mem_cons_of_mem _ hx)
  have hl1_1 := fun x hx => hl1_0 x (List.mem_cons_of_mem _ hx)
  obtain ⟨d1_2, cs1_2, rfl, h1_2, hk1_2⟩ := map_cons hk1_1
  obtain ⟨a1_2, rfl⟩ := kd_int h1_2
  have wa1_2 := hw1_1 _ List.mem_cons_self
  have hw1_2 := fun x hx => hw1_1 x (List.mem_cons_of_mem _ hx)
  have hl1_2 := fun x hx => hl1_1 x (List.mem_cons_of_mem _ hx)
  obtain ⟨d1_3, cs1_3, rfl, h1_3, hk1_3⟩ := map_cons hk1_2
  obtain ⟨a1_3, rfl⟩ := kd_bool h1_3
  have wa1_3 := hw1_2 _ List.mem_cons_self
  have hw1_3 := fun x hx => hw1_2 x (List.mem_cons_of_mem _ hx)
  have hl1_3 := fun x hx => hl1_2 x (List.mem_cons_of_mem _ hx)
  obtain rfl := map_nil hk1_3
  obtain ⟨⟨g2, cs2⟩, das2, rfl, ⟨hg2, hk2, hw2, hl2⟩, hfit2⟩ := fits_cons hfit1
  dsimp only at hg2 hk2 hw2 hl2
  subst hg2
  obtain ⟨d2_0, cs2_0, rfl, h2_0, hk2_0⟩ := map_cons hk2
  obtain ⟨a2, rfl⟩ := kd_int h2_0
  have wa2 := hw2 _ List.mem_cons_self
  have hw2_0 := fun x hx => hw2 x (List.mem_cons_of_mem _ hx)
  have hl2_0 := fun x hx => hl2 x (List.mem_cons_of_mem _ hx)
  obtain rfl := map_nil hk2_0
  obtain rfl := fits_nil hfit2
  have h := law_RingNone a0_0 a0_1 a0_2 a1_0 a1_1 a1_2 a1_3 a2
  refine ⟨_, rfl, ?_, ?_⟩
  · simp only [ret_law14_RingNone, S.law14_RingNone_is, h, Option.isSome_some]
  · simp only [ret_law14_RingNone, S.law14_RingNone_o, h, Option.getD_some]
theorem own : ownKnob Try.prog.godebug = none := by kernel_rfl
theorem laid : laidOutB Try.prog = true := by kernel_rfl
theorem isLaw : IsLaw Rows.ringNoneSpec 3 := ⟨rfl, fun H ds hl => by
  match ds, hl with
  | [_, _, _], _ => rfl⟩
theorem reads : ∀ t ∈ Try.f9.params.toList, Try.prog.readableRec t = true ∧ t < Try.prog.types.size := by
  have h : (Try.f9.params.toList.all fun t => Try.prog.readableRec t && decide (t < Try.prog.types.size)) = true := by kernel_rfl
  intro t ht
  have := List.all_eq_true.1 h t ht
  simpa using this
theorem lifted (os : Os) (started : os.Started) (H : Type) (enc : TypeId × Value → H) :
    ReturnsInHanded {} Try.checked os 9 .any (Rows.ringNoneSpec.pre6 enc Try.prog Try.f9 Rows.ringNoneRow.domain false) (Rows.ringNoneSpec.post enc Try.prog Try.f9 false true false false) := by
  refine returnsInHanded_of_change (C := Try.checked) own started (by kernel_rfl) (by kernel_rfl : Try.prog.funcs[9]? = some Try.f9) (ChangeSpec.witness6 (enc := enc) (C := Try.checked) false ⟨#[], #[.agg #[.int .i64 0, .int .i64 0, .slice none 0 0], .agg #[.int .i64 0, .int .i64 0, .int .i64 0, .bool false], .int .i64 0], []⟩ 8 (by kernel_rfl) (by kernel_rfl) (by kernel_rfl) (by kernel_rfl)) ?_
  intro W base args ds gs before hval hW _ _
  exact law_calls (n := 3) laid isLaw (by kernel_rfl) reads ⟨by kernel_rfl, by kernel_rfl, by kernel_rfl⟩ (tb := 4) (by kernel_rfl) (by kernel_rfl) law14_RingNone_ok (ss := shapes) (by kernel_rfl) all hval hW
theorem over : Rows.ringNoneRow.holds Try.pinned (OpenSpec.ofChange Rows.ringNoneSpec) :=
  OpenClaim.holds_of_wide 9 Try.f9 rfl rfl rfl rfl rfl rfl rfl ⟨rfl, rfl, rfl, rfl, rfl⟩ rfl rfl rfl rfl rfl (by kernel_rfl) (by kernel_rfl) (by kernel_rfl)
    (of_decide_eq_true (by kernel_rfl)) (by unfold Func.isWrapper; first | (rw [if_pos (by decide +kernel)]; kernel_rfl) | (rw [if_neg (by decide +kernel)]; exact ⟨rfl, rfl⟩))
    (fun os started H enc _ => lifted os started H enc)
theorem proved : Rows.RingNoneSaid := over
#print axioms proved
end Go.Proofs.Ytnafjjkjogngjaa.ringNone
