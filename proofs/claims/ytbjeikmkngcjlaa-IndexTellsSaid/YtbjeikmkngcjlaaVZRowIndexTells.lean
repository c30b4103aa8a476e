/- The law 'IndexTells' (towncrier/towncrierlaw10.IndexTells): whatever it is called with, it hands back true, and its arguments read as they did: no condition. -/
import Derived.Test.YtbjeikmkngcjlaaRows
import Derived.Test.YtbjeikmkngcjlaaVZE3
import Derived.Test.YtbjeikmkngcjlaaVZIo
import Derived.Test.YtbjeikmkngcjlaaVZD12
import Derived.Test.YtbjeikmkngcjlaaVZP65
namespace Go.Proofs.Ytbjeikmkngcjlaa.indexTells
open Go Go.RowKit Go.Eng Go.Eng.Tab
set_option linter.unusedVariables false
set_option linter.unusedSimpArgs false
abbrev shapes : List Shape := [(false, [.sl (some true) true .query []]), (false, [.sl (some true) true .pred []]), (true, [.s ByteArray.empty, .sl (some true) true .op []]), (true, [.s ByteArray.empty, .sc (.int .i64 0), .sl (some true) true .val []])]
theorem all (das : List DArg) (hfit : Fits shapes das) : ∃ r, g_zimu das = some r ∧ r.ok = true ∧ r.vals = [(false, [.d (.sc (.bool true))])] := by
  obtain ⟨⟨g0, cs0⟩, das0, rfl, ⟨hg0, hk0, hw0, hl0⟩, hfit0⟩ := fits_cons hfit
  dsimp only at hg0 hk0 hw0 hl0
  subst hg0
  obtain ⟨d0_0, cs0_0, rfl, h0_0, hk0_0⟩ := map_cons hk0
  obtain ⟨a0n, a0f, a0, rfl⟩ := kd_sl h0_0
  have wa0 := hw0 _ List.mem_cons_self
  obtain ⟨hn0_0, rfl⟩ := hl0 _ List.mem_cons_self
  obtain ⟨a0n, rfl⟩ := Option.isSome_iff_exists.1 hn0_0
  have hw0_0 := fun x hx => hw0 x (List.mem_cons_of_mem _ hx)
  have hl0_0 := fun x hx => hl0 x (List.mem_cons_of_mem _ hx)
  obtain rfl := map_nil hk0_0
  obtain ⟨⟨g1, cs1⟩, das1, rfl, ⟨hg1, hk1, hw1, hl1⟩, hfit1⟩ := fits_cons hfit0
  dsimp only at hg1 hk1 hw1 hl1
  subst hg1
  obtain ⟨d1_0, cs1_0, rfl, h1_0, hk1_0⟩ := map_cons hk1
  obtain ⟨a1n, a1f, a1, rfl⟩ := kd_sl h1_0
  have wa1 := hw1 _ List.mem_cons_self
  obtain ⟨hn1_0, rfl⟩ := hl1 _ List.mem_cons_self
  obtain ⟨a1n, rfl⟩ := Option.isSome_iff_exists.1 hn1_0
  have hw1_0 := fun x hx => hw1 x (List.mem_cons_of_mem _ hx)
  have hl1_0 := fun x hx => hl1 x (List.mem_cons_of_mem _ hx)
  obtain rfl := map_nil hk1_0
  obtain ⟨⟨g2, cs2⟩, das2, rfl, ⟨hg2, hk2, hw2, hl2⟩, hfit2⟩ := fits_cons hfit1
  dsimp only at hg2 hk2 hw2 hl2
  subst hg2
  obtain ⟨d2_0, cs2_0, rfl, h2_0, hk2_0⟩ := map_cons hk2
  obtain ⟨a2_0, rfl⟩ := kd_str h2_0
  have wa2_0 := hw2 _ List.mem_cons_self
  have hw2_0 := fun x hx => hw2 x (List.mem_cons_of_mem _ hx)
  have hl2_0 := fun x hx => hl2 x (List.mem_cons_of_mem _ hx)
  obtain ⟨d2_1, cs2_1, rfl, h2_1, hk2_1⟩ := map_cons hk2_0
  obtain ⟨a2_1n, a2_1f, a2_1, rfl⟩ := kd_sl h2_1
  have wa2_1 := hw2_0 _ List.mem_cons_self
  obtain ⟨hn2_1, rfl⟩ := hl2_0 _ List.mem_cons_self
  obtain ⟨a2_1n, rfl⟩ := Option.isSome_iff_exists.1 hn2_1
  have hw2_1 := fun x hx => hw2_0 x (List.mem_cons_of_mem _ hx)
  have hl2_1 := fun x hx => hl2_0 x (List.mem_cons_of_mem _ hx)
  obtain rfl := map_nil hk2_1
  obtain ⟨⟨g3, cs3⟩, das3, rfl, ⟨hg3, hk3, hw3, hl3⟩, hfit3⟩ := fits_cons hfit2
  dsimp only at hg3 hk3 hw3 hl3
  subst hg3
  obtain ⟨d3_0, cs3_0, rfl, h3_0, hk3_0⟩ := map_cons hk3
  obtain ⟨a3_0, rfl⟩ := kd_str h3_0
  have wa3_0 := hw3 _ List.mem_cons_self
  have hw3_0 := fun x hx => hw3 x (List.mem_cons_of_mem _ hx)
  have hl3_0 := fun x hx => hl3 x (List.mem_cons_of_mem _ hx)
  obtain ⟨d3_1, cs3_1, rfl, h3_1, hk3_1⟩ := map_cons hk3_0
  obtain ⟨a3_1, rfl⟩ := kd_int h3_1
  have wa3_1 := hw3_0 _ List.mem_cons_self
  have hw3_1 := fun x hx => hw3_0 x (List.mem_cons_of_mem _ hx)
  have hl3_1 := fun x hx => hl3_0 x (List.mem_cons_of_mem _ hx)
  obtain ⟨d3_2, cs3_2, rfl, h3_2, hk3_2⟩ := map_cons hk3_1
  obtain ⟨a3_2n, a3_2f, a3_2, rfl⟩ := kd_sl h3_2
  have wa3_2 := hw3_1 _ List.mem_cons_self
  obtain ⟨hn3_2, rfl⟩ := hl3_1 _ List.mem_cons_self
  obtain ⟨a3_2n, rfl⟩ := Option.isSome_iff_exists.1 hn3_2
  have hw3_2 := fun x hx => hw3_1 x (List.mem_cons_of_mem _ hx)
  have hl3_2 := fun x hx => hl3_1 x (List.mem_cons_of_mem _ hx)
  obtain rfl := map_nil hk3_2
  obtain rfl := fits_nil hfit3
  have h := law_IndexTells a0 a1 a2_0 a2_1 a3_0 a3_1 a3_2 wa1 wa2_1 wa3_0 wa3_2
  refine ⟨_, rfl, ?_, ?_⟩
  · simp only [ret_zimu, S.zimu_is, h, Option.isSome_some]
  · simp only [ret_zimu, S.zimu_o, h, Option.getD_some]
theorem own : ownKnob Try.prog.godebug = none := by kernel_rfl
theorem laid : laidOutB Try.prog = true := by kernel_rfl
theorem isLaw : IsLaw Rows.indexTellsSpec 4 := ⟨rfl, fun H ds hl => by
  match ds, hl with
  | [_, _, _, _], _ => rfl⟩
theorem reads : ∀ t ∈ Try.f3.params.toList, Try.prog.readableRec t = true ∧ t < Try.prog.types.size := by
  have h : (Try.f3.params.toList.all fun t => Try.prog.readableRec t && decide (t < Try.prog.types.size)) = true := by kernel_rfl
  intro t ht
  have := List.all_eq_true.1 h t ht
  simpa using this
theorem lifted (os : Os) (started : os.Started) (H : Type) (enc : TypeId × Value → H) :
    ReturnsInHanded {} Try.checked os 3 .any (Rows.indexTellsSpec.pre6 enc Try.checked.prog Try.f3 Rows.indexTellsRow.domain false) (Rows.indexTellsSpec.post enc Try.checked.prog Try.f3 false true false false) := by
  refine returnsInHanded_of_change (C := Try.checked) own started (by kernel_rfl) (by kernel_rfl : Try.prog.funcs[3]? = some Try.f3) (ChangeSpec.witness6 (enc := enc) (C := Try.checked) false ⟨#[], #[.slice none 0 0, .slice none 0 0, .agg #[.string ByteArray.empty, .slice none 0 0], .agg #[.string ByteArray.empty, .int .i64 0, .slice none 0 0]], []⟩ 8 (by kernel_rfl) (by kernel_rfl) (by kernel_rfl) (by kernel_rfl)) ?_
  intro W base args ds gs before hval hW _ _
  have hC : Try.checked.prog = Try.prog := by kernel_rfl
  rw [hC] at hval hW ⊢
  have k1 := law_calls12 (P := Try.prog) (f := 3) (fn := Try.f3) (s := Rows.indexTellsSpec) (apart := false) (fresh := true) (handsOn := false) (enc := enc) (W := W) (base := base) (args := args) (ds := ds) (gs := gs) (before := before) (n := 4) laid isLaw (by kernel_rfl) reads ⟨by kernel_rfl, by kernel_rfl, by kernel_rfl⟩ (tb := 4) (by kernel_rfl) (by kernel_rfl) zimu_ok (ss := shapes) (by kernel_rfl) all
  generalize Try.prog = P at hval hW k1 ⊢
  exact k1 hval hW
theorem closed : joinedFacts Try.prog 3 Try.f3 Rows.indexTellsSpec Rows.indexTellsRow = true := by
  unfold joinedFacts
  rw [ioEnter, ioFinal, ioMake]
  kernel_rfl
theorem closedP : joinedFacts Try.pinned.checked.prog 3 Try.f3 Rows.indexTellsSpec Rows.indexTellsRow = true := by
  have hP : Try.pinned.checked.prog = Try.prog := by kernel_rfl
  rw [hP]
  exact closed
theorem over : Rows.indexTellsRow.holds Try.pinned (OpenSpec.ofChange Rows.indexTellsSpec) :=
  OpenClaim.holds_of_wide 3 Try.f3 rfl rfl rfl rfl rfl rfl rfl ⟨rfl, rfl, rfl, rfl, rfl⟩ rfl rfl rfl rfl rfl (by kernel_rfl) (by kernel_rfl) closedP
    (of_decide_eq_true (by kernel_rfl)) (by unfold Func.isWrapper; first | (rw [if_pos (by decide +kernel)]; kernel_rfl) | (rw [if_neg (by decide +kernel)]; exact ⟨rfl, rfl⟩))
    (fun os started H enc _ => lifted os started H enc)
theorem proved : Rows.IndexTellsSaid := over
#print axioms proved
end Go.Proofs.Ytbjeikmkngcjlaa.indexTells
