/- The law 'SubGives' (towncrier/towncrierlaw15.SubGives): whatever it is called with, it hands back true, and its arguments read as they did: no condition. -/
import Derived.Test.YtoohnjneocohnaaGreatRows
import Derived.Test.YtoohnjneocohnaaGreatZE3
import Derived.Test.YtoohnjneocohnaaGreatZIo
import Derived.Test.YtoohnjneocohnaaGreatZD12
import Derived.Test.YtoohnjneocohnaaGreatZW3
namespace Go.Proofs.YtoohnjneocohnaaGreat.subGives
open Go Go.RowKit Go.Eng Go.Eng.Tab
set_option linter.unusedVariables false
set_option linter.unusedSimpArgs false
abbrev shapes : List Shape := [(true, [.sl (some true) true .step [], .sc (.int .i64 0), .sc (.int .i64 0), .sc (.int .i64 0), .sc (.int .i64 0)]), (false, [.sl (some true) true .evt []])]
theorem all (das : List DArg) (hfit : Fits shapes das) : ∃ r, g_zkmz das = some r ∧ r.ok = true ∧ r.vals = [(false, [.d (.sc (.bool true))])] := by
  obtain ⟨⟨g0, cs0⟩, das0, rfl, ⟨hg0, hk0, hw0, hl0⟩, hfit0⟩ := fits_cons hfit
  dsimp only at hg0 hk0 hw0 hl0
  subst hg0
  obtain ⟨d0_0, cs0_0, rfl, h0_0, hk0_0⟩ := map_cons hk0
  obtain ⟨a0_0n, a0_0f, a0_0, rfl⟩ := kd_sl h0_0
  have wa0_0 := hw0 _ List.mem_cons_self
  obtain ⟨hn0_0, rfl⟩ := hl0 _ List.mem_cons_self
  obtain ⟨a0_0n, rfl⟩ := Option.isSome_iff_exists.1 hn0_0
  have hw0_0 := fun x hx => hw0 x (List.mem_cons_of_mem _ hx)
  have hl0_0 := fun x hx => hl0 x (List.mem_cons_of_mem _ hx)
  obtain ⟨d0_1, cs0_1, rfl, h0_1, hk0_1⟩ := map_cons hk0_0
  obtain ⟨a0_1, rfl⟩ := kd_int h0_1
  have wa0_1 := hw0_0 _ List.mem_cons_self
  have hw0_1 := fun x hx => hw0_0 x (List.mem_cons_of_mem _ hx)
  have hl0_1 := fun x hx => hl0_0 x (List.mem_cons_of_mem _ hx)
  obtain ⟨d0_2, cs0_2, rfl, h0_2, hk0_2⟩ := map_cons hk0_1
  obtain ⟨a0_2, rfl⟩ := kd_int h0_2
  have wa0_2 := hw0_1 _ List.mem_cons_self
  have hw0_2 := fun x hx => hw0_1 x (List.mem_cons_of_mem _ hx)
  have hl0_2 := fun x hx => hl0_1 x (List.mem_cons_of_mem _ hx)
  obtain ⟨d0_3, cs0_3, rfl, h0_3, hk0_3⟩ := map_cons hk0_2
  obtain ⟨a0_3, rfl⟩ := kd_int h0_3
  have wa0_3 := hw0_2 _ List.mem_cons_self
  have hw0_3 := fun x hx => hw0_2 x (List.mem_cons_of_mem _ hx)
  have hl0_3 := fun x hx => hl0_2 x (List.mem_cons_of_mem _ hx)
  obtain ⟨d0_4, cs0_4, rfl, h0_4, hk0_4⟩ := map_cons hk0_3
  obtain ⟨a0_4, rfl⟩ := kd_int h0_4
  have wa0_4 := hw0_3 _ List.mem_cons_self
  have hw0_4 := fun x hx => hw0_3 x (List.mem_cons_of_mem _ hx)
  have hl0_4 := fun x hx => hl0_3 x (List.mem_cons_of_mem _ hx)
  obtain rfl := map_nil hk0_4
  obtain ⟨⟨g1, cs1⟩, das1, rfl, ⟨hg1, hk1, hw1, hl1⟩, hfit1⟩ := fits_cons hfit0
  dsimp only at hg1 hk1 hw1 hl1
  subst hg1
  obtain ⟨d1_0, cs1_0, rfl, h1_0, hk1_0⟩ := map_cons hk1
  obtain ⟨a1n, a1f, a1, rfl⟩ := kd_sl h1_0
  have wa1 := hw1 _ List.mem_cons_self
  obtain ⟨hn1_0, rfl⟩ := hl1 _ List.mem_cons_self
  obtain ⟨a1n, rfl⟩ := Option.isSome_iff_exists.1 hn1_0
  have hw1_0 := fun x hx => hw1 x (List.mem_cons_of_mem _ hx)
  have hl1_0 := fun x hx => hl1 x (List.mem_cons_of_mem _ hx)
  obtain rfl := map_nil hk1_0
  obtain rfl := fits_nil hfit1
  have h := law_SubGives (some a0_0n) false ⟨a0_0, a0_1, a0_2, a0_3, a0_4⟩ (some a1n) false a1 wa0_0
  refine ⟨_, rfl, ?_, ?_⟩
  · simp only [ret_zkmz, S.zkmz_is, h, Option.isSome_some]
  · simp only [ret_zkmz, S.zkmz_o, h, Option.getD_some]
theorem own : ownKnob Tryz.prog.godebug = none := by kernel_rfl
theorem laid : laidOutB Tryz.prog = true := by kernel_rfl
theorem isLaw : IsLaw Rows.subGivesSpec 2 := ⟨rfl, fun H ds hl => by
  match ds, hl with
  | [_, _], _ => rfl⟩
theorem reads : ∀ t ∈ Tryz.f3.params.toList, Tryz.prog.readableRec t = true ∧ t < Tryz.prog.types.size := by
  have h : (Tryz.f3.params.toList.all fun t => Tryz.prog.readableRec t && decide (t < Tryz.prog.types.size)) = true := by kernel_rfl
  intro t ht
  have := List.all_eq_true.1 h t ht
  simpa using this
theorem lifted (os : Os) (started : os.Started) (H : Type) (enc : TypeId × Value → H) :
    ReturnsInHanded {} Tryz.checked os 3 .any (Rows.subGivesSpec.pre6 enc Tryz.checked.prog Tryz.f3 Rows.subGivesRow.domain false) (Rows.subGivesSpec.post enc Tryz.checked.prog Tryz.f3 false true false false) := by
  refine returnsInHanded_of_change (C := Tryz.checked) own started (by kernel_rfl) (by kernel_rfl : Tryz.prog.funcs[3]? = some Tryz.f3) (ChangeSpec.witness6 (enc := enc) (C := Tryz.checked) false ⟨#[], #[.agg #[.slice none 0 0, .int .i64 0, .int .i64 0, .int .i64 0, .int .i64 0], .slice none 0 0], []⟩ 8 (by kernel_rfl) (by kernel_rfl) (by kernel_rfl) (by kernel_rfl)) ?_
  intro W base args ds gs before hval hW _ _
  have hC : Tryz.checked.prog = Tryz.prog := by kernel_rfl
  rw [hC] at hval hW ⊢
  have k1 := law_calls12 (P := Tryz.prog) (f := 3) (fn := Tryz.f3) (s := Rows.subGivesSpec) (apart := false) (fresh := true) (handsOn := false) (enc := enc) (W := W) (base := base) (args := args) (ds := ds) (gs := gs) (before := before) (n := 2) laid isLaw (by kernel_rfl) reads ⟨by kernel_rfl, by kernel_rfl, by kernel_rfl⟩ (tb := 4) (by kernel_rfl) (by kernel_rfl) zkmz_ok (ss := shapes) (by kernel_rfl) all
  generalize Tryz.prog = P at hval hW k1 ⊢
  exact k1 hval hW
theorem closed : joinedFacts Tryz.prog 3 Tryz.f3 Rows.subGivesSpec Rows.subGivesRow = true := by
  unfold joinedFacts
  rw [ioEnter, ioFinal, ioMake]
  kernel_rfl
theorem closedP : joinedFacts Tryz.pinned.checked.prog 3 Tryz.f3 Rows.subGivesSpec Rows.subGivesRow = true := by
  have hP : Tryz.pinned.checked.prog = Tryz.prog := by kernel_rfl
  rw [hP]
  exact closed
theorem over : Rows.subGivesRow.holds Tryz.pinned (OpenSpec.ofChange Rows.subGivesSpec) :=
  OpenClaim.holds_of_wide 3 Tryz.f3 rfl rfl rfl rfl rfl rfl rfl ⟨rfl, rfl, rfl, rfl, rfl⟩ rfl rfl rfl rfl rfl (by kernel_rfl) (by kernel_rfl) closedP
    (of_decide_eq_true (by kernel_rfl)) (by unfold Func.isWrapper; first | (rw [if_pos (by decide +kernel)]; kernel_rfl) | (rw [if_neg (by decide +kernel)]; exact ⟨rfl, rfl⟩))
    (fun os started H enc _ => lifted os started H enc)
theorem proved : Rows.SubGivesSaid := over
#print axioms proved
end Go.Proofs.YtoohnjneocohnaaGreat.subGives
