/- The law 'RunMay' (towncrier/towncrierlaw11.RunMay): whatever it is called with, it hands back true, and its arguments read as they did: no condition. -/
import Derived.Test.YtbjeikmkngcjlaaRows
import Derived.Test.YtbjeikmkngcjlaaZE3
import Derived.Test.YtbjeikmkngcjlaaZIo
import Derived.Test.YtbjeikmkngcjlaaZD12
import Derived.Test.YtbjeikmkngcjlaaZP30
namespace Go.Proofs.Ytbjeikmkngcjlaa.runMay
open Go Go.RowKit Go.Eng Go.Eng.Tab
set_option linter.unusedVariables false
set_option linter.unusedSimpArgs false
abbrev shapes : List Shape := [(true, [.sl (some true) true .step [], .sc (.int .i64 0), .sc (.int .i64 0), .sc (.int .i64 0), .sc (.int .i64 0)]), (true, [.sc (.int .i64 0), .sc (.int .i64 0), .sc (.int .i64 0), .sc (.int .i64 0), .sc (.int .i64 0), .sc (.int .i64 0), .b false]), (true, [.s ByteArray.empty, .sc (.int .i64 0), .sl (some true) true .val []]), (false, [.sc (.int .i64 0)])]
theorem all (das : List DArg) (hfit : Fits shapes das) : ∃ r, g_law11_RunMay das = some r ∧ r.ok = true ∧ r.vals = [(false, [.d (.sc (.bool true))])] := by
  obtain ⟨⟨g0, cs0⟩, das0, rfl, ⟨hg0, hk0, hw0, hl0⟩, hfit0⟩ := fits_cons hfit
  dsimp only at hg0 hk0 hw0 hl0
  subst hg0
  obtain ⟨d0_0, cs0_0, rfl, h0_0, hk0_0⟩ := map_cons hk0
  obtain ⟨a0_0n, a0_0f, a0_0, rfl⟩ := kd_sl h0_0
  have wa0_0 := hw0 _ List.mem_cons_self
  obtain ⟨hn0_0, rfl⟩ := hl0 _ List.mem_cons_self
  obtain ⟨a0_0n, rfl⟩ := Option.isSome_iff_exists.1 hn0_0
  have hw0_0 := fun x hx => hw0 x (List.mem_cons_of_mem _ hx)
  have hl0_0 := fun x hx => hl0 x (List.mem_cons_of_mem _ hx)
  obtain ⟨d0_1, cs0_1, rfl, h0_1, hk0_1⟩ := map_cons hk0_0
  obtain ⟨a0_1, rfl⟩ := kd_int h0_1
  have wa0_1 := hw0_0 _ List.mem_cons_self
  have hw0_1 := fun x hx => hw0_0 x (List.mem_cons_of_mem _ hx)
  have hl0_1 := fun x hx => hl0_0 x (List.mem_cons_of_mem _ hx)
  obtain ⟨d0_2, cs0_2, rfl, h0_2, hk0_2⟩ := map_cons hk0_1
  obtain ⟨a0_2, rfl⟩ := kd_int h0_2
  have wa0_2 := hw0_1 _ List.mem_cons_self
  have hw0_2 := fun x hx => hw0_1 x (List.mem_cons_of_mem _ hx)
  have hl0_2 := fun x hx => hl0_1 x (List.mem_cons_of_mem _ hx)
  obtain ⟨d0_3, cs0_3, rfl, h0_3, hk0_3⟩ := map_cons hk0_2
  obtain ⟨a0_3, rfl⟩ := kd_int h0_3
  have wa0_3 := hw0_2 _ List.mem_cons_self
  have hw0_3 := fun x hx => hw0_2 x (List.mem_cons_of_mem _ hx)
  have hl0_3 := fun x hx => hl0_2 x (List.mem_cons_of_mem _ hx)
  obtain ⟨d0_4, cs0_4, rfl, h0_4, hk0_4⟩ := map_cons hk0_3
  obtain ⟨a0_4, rfl⟩ := kd_int h0_4
  have wa0_4 := hw0_3 _ List.mem_cons_self
  have hw0_4 := fun x hx => hw0_3 x (List.mem_cons_of_mem _ hx)
  have hl0_4 := fun x hx => hl0_3 x (List.mem_cons_of_mem _ hx)
  obtain rfl := map_nil hk0_4
  obtain ⟨⟨g1, cs1⟩, das1, rfl, ⟨hg1, hk1, hw1, hl1⟩, hfit1⟩ := fits_cons hfit0
  dsimp only at hg1 hk1 hw1 hl1
  subst hg1
  obtain ⟨d1_0, cs1_0, rfl, h1_0, hk1_0⟩ := map_cons hk1
  obtain ⟨a1_0, rfl⟩ := kd_int h1_0
  have wa1_0 := hw1 _ List.mem_cons_self
  have hw1_0 := fun x hx => hw1 x (List.mem_cons_of_mem _ hx)
  have hl1_0 := fun x hx => hl1 x (List.mem_cons_of_mem _ hx)
  obtain ⟨d1_1, cs1_1, rfl, h1_1, hk1_1⟩ := map_cons hk1_0
  obtain ⟨a1_1, rfl⟩ := kd_int h1_1
  have wa1_1 := hw1_0 _ List.mem_cons_self
  have hw1_1 := fun x hx => hw1_0 x (List.mem_cons_of_mem _ hx)
  have hl1_1 := fun x hx => hl1_0 x (List.mem_cons_of_mem _ hx)
  obtain ⟨d1_2, cs1_2, rfl, h1_2, hk1_2⟩ := map_cons hk1_1
  obtain ⟨a1_2, rfl⟩ := kd_int h1_2
  have wa1_2 := hw1_1 _ List.mem_cons_self
  have hw1_2 := fun x hx => hw1_1 x (List.mem_cons_of_mem _ hx)
  have hl1_2 := fun x hx => hl1_1 x (List.mem_cons_of_mem _ hx)
  obtain ⟨d1_3, cs1_3, rfl, h1_3, hk1_3⟩ := map_cons hk1_2
  obtain ⟨a1_3, rfl⟩ := kd_int h1_3
  have wa1_3 := hw1_2 _ List.mem_cons_self
  have hw1_3 := fun x hx => hw1_2 x (List.mem_cons_of_mem _ hx)
  have hl1_3 := fun x hx => hl1_2 x (List.mem_cons_of_mem _ hx)
  obtain ⟨d1_4, cs1_4, rfl, h1_4, hk1_4⟩ := map_cons hk1_3
  obtain ⟨a1_4, rfl⟩ := kd_int h1_4
  have wa1_4 := hw1_3 _ List.mem_cons_self
  have hw1_4 := fun x hx => hw1_3 x (List.mem_cons_of_mem _ hx)
  have hl1_4 := fun x hx => hl1_3 x (List.mem_cons_of_mem _ hx)
  obtain ⟨d1_5, cs1_5, rfl, h1_5, hk1_5⟩ := map_cons hk1_4
  obtain ⟨a1_5, rfl⟩ := kd_int h1_5
  have wa1_5 := hw1_4 _ List.mem_cons_self
  have hw1_5 := fun x hx => hw1_4 x (List.mem_cons_of_mem _ hx)
  have hl1_5 := fun x hx => hl1_4 x (List.mem_cons_of_mem _ hx)
  obtain ⟨d1_6, cs1_6, rfl, h1_6, hk1_6⟩ := map_cons hk1_5
  obtain ⟨a1_6, rfl⟩ := kd_bool h1_6
  have wa1_6 := hw1_5 _ List.mem_cons_self
  have hw1_6 := fun x hx => hw1_5 x (List.mem_cons_of_mem _ hx)
  have hl1_6 := fun x hx => hl1_5 x (List.mem_cons_of_mem _ hx)
  obtain rfl := map_nil hk1_6
  obtain ⟨⟨g2, cs2⟩, das2, rfl, ⟨hg2, hk2, hw2, hl2⟩, hfit2⟩ := fits_cons hfit1
  dsimp only at hg2 hk2 hw2 hl2
  subst hg2
  obtain ⟨d2_0, cs2_0, rfl, h2_0, hk2_0⟩ := map_cons hk2
  obtain ⟨a2_0, rfl⟩ := kd_str h2_0
  have wa2_0 := hw2 _ List.mem_cons_self
  have hw2_0 := fun x hx => hw2 x (List.mem_cons_of_mem _ hx)
  have hl2_0 := fun x hx => hl2 x (List.mem_cons_of_mem _ hx)
  obtain ⟨d2_1, cs2_1, rfl, h2_1, hk2_1⟩ := map_cons hk2_0
  obtain ⟨a2_1, rfl⟩ := kd_int h2_1
  have wa2_1 := hw2_0 _ List.mem_cons_self
  have hw2_1 := fun x hx => hw2_0 x (List.mem_cons_of_mem _ hx)
  have hl2_1 := fun x hx => hl2_0 x (List.mem_cons_of_mem _ hx)
  obtain ⟨d2_2, cs2_2, rfl, h2_2, hk2_2⟩ := map_cons hk2_1
  obtain ⟨a2_2n, a2_2f, a2_2, rfl⟩ := kd_sl h2_2
  have wa2_2 := hw2_1 _ List.mem_cons_self
  obtain ⟨hn2_2, rfl⟩ := hl2_1 _ List.mem_cons_self
  obtain ⟨a2_2n, rfl⟩ := Option.isSome_iff_exists.1 hn2_2
  have hw2_2 := fun x hx => hw2_1 x (List.mem_cons_of_mem _ hx)
  have hl2_2 := fun x hx => hl2_1 x (List.mem_cons_of_mem _ hx)
  obtain rfl := map_nil hk2_2
  obtain ⟨⟨g3, cs3⟩, das3, rfl, ⟨hg3, hk3, hw3, hl3⟩, hfit3⟩ := fits_cons hfit2
  dsimp only at hg3 hk3 hw3 hl3
  subst hg3
  obtain ⟨d3_0, cs3_0, rfl, h3_0, hk3_0⟩ := map_cons hk3
  obtain ⟨a3, rfl⟩ := kd_int h3_0
  have wa3 := hw3 _ List.mem_cons_self
  have hw3_0 := fun x hx => hw3 x (List.mem_cons_of_mem _ hx)
  have hl3_0 := fun x hx => hl3 x (List.mem_cons_of_mem _ hx)
  obtain rfl := map_nil hk3_0
  obtain rfl := fits_nil hfit3
  have h := law_RunMay ⟨a0_0, a0_1, a0_2, a0_3, a0_4⟩ ⟨a1_0, a1_1, a1_2, a1_3, a1_4, a1_5, a1_6⟩ ⟨a2_0, a2_1, a2_2⟩ a3 wa0_0
  refine ⟨_, rfl, ?_, ?_⟩
  · simp only [ret_law11_RunMay, S.law11_RunMay_is, h, Option.isSome_some]
  · simp only [ret_law11_RunMay, S.law11_RunMay_o, h, Option.getD_some]
theorem own : ownKnob Try.prog.godebug = none := by kernel_rfl
theorem laid : laidOutB Try.prog = true := by kernel_rfl
theorem isLaw : IsLaw Rows.runMaySpec 4 := ⟨rfl, fun H ds hl => by
  match ds, hl with
  | [_, _, _, _], _ => rfl⟩
theorem reads : ∀ t ∈ Try.f9.params.toList, Try.prog.readableRec t = true ∧ t < Try.prog.types.size := by
  have h : (Try.f9.params.toList.all fun t => Try.prog.readableRec t && decide (t < Try.prog.types.size)) = true := by kernel_rfl
  intro t ht
  have := List.all_eq_true.1 h t ht
  simpa using this
theorem lifted (os : Os) (started : os.Started) (H : Type) (enc : TypeId × Value → H) :
    ReturnsInHanded {} Try.checked os 9 .any (Rows.runMaySpec.pre6 enc Try.checked.prog Try.f9 Rows.runMayRow.domain false) (Rows.runMaySpec.post enc Try.checked.prog Try.f9 false true false false) := by
  refine returnsInHanded_of_change (C := Try.checked) own started (by kernel_rfl) (by kernel_rfl : Try.prog.funcs[9]? = some Try.f9) (ChangeSpec.witness6 (enc := enc) (C := Try.checked) false ⟨#[], #[.agg #[.slice none 0 0, .int .i64 0, .int .i64 0, .int .i64 0, .int .i64 0], .agg #[.int .i64 0, .int .i64 0, .int .i64 0, .int .i64 0, .int .i64 0, .int .i64 0, .bool false], .agg #[.string ByteArray.empty, .int .i64 0, .slice none 0 0], .int .i64 0], []⟩ 8 (by kernel_rfl) (by kernel_rfl) (by kernel_rfl) (by kernel_rfl)) ?_
  intro W base args ds gs before hval hW _ _
  have hC : Try.checked.prog = Try.prog := by kernel_rfl
  rw [hC] at hval hW ⊢
  have k1 := law_calls12 (P := Try.prog) (f := 9) (fn := Try.f9) (s := Rows.runMaySpec) (apart := false) (fresh := true) (handsOn := false) (enc := enc) (W := W) (base := base) (args := args) (ds := ds) (gs := gs) (before := before) (n := 4) laid isLaw (by kernel_rfl) reads ⟨by kernel_rfl, by kernel_rfl, by kernel_rfl⟩ (tb := 4) (by kernel_rfl) (by kernel_rfl) law11_RunMay_ok (ss := shapes) (by kernel_rfl) all
  generalize Try.prog = P at hval hW k1 ⊢
  exact k1 hval hW
theorem closed : joinedFacts Try.prog 9 Try.f9 Rows.runMaySpec Rows.runMayRow = true := by
  unfold joinedFacts
  rw [ioEnter, ioFinal, ioMake]
  kernel_rfl
theorem closedP : joinedFacts Try.pinned.checked.prog 9 Try.f9 Rows.runMaySpec Rows.runMayRow = true := by
  have hP : Try.pinned.checked.prog = Try.prog := by kernel_rfl
  rw [hP]
  exact closed
theorem over : Rows.runMayRow.holds Try.pinned (OpenSpec.ofChange Rows.runMaySpec) :=
  OpenClaim.holds_of_wide 9 Try.f9 rfl rfl rfl rfl rfl rfl rfl ⟨rfl, rfl, rfl, rfl, rfl⟩ rfl rfl rfl rfl rfl (by kernel_rfl) (by kernel_rfl) closedP
    (of_decide_eq_true (by kernel_rfl)) (by unfold Func.isWrapper; first | (rw [if_pos (by decide +kernel)]; kernel_rfl) | (rw [if_neg (by decide +kernel)]; exact ⟨rfl, rfl⟩))
    (fun os started H enc _ => lifted os started H enc)
theorem proved : Rows.RunMaySaid := over
#print axioms proved
end Go.Proofs.Ytbjeikmkngcjlaa.runMay
