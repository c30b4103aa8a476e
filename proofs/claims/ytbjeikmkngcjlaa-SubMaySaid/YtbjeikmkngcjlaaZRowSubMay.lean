/- The law 'SubMay' (towncrier/towncrierlaw15.SubMay): whatever it is called with, it hands back true, and its arguments read as they did: no condition. -/
import Derived.Test.YtbjeikmkngcjlaaRows
import Derived.Test.YtbjeikmkngcjlaaZE3
import Derived.Test.YtbjeikmkngcjlaaZIo
import Derived.Test.YtbjeikmkngcjlaaZD12
import Derived.Test.YtbjeikmkngcjlaaZP31
namespace Go.Proofs.Ytbjeikmkngcjlaa.subMay
open Go Go.RowKit Go.Eng Go.Eng.Tab
set_option linter.unusedVariables false
set_option linter.unusedSimpArgs false
abbrev shapes : List Shape := [(true, [.sc (.int .i64 0), .sc (.int .i64 0), .sl (some true) true .step [], .sc (.int .i64 0), .sc (.int .i64 0), .sc (.int .i64 0), .sc (.int .i64 0), .sl (some true) true .run [], .sc (.int .i64 0), .sc (.int .i64 0), .sc (.int .i64 0), .sl (some true) true .mat [], .b false, .sc (.int .i64 0), .b false]), (true, [.s ByteArray.empty, .sc (.int .i64 0), .sl (some true) true .val []]), (false, [.sc (.int .i64 0)]), (false, [.sc (.int .i64 0)])]
theorem all (das : List DArg) (hfit : Fits shapes das) : ∃ r, g_law15_SubMay das = some r ∧ r.ok = true ∧ r.vals = [(false, [.d (.sc (.bool true))])] := by
  obtain ⟨⟨g0, cs0⟩, das0, rfl, ⟨hg0, hk0, hw0, hl0⟩, hfit0⟩ := fits_cons hfit
  dsimp only at hg0 hk0 hw0 hl0
  subst hg0
  obtain ⟨d0_0, cs0_0, rfl, h0_0, hk0_0⟩ := map_cons hk0
  obtain ⟨a0_0, rfl⟩ := kd_int h0_0
  have wa0_0 := hw0 _ List.mem_cons_self
  have hw0_0 := fun x hx => hw0 x (List.mem_cons_of_mem _ hx)
  have hl0_0 := fun x hx => hl0 x (List.mem_cons_of_mem _ hx)
  obtain ⟨d0_1, cs0_1, rfl, h0_1, hk0_1⟩ := map_cons hk0_0
  obtain ⟨a0_1, rfl⟩ := kd_int h0_1
  have wa0_1 := hw0_0 _ List.mem_cons_self
  have hw0_1 := fun x hx => hw0_0 x (List.mem_cons_of_mem _ hx)
  have hl0_1 := fun x hx => hl0_0 x (List.mem_cons_of_mem _ hx)
  obtain ⟨d0_2, cs0_2, rfl, h0_2, hk0_2⟩ := map_cons hk0_1
  obtain ⟨a0_2n, a0_2f, a0_2, rfl⟩ := kd_sl h0_2
  have wa0_2 := hw0_1 _ List.mem_cons_self
  obtain ⟨hn0_2, rfl⟩ := hl0_1 _ List.mem_cons_self
  obtain ⟨a0_2n, rfl⟩ := Option.isSome_iff_exists.1 hn0_2
  have hw0_2 := fun x hx => hw0_1 x (List.mem_cons_of_mem _ hx)
  have hl0_2 := fun x hx => hl0_1 x (List.mem_cons_of_mem _ hx)
  obtain ⟨d0_3, cs0_3, rfl, h0_3, hk0_3⟩ := map_cons hk0_2
  obtain ⟨a0_3, rfl⟩ := kd_int h0_3
  have wa0_3 := hw0_2 _ List.mem_cons_self
  have hw0_3 := fun x hx => hw0_2 x (List.mem_cons_of_mem _ hx)
  have hl0_3 := fun x hx => hl0_2 x (List.mem_cons_of_mem _ hx)
  obtain ⟨d0_4, cs0_4, rfl, h0_4, hk0_4⟩ := map_cons hk0_3
  obtain ⟨a0_4, rfl⟩ := kd_int h0_4
  have wa0_4 := hw0_3 _ List.mem_cons_self
  have hw0_4 := fun x hx => hw0_3 x (List.mem_cons_of_mem _ hx)
  have hl0_4 := fun x hx => hl0_3 x (List.mem_cons_of_mem _ hx)
  obtain ⟨d0_5, cs0_5, rfl, h0_5, hk0_5⟩ := map_cons hk0_4
  obtain ⟨a0_5, rfl⟩ := kd_int h0_5
  have wa0_5 := hw0_4 _ List.mem_cons_self
  have hw0_5 := fun x hx => hw0_4 x (List.mem_cons_of_mem _ hx)
  have hl0_5 := fun x hx => hl0_4 x (List.mem_cons_of_mem _ hx)
  obtain ⟨d0_6, cs0_6, rfl, h0_6, hk0_6⟩ := map_cons hk0_5
  obtain ⟨a0_6, rfl⟩ := kd_int h0_6
  have wa0_6 := hw0_5 _ List.mem_cons_self
  have hw0_6 := fun x hx => hw0_5 x (List.mem_cons_of_mem _ hx)
  have hl0_6 := fun x hx => hl0_5 x (List.mem_cons_of_mem _ hx)
  obtain ⟨d0_7, cs0_7, rfl, h0_7, hk0_7⟩ := map_cons hk0_6
  obtain ⟨a0_7n, a0_7f, a0_7, rfl⟩ := kd_sl h0_7
  have wa0_7 := hw0_6 _ List.mem_cons_self
  obtain ⟨hn0_7, rfl⟩ := hl0_6 _ List.mem_cons_self
  obtain ⟨a0_7n, rfl⟩ := Option.isSome_iff_exists.1 hn0_7
  have hw0_7 := fun x hx => hw0_6 x (List.mem_cons_of_mem _ hx)
  have hl0_7 := fun x hx => hl0_6 x (List.mem_cons_of_mem _ hx)
  obtain ⟨d0_8, cs0_8, rfl, h0_8, hk0_8⟩ := map_cons hk0_7
  obtain ⟨a0_8, rfl⟩ := kd_int h0_8
  have wa0_8 := hw0_7 _ List.mem_cons_self
  have hw0_8 := fun x hx => hw0_7 x (List.mem_cons_of_mem _ hx)
  have hl0_8 := fun x hx => hl0_7 x (List.mem_cons_of_mem _ hx)
  obtain ⟨d0_9, cs0_9, rfl, h0_9, hk0_9⟩ := map_cons hk0_8
  obtain ⟨a0_9, rfl⟩ := kd_int h0_9
  have wa0_9 := hw0_8 _ List.mem_cons_self
  have hw0_9 := fun x hx => hw0_8 x (List.mem_cons_of_mem _ hx)
  have hl0_9 := fun x hx => hl0_8 x (List.mem_cons_of_mem _ hx)
  obtain ⟨d0_10, cs0_10, rfl, h0_10, hk0_10⟩ := map_cons hk0_9
  obtain ⟨a0_10, rfl⟩ := kd_int h0_10
  have wa0_10 := hw0_9 _ List.mem_cons_self
  have hw0_10 := fun x hx => hw0_9 x (List.mem_cons_of_mem _ hx)
  have hl0_10 := fun x hx => hl0_9 x (List.mem_cons_of_mem _ hx)
  obtain ⟨d0_11, cs0_11, rfl, h0_11, hk0_11⟩ := map_cons hk0_10
  obtain ⟨a0_11n, a0_11f, a0_11, rfl⟩ := kd_sl h0_11
  have wa0_11 := hw0_10 _ List.mem_cons_self
  obtain ⟨hn0_11, rfl⟩ := hl0_10 _ List.mem_cons_self
  obtain ⟨a0_11n, rfl⟩ := Option.isSome_iff_exists.1 hn0_11
  have hw0_11 := fun x hx => hw0_10 x (List.mem_cons_of_mem _ hx)
  have hl0_11 := fun x hx => hl0_10 x (List.mem_cons_of_mem _ hx)
  obtain ⟨d0_12, cs0_12, rfl, h0_12, hk0_12⟩ := map_cons hk0_11
  obtain ⟨a0_12, rfl⟩ := kd_bool h0_12
  have wa0_12 := hw0_11 _ List.mem_cons_self
  have hw0_12 := fun x hx => hw0_11 x (List.mem_cons_of_mem _ hx)
  have hl0_12 := fun x hx => hl0_11 x (List.mem_cons_of_mem _ hx)
  obtain ⟨d0_13, cs0_13, rfl, h0_13, hk0_13⟩ := map_cons hk0_12
  obtain ⟨a0_13, rfl⟩ := kd_int h0_13
  have wa0_13 := hw0_12 _ List.mem_cons_self
  have hw0_13 := fun x hx => hw0_12 x (List.mem_cons_of_mem _ hx)
  have hl0_13 := fun x hx => hl0_12 x (List.mem_cons_of_mem _ hx)
  obtain ⟨d0_14, cs0_14, rfl, h0_14, hk0_14⟩ := map_cons hk0_13
  obtain ⟨a0_14, rfl⟩ := kd_bool h0_14
  have wa0_14 := hw0_13 _ List.mem_cons_self
  have hw0_14 := fun x hx => hw0_13 x (List.mem_cons_of_mem _ hx)
  have hl0_14 := fun x hx => hl0_13 x (List.mem_cons_of_mem _ hx)
  obtain rfl := map_nil hk0_14
  obtain ⟨⟨g1, cs1⟩, das1, rfl, ⟨hg1, hk1, hw1, hl1⟩, hfit1⟩ := fits_cons hfit0
  dsimp only at hg1 hk1 hw1 hl1
  subst hg1
  obtain ⟨d1_0, cs1_0, rfl, h1_0, hk1_0⟩ := map_cons hk1
  obtain ⟨a1_0, rfl⟩ := kd_str h1_0
  have wa1_0 := hw1 _ List.mem_cons_self
  have hw1_0 := fun x hx => hw1 x (List.mem_cons_of_mem _ hx)
  have hl1_0 := fun x hx => hl1 x (List.mem_cons_of_mem _ hx)
  obtain ⟨d1_1, cs1_1, rfl, h1_1, hk1_1⟩ := map_cons hk1_0
  obtain ⟨a1_1, rfl⟩ := kd_int h1_1
  have wa1_1 := hw1_0 _ List.mem_cons_self
  have hw1_1 := fun x hx => hw1_0 x (List.mem_cons_of_mem _ hx)
  have hl1_1 := fun x hx => hl1_0 x (List.mem_cons_of_mem _ hx)
  obtain ⟨d1_2, cs1_2, rfl, h1_2, hk1_2⟩ := map_cons hk1_1
  obtain ⟨a1_2n, a1_2f, a1_2, rfl⟩ := kd_sl h1_2
  have wa1_2 := hw1_1 _ List.mem_cons_self
  obtain ⟨hn1_2, rfl⟩ := hl1_1 _ List.mem_cons_self
  obtain ⟨a1_2n, rfl⟩ := Option.isSome_iff_exists.1 hn1_2
  have hw1_2 := fun x hx => hw1_1 x (List.mem_cons_of_mem _ hx)
  have hl1_2 := fun x hx => hl1_1 x (List.mem_cons_of_mem _ hx)
  obtain rfl := map_nil hk1_2
  obtain ⟨⟨g2, cs2⟩, das2, rfl, ⟨hg2, hk2, hw2, hl2⟩, hfit2⟩ := fits_cons hfit1
  dsimp only at hg2 hk2 hw2 hl2
  subst hg2
  obtain ⟨d2_0, cs2_0, rfl, h2_0, hk2_0⟩ := map_cons hk2
  obtain ⟨a2, rfl⟩ := kd_int h2_0
  have wa2 := hw2 _ List.mem_cons_self
  have hw2_0 := fun x hx => hw2 x (List.mem_cons_of_mem _ hx)
  have hl2_0 := fun x hx => hl2 x (List.mem_cons_of_mem _ hx)
  obtain rfl := map_nil hk2_0
  obtain ⟨⟨g3, cs3⟩, das3, rfl, ⟨hg3, hk3, hw3, hl3⟩, hfit3⟩ := fits_cons hfit2
  dsimp only at hg3 hk3 hw3 hl3
  subst hg3
  obtain ⟨d3_0, cs3_0, rfl, h3_0, hk3_0⟩ := map_cons hk3
  obtain ⟨a3, rfl⟩ := kd_int h3_0
  have wa3 := hw3 _ List.mem_cons_self
  have hw3_0 := fun x hx => hw3 x (List.mem_cons_of_mem _ hx)
  have hl3_0 := fun x hx => hl3 x (List.mem_cons_of_mem _ hx)
  obtain rfl := map_nil hk3_0
  obtain rfl := fits_nil hfit3
  have h := law_SubMay ⟨a0_0, a0_1, ⟨⟨a0_2, a0_3, a0_4, a0_5, a0_6⟩, a0_7, a0_8⟩, a0_9, a0_10, a0_11, a0_12, a0_13, a0_14⟩ ⟨a1_0, a1_1, a1_2⟩ a2 a3 wa0_2
  refine ⟨_, rfl, ?_, ?_⟩
  · simp only [ret_law15_SubMay, S.law15_SubMay_is, h, Option.isSome_some]
  · simp only [ret_law15_SubMay, S.law15_SubMay_o, h, Option.getD_some]
theorem own : ownKnob Try.prog.godebug = none := by kernel_rfl
theorem laid : laidOutB Try.prog = true := by kernel_rfl
theorem isLaw : IsLaw Rows.subMaySpec 4 := ⟨rfl, fun H ds hl => by
  match ds, hl with
  | [_, _, _, _], _ => rfl⟩
theorem reads : ∀ t ∈ Try.f31.params.toList, Try.prog.readableRec t = true ∧ t < Try.prog.types.size := by
  have h : (Try.f31.params.toList.all fun t => Try.prog.readableRec t && decide (t < Try.prog.types.size)) = true := by kernel_rfl
  intro t ht
  have := List.all_eq_true.1 h t ht
  simpa using this
theorem lifted (os : Os) (started : os.Started) (H : Type) (enc : TypeId × Value → H) :
    ReturnsInHanded {} Try.checked os 31 .any (Rows.subMaySpec.pre6 enc Try.checked.prog Try.f31 Rows.subMayRow.domain false) (Rows.subMaySpec.post enc Try.checked.prog Try.f31 false true false false) := by
  refine returnsInHanded_of_change (C := Try.checked) own started (by kernel_rfl) (by kernel_rfl : Try.prog.funcs[31]? = some Try.f31) (ChangeSpec.witness6 (enc := enc) (C := Try.checked) false ⟨#[], #[.agg #[.int .i64 0, .int .i64 0, .slice none 0 0, .int .i64 0, .int .i64 0, .int .i64 0, .int .i64 0, .slice none 0 0, .int .i64 0, .int .i64 0, .int .i64 0, .slice none 0 0, .bool false, .int .i64 0, .bool false], .agg #[.string ByteArray.empty, .int .i64 0, .slice none 0 0], .int .i64 0, .int .i64 0], []⟩ 8 (by kernel_rfl) (by kernel_rfl) (by kernel_rfl) (by kernel_rfl)) ?_
  intro W base args ds gs before hval hW _ _
  have hC : Try.checked.prog = Try.prog := by kernel_rfl
  rw [hC] at hval hW ⊢
  have k1 := law_calls12 (P := Try.prog) (f := 31) (fn := Try.f31) (s := Rows.subMaySpec) (apart := false) (fresh := true) (handsOn := false) (enc := enc) (W := W) (base := base) (args := args) (ds := ds) (gs := gs) (before := before) (n := 4) laid isLaw (by kernel_rfl) reads ⟨by kernel_rfl, by kernel_rfl, by kernel_rfl⟩ (tb := 4) (by kernel_rfl) (by kernel_rfl) law15_SubMay_ok (ss := shapes) (by kernel_rfl) all
  generalize Try.prog = P at hval hW k1 ⊢
  exact k1 hval hW
theorem closed : joinedFacts Try.prog 31 Try.f31 Rows.subMaySpec Rows.subMayRow = true := by
  unfold joinedFacts
  rw [ioEnter, ioFinal, ioMake]
  kernel_rfl
theorem closedP : joinedFacts Try.pinned.checked.prog 31 Try.f31 Rows.subMaySpec Rows.subMayRow = true := by
  have hP : Try.pinned.checked.prog = Try.prog := by kernel_rfl
  rw [hP]
  exact closed
theorem over : Rows.subMayRow.holds Try.pinned (OpenSpec.ofChange Rows.subMaySpec) :=
  OpenClaim.holds_of_wide 31 Try.f31 rfl rfl rfl rfl rfl rfl rfl ⟨rfl, rfl, rfl, rfl, rfl⟩ rfl rfl rfl rfl rfl (by kernel_rfl) (by kernel_rfl) closedP
    (of_decide_eq_true (by kernel_rfl)) (by unfold Func.isWrapper; first | (rw [if_pos (by decide +kernel)]; kernel_rfl) | (rw [if_neg (by decide +kernel)]; exact ⟨rfl, rfl⟩))
    (fun os started H enc _ => lifted os started H enc)
theorem proved : Rows.SubMaySaid := over
#print axioms proved
end Go.Proofs.Ytbjeikmkngcjlaa.subMay
