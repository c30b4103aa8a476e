/- The law 'IndexTold' (towncrier/towncrierlaw10.IndexTold): whatever it is called with, it hands back true, and its arguments read as they did: no condition. -/
import Derived.Test.YtbjeikmkngcjlaaRows
import Derived.Test.YtbjeikmkngcjlaaVZE3
import Derived.Test.YtbjeikmkngcjlaaVZIo
import Derived.Test.YtbjeikmkngcjlaaVZD12
import Derived.Test.YtbjeikmkngcjlaaVZP50
namespace Go.Proofs.Ytbjeikmkngcjlaa.indexTold
open Go Go.RowKit Go.Eng Go.Eng.Tab
set_option linter.unusedVariables false
set_option linter.unusedSimpArgs false
abbrev shapes : List Shape := [(false, [.sl (some true) true .pred []]), (true, [.s ByteArray.empty, .sc (.int .i64 0), .sl (some true) true .val []])]
theorem all (das : List DArg) (hfit : Fits shapes das) : ∃ r, g_zqwe das = some r ∧ r.ok = true ∧ r.vals = [(false, [.d (.sc (.bool true))])] := by
  obtain ⟨⟨g0, cs0⟩, das0, rfl, ⟨hg0, hk0, hw0, hl0⟩, hfit0⟩ := fits_cons hfit
  dsimp only at hg0 hk0 hw0 hl0
  subst hg0
  obtain ⟨d0_0, cs0_0, rfl, h0_0, hk0_0⟩ := map_cons hk0
  obtain ⟨a0n, a0f, a0, rfl⟩ := kd_sl h0_0
  have wa0 := hw0 _ List.mem_cons_self
  obtain ⟨hn0_0, rfl⟩ := hl0 _ List.mem_cons_self
  obtain ⟨a0n, rfl⟩ := Option.isSome_iff_exists.1 hn0_0
  have hw0_0 := fun x hx => hw0 x (List.mem_cons_of_mem _ hx)
  have hl0_0 := fun x hx => hl0 x (List.mem_cons_of_mem _ hx)
  obtain rfl := map_nil hk0_0
  obtain ⟨⟨g1, cs1⟩, das1, rfl, ⟨hg1, hk1, hw1, hl1⟩, hfit1⟩ := fits_cons hfit0
  dsimp only at hg1 hk1 hw1 hl1
  subst hg1
  obtain ⟨d1_0, cs1_0, rfl, h1_0, hk1_0⟩ := map_cons hk1
  obtain ⟨a1_0, rfl⟩ := kd_str h1_0
  have wa1_0 := hw1 _ List.mem_cons_self
  have hw1_0 := fun x hx => hw1 x (List.mem_cons_of_mem _ hx)
  have hl1_0 := fun x hx => hl1 x (List.mem_cons_of_mem _ hx)
  obtain ⟨d1_1, cs1_1, rfl, h1_1, hk1_1⟩ := map_cons hk1_0
  obtain ⟨a1_1, rfl⟩ := kd_int h1_1
  have wa1_1 := hw1_0 _ List.mem_cons_self
  have hw1_1 := fun x hx => hw1_0 x (List.mem_cons_of_mem _ hx)
  have hl1_1 := fun x hx => hl1_0 x (List.mem_cons_of_mem _ hx)
  obtain ⟨d1_2, cs1_2, rfl, h1_2, hk1_2⟩ := map_cons hk1_1
  obtain ⟨a1_2n, a1_2f, a1_2, rfl⟩ := kd_sl h1_2
  have wa1_2 := hw1_1 _ List.mem_cons_self
  obtain ⟨hn1_2, rfl⟩ := hl1_1 _ List.mem_cons_self
  obtain ⟨a1_2n, rfl⟩ := Option.isSome_iff_exists.1 hn1_2
  have hw1_2 := fun x hx => hw1_1 x (List.mem_cons_of_mem _ hx)
  have hl1_2 := fun x hx => hl1_1 x (List.mem_cons_of_mem _ hx)
  obtain rfl := map_nil hk1_2
  obtain rfl := fits_nil hfit1
  have h := law_IndexTold a0 a1_0 a1_1 a1_2
  refine ⟨_, rfl, ?_, ?_⟩
  · simp only [ret_zqwe, S.zqwe_is, h, Option.isSome_some]
  · simp only [ret_zqwe, S.zqwe_o, h, Option.getD_some]
theorem own : ownKnob Try.prog.godebug = none := by kernel_rfl
theorem laid : laidOutB Try.prog = true := by kernel_rfl
theorem isLaw : IsLaw Rows.indexToldSpec 2 := ⟨rfl, fun H ds hl => by
  match ds, hl with
  | [_, _], _ => rfl⟩
theorem reads : ∀ t ∈ Try.f8.params.toList, Try.prog.readableRec t = true ∧ t < Try.prog.types.size := by
  have h : (Try.f8.params.toList.all fun t => Try.prog.readableRec t && decide (t < Try.prog.types.size)) = true := by kernel_rfl
  intro t ht
  have := List.all_eq_true.1 h t ht
  simpa using this
theorem lifted (os : Os) (started : os.Started) (H : Type) (enc : TypeId × Value → H) :
    ReturnsInHanded {} Try.checked os 8 .any (Rows.indexToldSpec.pre6 enc Try.checked.prog Try.f8 Rows.indexToldRow.domain false) (Rows.indexToldSpec.post enc Try.checked.prog Try.f8 false true false false) := by
  refine returnsInHanded_of_change (C := Try.checked) own started (by kernel_rfl) (by kernel_rfl : Try.prog.funcs[8]? = some Try.f8) (ChangeSpec.witness6 (enc := enc) (C := Try.checked) false ⟨#[], #[.slice none 0 0, .agg #[.string ByteArray.empty, .int .i64 0, .slice none 0 0]], []⟩ 8 (by kernel_rfl) (by kernel_rfl) (by kernel_rfl) (by kernel_rfl)) ?_
  intro W base args ds gs before hval hW _ _
  have hC : Try.checked.prog = Try.prog := by kernel_rfl
  rw [hC] at hval hW ⊢
  have k1 := law_calls12 (P := Try.prog) (f := 8) (fn := Try.f8) (s := Rows.indexToldSpec) (apart := false) (fresh := true) (handsOn := false) (enc := enc) (W := W) (base := base) (args := args) (ds := ds) (gs := gs) (before := before) (n := 2) laid isLaw (by kernel_rfl) reads ⟨by kernel_rfl, by kernel_rfl, by kernel_rfl⟩ (tb := 4) (by kernel_rfl) (by kernel_rfl) zqwe_ok (ss := shapes) (by kernel_rfl) all
  generalize Try.prog = P at hval hW k1 ⊢
  exact k1 hval hW
theorem closed : joinedFacts Try.prog 8 Try.f8 Rows.indexToldSpec Rows.indexToldRow = true := by
  unfold joinedFacts
  rw [ioEnter, ioFinal, ioMake]
  kernel_rfl
theorem closedP : joinedFacts Try.pinned.checked.prog 8 Try.f8 Rows.indexToldSpec Rows.indexToldRow = true := by
  have hP : Try.pinned.checked.prog = Try.prog := by kernel_rfl
  rw [hP]
  exact closed
theorem over : Rows.indexToldRow.holds Try.pinned (OpenSpec.ofChange Rows.indexToldSpec) :=
  OpenClaim.holds_of_wide 8 Try.f8 rfl rfl rfl rfl rfl rfl rfl ⟨rfl, rfl, rfl, rfl, rfl⟩ rfl rfl rfl rfl rfl (by kernel_rfl) (by kernel_rfl) closedP
    (of_decide_eq_true (by kernel_rfl)) (by unfold Func.isWrapper; first | (rw [if_pos (by decide +kernel)]; kernel_rfl) | (rw [if_neg (by decide +kernel)]; exact ⟨rfl, rfl⟩))
    (fun os started H enc _ => lifted os started H enc)
theorem proved : Rows.IndexToldSaid := over
#print axioms proved
end Go.Proofs.Ytbjeikmkngcjlaa.indexTold
