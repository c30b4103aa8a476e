/- The law 'RunCounts' (towncrier/towncrierlaw11.RunCounts): whatever it is called with, it hands back true, and its arguments read as they did: no condition. -/
import Derived.Test.YtbjeikmkngcjlaaRows
import Derived.Test.YtbjeikmkngcjlaaVZE3
import Derived.Test.YtbjeikmkngcjlaaVZIo
import Derived.Test.YtbjeikmkngcjlaaVZD12
import Derived.Test.YtbjeikmkngcjlaaVZP53
namespace Go.Proofs.Ytbjeikmkngcjlaa.runCounts
open Go Go.RowKit Go.Eng Go.Eng.Tab
set_option linter.unusedVariables false
set_option linter.unusedSimpArgs false
abbrev shapes : List Shape := [(false, [.sl (some true) true .int []])]
theorem all (das : List DArg) (hfit : Fits shapes das) : ∃ r, g_z64k das = some r ∧ r.ok = true ∧ r.vals = [(false, [.d (.sc (.bool true))])] := by
  obtain ⟨⟨g0, cs0⟩, das0, rfl, ⟨hg0, hk0, hw0, hl0⟩, hfit0⟩ := fits_cons hfit
  dsimp only at hg0 hk0 hw0 hl0
  subst hg0
  obtain ⟨d0_0, cs0_0, rfl, h0_0, hk0_0⟩ := map_cons hk0
  obtain ⟨a0n, a0f, a0, rfl⟩ := kd_sl h0_0
  have wa0 := hw0 _ List.mem_cons_self
  obtain ⟨hn0_0, rfl⟩ := hl0 _ List.mem_cons_self
  obtain ⟨a0n, rfl⟩ := Option.isSome_iff_exists.1 hn0_0
  have hw0_0 := fun x hx => hw0 x (List.mem_cons_of_mem _ hx)
  have hl0_0 := fun x hx => hl0 x (List.mem_cons_of_mem _ hx)
  obtain rfl := map_nil hk0_0
  obtain rfl := fits_nil hfit0
  have h := law_RunCounts a0 (fun x hx => wa0.2 x hx)
  refine ⟨_, rfl, ?_, ?_⟩
  · simp only [ret_z64k, S.z64k_is, h, Option.isSome_some]
  · simp only [ret_z64k, S.z64k_o, h, Option.getD_some]
theorem own : ownKnob Try.prog.godebug = none := by kernel_rfl
theorem laid : laidOutB Try.prog = true := by kernel_rfl
theorem isLaw : IsLaw Rows.runCountsSpec 1 := ⟨rfl, fun H ds hl => by
  match ds, hl with
  | [_], _ => rfl⟩
theorem reads : ∀ t ∈ Try.f13.params.toList, Try.prog.readableRec t = true ∧ t < Try.prog.types.size := by
  have h : (Try.f13.params.toList.all fun t => Try.prog.readableRec t && decide (t < Try.prog.types.size)) = true := by kernel_rfl
  intro t ht
  have := List.all_eq_true.1 h t ht
  simpa using this
theorem lifted (os : Os) (started : os.Started) (H : Type) (enc : TypeId × Value → H) :
    ReturnsInHanded {} Try.checked os 13 .any (Rows.runCountsSpec.pre6 enc Try.checked.prog Try.f13 Rows.runCountsRow.domain false) (Rows.runCountsSpec.post enc Try.checked.prog Try.f13 false true false false) := by
  refine returnsInHanded_of_change (C := Try.checked) own started (by kernel_rfl) (by kernel_rfl : Try.prog.funcs[13]? = some Try.f13) (ChangeSpec.witness6 (enc := enc) (C := Try.checked) false ⟨#[], #[.slice none 0 0], []⟩ 8 (by kernel_rfl) (by kernel_rfl) (by kernel_rfl) (by kernel_rfl)) ?_
  intro W base args ds gs before hval hW _ _
  have hC : Try.checked.prog = Try.prog := by kernel_rfl
  rw [hC] at hval hW ⊢
  have k1 := law_calls12 (P := Try.prog) (f := 13) (fn := Try.f13) (s := Rows.runCountsSpec) (apart := false) (fresh := true) (handsOn := false) (enc := enc) (W := W) (base := base) (args := args) (ds := ds) (gs := gs) (before := before) (n := 1) laid isLaw (by kernel_rfl) reads ⟨by kernel_rfl, by kernel_rfl, by kernel_rfl⟩ (tb := 4) (by kernel_rfl) (by kernel_rfl) z64k_ok (ss := shapes) (by kernel_rfl) all
  generalize Try.prog = P at hval hW k1 ⊢
  exact k1 hval hW
theorem closed : joinedFacts Try.prog 13 Try.f13 Rows.runCountsSpec Rows.runCountsRow = true := by
  unfold joinedFacts
  rw [ioEnter, ioFinal, ioMake]
  kernel_rfl
theorem closedP : joinedFacts Try.pinned.checked.prog 13 Try.f13 Rows.runCountsSpec Rows.runCountsRow = true := by
  have hP : Try.pinned.checked.prog = Try.prog := by kernel_rfl
  rw [hP]
  exact closed
theorem over : Rows.runCountsRow.holds Try.pinned (OpenSpec.ofChange Rows.runCountsSpec) :=
  OpenClaim.holds_of_wide 13 Try.f13 rfl rfl rfl rfl rfl rfl rfl ⟨rfl, rfl, rfl, rfl, rfl⟩ rfl rfl rfl rfl rfl (by kernel_rfl) (by kernel_rfl) closedP
    (of_decide_eq_true (by kernel_rfl)) (by unfold Func.isWrapper; first | (rw [if_pos (by decide +kernel)]; kernel_rfl) | (rw [if_neg (by decide +kernel)]; exact ⟨rfl, rfl⟩))
    (fun os started H enc _ => lifted os started H enc)
theorem proved : Rows.RunCountsSaid := over
#print axioms proved
end Go.Proofs.Ytbjeikmkngcjlaa.runCounts
