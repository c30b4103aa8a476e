/- The law 'IndexMore' (towncrier/towncrierlaw10.IndexMore): whatever it is called with, it hands back true, and its arguments read as they did: no condition. -/
import Derived.Test.YtbjeikmkngcjlaaRows
import Derived.Test.YtbjeikmkngcjlaaVZE3
import Derived.Test.YtbjeikmkngcjlaaVZIo
import Derived.Test.YtbjeikmkngcjlaaVZD13
import Derived.Test.YtbjeikmkngcjlaaVZP52
namespace Go.Proofs.Ytbjeikmkngcjlaa.indexMore
open Go Go.RowKit Go.Eng Go.Eng.Tab
set_option linter.unusedVariables false
set_option linter.unusedSimpArgs false
abbrev shapes : List Shape := [(false, [.sl (some true) true .query []]), (true, [.sl (some true) true .step [], .sc (.int .i64 0), .sc (.int .i64 0), .sc (.int .i64 0), .sc (.int .i64 0)])]
theorem all (das : List DArg) (hfit : Fits shapes das) (hsz : (∀ nl f t (l : List (Ty t)) rest, das = (false, [.sl nl f t l]) :: rest → l.length * 56 ≤ reachBytes)) : ∃ r, g_zclm das = some r ∧ r.ok = true ∧ r.vals = [(false, [.d (.sc (.bool true))])] := by
  obtain ⟨⟨g0, cs0⟩, das0, rfl, ⟨hg0, hk0, hw0, hl0⟩, hfit0⟩ := fits_cons hfit
  dsimp only at hg0 hk0 hw0 hl0
  subst hg0
  obtain ⟨d0_0, cs0_0, rfl, h0_0, hk0_0⟩ := map_cons hk0
  obtain ⟨a0n, a0f, a0, rfl⟩ := kd_sl h0_0
  have wa0 := hw0 _ List.mem_cons_self
  obtain ⟨hn0_0, rfl⟩ := hl0 _ List.mem_cons_self
  obtain ⟨a0n, rfl⟩ := Option.isSome_iff_exists.1 hn0_0
  have hw0_0 := fun x hx => hw0 x (List.mem_cons_of_mem _ hx)
  have hl0_0 := fun x hx => hl0 x (List.mem_cons_of_mem _ hx)
  obtain rfl := map_nil hk0_0
  obtain ⟨⟨g1, cs1⟩, das1, rfl, ⟨hg1, hk1, hw1, hl1⟩, hfit1⟩ := fits_cons hfit0
  dsimp only at hg1 hk1 hw1 hl1
  subst hg1
  obtain ⟨d1_0, cs1_0, rfl, h1_0, hk1_0⟩ := map_cons hk1
  obtain ⟨a1_0n, a1_0f, a1_0, rfl⟩ := kd_sl h1_0
  have wa1_0 := hw1 _ List.mem_cons_self
  obtain ⟨hn1_0, rfl⟩ := hl1 _ List.mem_cons_self
  obtain ⟨a1_0n, rfl⟩ := Option.isSome_iff_exists.1 hn1_0
  have hw1_0 := fun x hx => hw1 x (List.mem_cons_of_mem _ hx)
  have hl1_0 := fun x hx => hl1 x (List.mem_cons_of_mem _ hx)
  obtain ⟨d1_1, cs1_1, rfl, h1_1, hk1_1⟩ := map_cons hk1_0
  obtain ⟨a1_1, rfl⟩ := kd_int h1_1
  have wa1_1 := hw1_0 _ List.mem_cons_self
  have hw1_1 := fun x hx => hw1_0 x (List.mem_cons_of_mem _ hx)
  have hl1_1 := fun x hx => hl1_0 x (List.mem_cons_of_mem _ hx)
  obtain ⟨d1_2, cs1_2, rfl, h1_2, hk1_2⟩ := map_cons hk1_1
  obtain ⟨a1_2, rfl⟩ := kd_int h1_2
  have wa1_2 := hw1_1 _ List.mem_cons_self
  have hw1_2 := fun x hx => hw1_1 x (List.mem_cons_of_mem _ hx)
  have hl1_2 := fun x hx => hl1_1 x (List.mem_cons_of_mem _ hx)
  obtain ⟨d1_3, cs1_3, rfl, h1_3, hk1_3⟩ := map_cons hk1_2
  obtain ⟨a1_3, rfl⟩ := kd_int h1_3
  have wa1_3 := hw1_2 _ List.mem_cons_self
  have hw1_3 := fun x hx => hw1_2 x (List.mem_cons_of_mem _ hx)
  have hl1_3 := fun x hx => hl1_2 x (List.mem_cons_of_mem _ hx)
  obtain ⟨d1_4, cs1_4, rfl, h1_4, hk1_4⟩ := map_cons hk1_3
  obtain ⟨a1_4, rfl⟩ := kd_int h1_4
  have wa1_4 := hw1_3 _ List.mem_cons_self
  have hw1_4 := fun x hx => hw1_3 x (List.mem_cons_of_mem _ hx)
  have hl1_4 := fun x hx => hl1_3 x (List.mem_cons_of_mem _ hx)
  obtain rfl := map_nil hk1_4
  obtain rfl := fits_nil hfit1
  have hz := hsz _ _ _ _ _ rfl
  have h := law_IndexMore a0 ⟨a1_0, a1_1, a1_2, a1_3, a1_4⟩ hz
  refine ⟨_, rfl, ?_, ?_⟩
  · simp only [ret_zclm, S.zclm_is, h, Option.isSome_some]
  · simp only [ret_zclm, S.zclm_o, h, Option.getD_some]
theorem own : ownKnob Try.prog.godebug = none := by kernel_rfl
theorem laid : laidOutB Try.prog = true := by kernel_rfl
theorem isLaw : IsLaw Rows.indexMoreSpec 2 := ⟨rfl, fun H ds hl => by
  match ds, hl with
  | [_, _], _ => rfl⟩
theorem reads : ∀ t ∈ Try.f5.params.toList, Try.prog.readableRec t = true ∧ t < Try.prog.types.size := by
  have h : (Try.f5.params.toList.all fun t => Try.prog.readableRec t && decide (t < Try.prog.types.size)) = true := by kernel_rfl
  intro t ht
  have := List.all_eq_true.1 h t ht
  simpa using this
theorem lifted (os : Os) (started : os.Started) (H : Type) (enc : TypeId × Value → H) :
    ReturnsInHanded {} Try.checked os 5 .any (Rows.indexMoreSpec.pre6 enc Try.checked.prog Try.f5 Rows.indexMoreRow.domain false) (Rows.indexMoreSpec.post enc Try.checked.prog Try.f5 false true false false) := by
  refine returnsInHanded_of_change_sized (C := Try.checked) own started (by kernel_rfl) (by kernel_rfl : Try.prog.funcs[5]? = some Try.f5) (ChangeSpec.witness6 (enc := enc) (C := Try.checked) false ⟨#[], #[.slice none 0 0, .agg #[.slice none 0 0, .int .i64 0, .int .i64 0, .int .i64 0, .int .i64 0]], []⟩ 8 (by kernel_rfl) (by kernel_rfl) (by kernel_rfl) (by kernel_rfl)) ?_
  intro W base args ds gs before hval hW _ hsz _
  have hC : Try.checked.prog = Try.prog := by kernel_rfl
  rw [hC] at hval hW hsz ⊢
  have k1 := law_calls13 (P := Try.prog) (f := 5) (fn := Try.f5) (s := Rows.indexMoreSpec) (apart := false) (fresh := true) (handsOn := false) (enc := enc) (W := W) (base := base) (args := args) (ds := ds) (gs := gs) (before := before) (n := 2) laid isLaw (by kernel_rfl) reads ⟨by kernel_rfl, by kernel_rfl, by kernel_rfl⟩ (tb := 4) (by kernel_rfl) (by kernel_rfl) zclm_ok (ss := shapes) (by kernel_rfl) (T := 22) (ts := [45]) (e := 45) rfl (by kernel_rfl) (k := 56) (by kernel_rfl) all
  generalize Try.prog = P at hval hW hsz k1 ⊢
  exact k1 hval hW hsz
theorem closed : joinedFacts Try.prog 5 Try.f5 Rows.indexMoreSpec Rows.indexMoreRow = true := by
  unfold joinedFacts
  rw [ioEnter, ioFinal, ioMake]
  kernel_rfl
theorem closedP : joinedFacts Try.pinned.checked.prog 5 Try.f5 Rows.indexMoreSpec Rows.indexMoreRow = true := by
  have hP : Try.pinned.checked.prog = Try.prog := by kernel_rfl
  rw [hP]
  exact closed
theorem over : Rows.indexMoreRow.holds Try.pinned (OpenSpec.ofChange Rows.indexMoreSpec) :=
  OpenClaim.holds_of_wide 5 Try.f5 rfl rfl rfl rfl rfl rfl rfl ⟨rfl, rfl, rfl, rfl, rfl⟩ rfl rfl rfl rfl rfl (by kernel_rfl) (by kernel_rfl) closedP
    (of_decide_eq_true (by kernel_rfl)) (by unfold Func.isWrapper; first | (rw [if_pos (by decide +kernel)]; kernel_rfl) | (rw [if_neg (by decide +kernel)]; exact ⟨rfl, rfl⟩))
    (fun os started H enc _ => lifted os started H enc)
theorem proved : Rows.IndexMoreSaid := over
#print axioms proved
end Go.Proofs.Ytbjeikmkngcjlaa.indexMore
