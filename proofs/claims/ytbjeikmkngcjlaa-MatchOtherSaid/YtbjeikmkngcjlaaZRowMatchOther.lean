/- The law 'MatchOther' (towncrier/towncrierlaw13.MatchOther): whatever it is called with, it hands back true, and its arguments read as they did: no condition. -/
import Derived.Test.YtbjeikmkngcjlaaRows
import Derived.Test.YtbjeikmkngcjlaaZE3
import Derived.Test.YtbjeikmkngcjlaaZIo
import Derived.Test.YtbjeikmkngcjlaaZD13
import Derived.Test.YtbjeikmkngcjlaaZP54
namespace Go.Proofs.Ytbjeikmkngcjlaa.matchOther
open Go Go.RowKit Go.Eng Go.Eng.Tab
set_option linter.unusedVariables false
set_option linter.unusedSimpArgs false
abbrev shapes : List Shape := [(true, [.sl (some true) true .step [], .sc (.int .i64 0), .sc (.int .i64 0), .sc (.int .i64 0), .sc (.int .i64 0)]), (false, [.sl (some true) true .evt []]), (true, [.s ByteArray.empty, .sc (.int .i64 0), .sl (some true) true .val []])]
theorem all (das : List DArg) (hfit : Fits shapes das) (hsz : (∀ nl f t (l : List (Ty t)), das[1]? = some (false, [D.sl nl f t l]) → l.length * 48 ≤ reachBytes)) : ∃ r, g_z52o das = some r ∧ r.ok = true ∧ r.vals = [(false, [.d (.sc (.bool true))])] := by
  obtain ⟨⟨g0, cs0⟩, das0, rfl, ⟨hg0, hk0, hw0, hl0⟩, hfit0⟩ := fits_cons hfit
  dsimp only at hg0 hk0 hw0 hl0
  subst hg0
  obtain ⟨d0_0, cs0_0, rfl, h0_0, hk0_0⟩ := map_cons hk0
  obtain ⟨a0_0n, a0_0f, a0_0, rfl⟩ := kd_sl h0_0
  have wa0_0 := hw0 _ List.mem_cons_self
  obtain ⟨hn0_0, rfl⟩ := hl0 _ List.mem_cons_self
  obtain ⟨a0_0n, rfl⟩ := Option.isSome_iff_exists.1 hn0_0
  have hw0_0 := fun x hx => hw0 x (List.mem_cons_of_mem _ hx)
  have hl0_0 := fun x hx => hl0 x (List.mem_cons_of_mem _ hx)
  obtain ⟨d0_1, cs0_1, rfl, h0_1, hk0_1⟩ := map_cons hk0_0
  obtain ⟨a0_1, rfl⟩ := kd_int h0_1
  have wa0_1 := hw0_0 _ List.mem_cons_self
  have hw0_1 := fun x hx => hw0_0 x (List.mem_cons_of_mem _ hx)
  have hl0_1 := fun x hx => hl0_0 x (List.mem_cons_of_mem _ hx)
  obtain ⟨d0_2, cs0_2, rfl, h0_2, hk0_2⟩ := map_cons hk0_1
  obtain ⟨a0_2, rfl⟩ := kd_int h0_2
  have wa0_2 := hw0_1 _ List.mem_cons_self
  have hw0_2 := fun x hx => hw0_1 x (List.mem_cons_of_mem _ hx)
  have hl0_2 := fun x hx => hl0_1 x (List.mem_cons_of_mem _ hx)
  obtain ⟨d0_3, cs0_3, rfl, h0_3, hk0_3⟩ := map_cons hk0_2
  obtain ⟨a0_3, rfl⟩ := kd_int h0_3
  have wa0_3 := hw0_2 _ List.mem_cons_self
  have hw0_3 := fun x hx => hw0_2 x (List.mem_cons_of_mem _ hx)
  have hl0_3 := fun x hx => hl0_2 x (List.mem_cons_of_mem _ hx)
  obtain ⟨d0_4, cs0_4, rfl, h0_4, hk0_4⟩ := map_cons hk0_3
  obtain ⟨a0_4, rfl⟩ := kd_int h0_4
  have wa0_4 := hw0_3 _ List.mem_cons_self
  have hw0_4 := fun x hx => hw0_3 x (List.mem_cons_of_mem _ hx)
  have hl0_4 := fun x hx => hl0_3 x (List.mem_cons_of_mem _ hx)
  obtain rfl := map_nil hk0_4
  obtain ⟨⟨g1, cs1⟩, das1, rfl, ⟨hg1, hk1, hw1, hl1⟩, hfit1⟩ := fits_cons hfit0
  dsimp only at hg1 hk1 hw1 hl1
  subst hg1
  obtain ⟨d1_0, cs1_0, rfl, h1_0, hk1_0⟩ := map_cons hk1
  obtain ⟨a1n, a1f, a1, rfl⟩ := kd_sl h1_0
  have wa1 := hw1 _ List.mem_cons_self
  obtain ⟨hn1_0, rfl⟩ := hl1 _ List.mem_cons_self
  obtain ⟨a1n, rfl⟩ := Option.isSome_iff_exists.1 hn1_0
  have hw1_0 := fun x hx => hw1 x (List.mem_cons_of_mem _ hx)
  have hl1_0 := fun x hx => hl1 x (List.mem_cons_of_mem _ hx)
  obtain rfl := map_nil hk1_0
  obtain ⟨⟨g2, cs2⟩, das2, rfl, ⟨hg2, hk2, hw2, hl2⟩, hfit2⟩ := fits_cons hfit1
  dsimp only at hg2 hk2 hw2 hl2
  subst hg2
  obtain ⟨d2_0, cs2_0, rfl, h2_0, hk2_0⟩ := map_cons hk2
  obtain ⟨a2_0, rfl⟩ := kd_str h2_0
  have wa2_0 := hw2 _ List.mem_cons_self
  have hw2_0 := fun x hx => hw2 x (List.mem_cons_of_mem _ hx)
  have hl2_0 := fun x hx => hl2 x (List.mem_cons_of_mem _ hx)
  obtain ⟨d2_1, cs2_1, rfl, h2_1, hk2_1⟩ := map_cons hk2_0
  obtain ⟨a2_1, rfl⟩ := kd_int h2_1
  have wa2_1 := hw2_0 _ List.mem_cons_self
  have hw2_1 := fun x hx => hw2_0 x (List.mem_cons_of_mem _ hx)
  have hl2_1 := fun x hx => hl2_0 x (List.mem_cons_of_mem _ hx)
  obtain ⟨d2_2, cs2_2, rfl, h2_2, hk2_2⟩ := map_cons hk2_1
  obtain ⟨a2_2n, a2_2f, a2_2, rfl⟩ := kd_sl h2_2
  have wa2_2 := hw2_1 _ List.mem_cons_self
  obtain ⟨hn2_2, rfl⟩ := hl2_1 _ List.mem_cons_self
  obtain ⟨a2_2n, rfl⟩ := Option.isSome_iff_exists.1 hn2_2
  have hw2_2 := fun x hx => hw2_1 x (List.mem_cons_of_mem _ hx)
  have hl2_2 := fun x hx => hl2_1 x (List.mem_cons_of_mem _ hx)
  obtain rfl := map_nil hk2_2
  obtain rfl := fits_nil hfit2
  have hz := hsz _ _ _ _ rfl
  have h := law_MatchOther ⟨a0_0, a0_1, a0_2, a0_3, a0_4⟩ a1 a2_0 a2_1 a2_2 wa0_0 hz
  refine ⟨_, rfl, ?_, ?_⟩
  · simp only [ret_z52o, S.z52o_is, h, Option.isSome_some]
  · simp only [ret_z52o, S.z52o_o, h, Option.getD_some]
theorem own : ownKnob Try.prog.godebug = none := by kernel_rfl
theorem laid : laidOutB Try.prog = true := by kernel_rfl
theorem isLaw : IsLaw Rows.matchOtherSpec 3 := ⟨rfl, fun H ds hl => by
  match ds, hl with
  | [_, _, _], _ => rfl⟩
theorem reads : ∀ t ∈ Try.f18.params.toList, Try.prog.readableRec t = true ∧ t < Try.prog.types.size := by
  have h : (Try.f18.params.toList.all fun t => Try.prog.readableRec t && decide (t < Try.prog.types.size)) = true := by kernel_rfl
  intro t ht
  have := List.all_eq_true.1 h t ht
  simpa using this
theorem lifted (os : Os) (started : os.Started) (H : Type) (enc : TypeId × Value → H) :
    ReturnsInHanded {} Try.checked os 18 .any (Rows.matchOtherSpec.pre6 enc Try.checked.prog Try.f18 Rows.matchOtherRow.domain false) (Rows.matchOtherSpec.post enc Try.checked.prog Try.f18 false true false false) := by
  refine returnsInHanded_of_change_sized (C := Try.checked) own started (by kernel_rfl) (by kernel_rfl : Try.prog.funcs[18]? = some Try.f18) (ChangeSpec.witness6 (enc := enc) (C := Try.checked) false ⟨#[], #[.agg #[.slice none 0 0, .int .i64 0, .int .i64 0, .int .i64 0, .int .i64 0], .slice none 0 0, .agg #[.string ByteArray.empty, .int .i64 0, .slice none 0 0]], []⟩ 8 (by kernel_rfl) (by kernel_rfl) (by kernel_rfl) (by kernel_rfl)) ?_
  intro W base args ds gs before hval hW _ hsz _
  have hC : Try.checked.prog = Try.prog := by kernel_rfl
  rw [hC] at hval hW hsz ⊢
  have k1 := law_callsJ (P := Try.prog) (f := 18) (fn := Try.f18) (s := Rows.matchOtherSpec) (apart := false) (fresh := true) (handsOn := false) (enc := enc) (W := W) (base := base) (args := args) (ds := ds) (gs := gs) (before := before) (n := 3) laid isLaw (by kernel_rfl) reads ⟨by kernel_rfl, by kernel_rfl, by kernel_rfl⟩ (tb := 4) (by kernel_rfl) (by kernel_rfl) z52o_ok (ss := shapes) (by kernel_rfl) (T := 63) (e := 29) 1 rfl (by kernel_rfl) (k := 48) (by kernel_rfl) all
  generalize Try.prog = P at hval hW hsz k1 ⊢
  exact k1 hval hW hsz
theorem closed : joinedFacts Try.prog 18 Try.f18 Rows.matchOtherSpec Rows.matchOtherRow = true := by
  unfold joinedFacts
  rw [ioEnter, ioFinal, ioMake]
  kernel_rfl
theorem closedP : joinedFacts Try.pinned.checked.prog 18 Try.f18 Rows.matchOtherSpec Rows.matchOtherRow = true := by
  have hP : Try.pinned.checked.prog = Try.prog := by kernel_rfl
  rw [hP]
  exact closed
theorem over : Rows.matchOtherRow.holds Try.pinned (OpenSpec.ofChange Rows.matchOtherSpec) :=
  OpenClaim.holds_of_wide 18 Try.f18 rfl rfl rfl rfl rfl rfl rfl ⟨rfl, rfl, rfl, rfl, rfl⟩ rfl rfl rfl rfl rfl (by kernel_rfl) (by kernel_rfl) closedP
    (of_decide_eq_true (by kernel_rfl)) (by unfold Func.isWrapper; first | (rw [if_pos (by decide +kernel)]; kernel_rfl) | (rw [if_neg (by decide +kernel)]; exact ⟨rfl, rfl⟩))
    (fun os started H enc _ => lifted os started H enc)
theorem proved : Rows.MatchOtherSaid := over
#print axioms proved
end Go.Proofs.Ytbjeikmkngcjlaa.matchOther
