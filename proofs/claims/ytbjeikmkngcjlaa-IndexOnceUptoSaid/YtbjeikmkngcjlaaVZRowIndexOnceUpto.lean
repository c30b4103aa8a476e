/- The law 'IndexOnce', of bulk at most 1048576 (towncrier/towncrierlaw10.IndexOnce): whatever it is called with, it hands back true, and its arguments read as they did: of whatever size that any machine bears. -/
import Derived.Test.YtbjeikmkngcjlaaRows
import Derived.Test.YtbjeikmkngcjlaaVZE3
import Derived.Test.YtbjeikmkngcjlaaVZIo
import Derived.Test.YtbjeikmkngcjlaaVZD13
import Derived.Test.YtbjeikmkngcjlaaVZP52
namespace Go.Proofs.Ytbjeikmkngcjlaa.indexOnceUpto
open Go Go.RowKit Go.Eng Go.Eng.Tab
set_option linter.unusedVariables false
set_option linter.unusedSimpArgs false
abbrev shapes : List Shape := [(false, [.sl (some true) true .query []])]
theorem all (das : List DArg) (hfit : Fits shapes das) (hsz : (∀ nl f t (l : List (Ty t)) rest, das = (false, [.sl nl f t l]) :: rest → l.length ≤ 1048576)) : ∃ r, g_z6wn das = some r ∧ r.ok = true ∧ r.vals = [(false, [.d (.sc (.bool true))])] := by
  obtain ⟨⟨g0, cs0⟩, das0, rfl, ⟨hg0, hk0, hw0, hl0⟩, hfit0⟩ := fits_cons hfit
  dsimp only at hg0 hk0 hw0 hl0
  subst hg0
  obtain ⟨d0_0, cs0_0, rfl, h0_0, hk0_0⟩ := map_cons hk0
  obtain ⟨a0n, a0f, a0, rfl⟩ := kd_sl h0_0
  have wa0 := hw0 _ List.mem_cons_self
  obtain ⟨hn0_0, rfl⟩ := hl0 _ List.mem_cons_self
  obtain ⟨a0n, rfl⟩ := Option.isSome_iff_exists.1 hn0_0
  have hw0_0 := fun x hx => hw0 x (List.mem_cons_of_mem _ hx)
  have hl0_0 := fun x hx => hl0 x (List.mem_cons_of_mem _ hx)
  obtain rfl := map_nil hk0_0
  obtain rfl := fits_nil hfit0
  have hz := hsz _ _ _ _ _ rfl
  have h := law_IndexOnce a0 hz
  refine ⟨_, rfl, ?_, ?_⟩
  · simp only [ret_z6wn, S.z6wn_is, h, Option.isSome_some]
  · simp only [ret_z6wn, S.z6wn_o, h, Option.getD_some]
theorem own : ownKnob Try.prog.godebug = none := by kernel_rfl
theorem laid : laidOutB Try.prog = true := by kernel_rfl
theorem isLaw : IsLaw Rows.indexOnceSpec 1 := ⟨rfl, fun H ds hl => by
  match ds, hl with
  | [_], _ => rfl⟩
theorem reads : ∀ t ∈ Try.f7.params.toList, Try.prog.readableRec t = true ∧ t < Try.prog.types.size := by
  have h : (Try.f7.params.toList.all fun t => Try.prog.readableRec t && decide (t < Try.prog.types.size)) = true := by kernel_rfl
  intro t ht
  have := List.all_eq_true.1 h t ht
  simpa using this
theorem one_le {H : Type} (d : DataW H) : 1 ≤ Rows.uptoBulk d := by
  unfold Rows.uptoBulk
  split <;> omega
theorem len_le {H : Type} : ∀ es : List (DataW H), es.length ≤ Rows.uptoBulkAll es
  | [] => Nat.zero_le _
  | d :: r => by
    have h1 := one_le d
    have h2 := len_le r
    unfold Rows.uptoBulkAll
    simp only [List.length_cons]
    omega
theorem small {H : Type} {ds gs : List (DataW H)} (h : Rows.uptoSmall H (ds ++ gs) = true) : ∀ es sp, ds[0]? = some (DataW.slice es sp) → es.length ≤ 1048576 := by
  intro es sp h1
  cases ds with
  | nil => cases h1
  | cons d r =>
    have e : d = .slice es sp := by simpa using h1
    subst e
    unfold Rows.uptoSmall at h
    rw [decide_eq_true_eq, List.cons_append] at h
    unfold Rows.uptoBulkAll at h
    rw [Rows.uptoBulk] at h
    have := len_le es
    omega
theorem lifted (os : Os) (started : os.Started) (H : Type) (enc : TypeId × Value → H) (F0 : Stop.Interp) :
    ReturnsInHanded {} Try.checked os 7 .any ((Rows.OpenSpec.upto Rows.indexOnceSpec).pre6 enc Try.checked.prog Try.f7 Rows.indexOnceUptoRow.domain false) (((Rows.OpenSpec.upto Rows.indexOnceSpec).at F0).post enc Try.checked.prog Try.f7 false true false false) := by
  refine returnsInHanded_of_cond (C := Try.checked) (s := (Rows.OpenSpec.upto Rows.indexOnceSpec)) (k := Rows.uptoSmall) rfl own started (by kernel_rfl) (by kernel_rfl : Try.prog.funcs[7]? = some Try.f7)
    (OpenSpec.witness (enc := enc) (C := Try.checked) (s := (Rows.OpenSpec.upto Rows.indexOnceSpec)) (k := Rows.uptoSmall) rfl false ⟨#[], #[.slice none 0 0], []⟩ 8 (by kernel_rfl) (by kernel_rfl) (by kernel_rfl) (x := ([.nil], [], [])) (by kernel_rfl) (by kernel_rfl) (by kernel_rfl)) ?_
  intro W base args ds gs before hval hW _ hk _
  have hC : Try.checked.prog = Try.prog := by kernel_rfl
  rw [hC] at hval hW ⊢
  have k1 := law_callsQ (P := Try.prog) (f := 7) (fn := Try.f7) (s := Rows.indexOnceSpec) (apart := false) (fresh := true) (handsOn := false) (enc := enc) (W := W) (base := base) (args := args) (ds := ds) (gs := gs) (before := before) (n := 1) laid isLaw (by kernel_rfl) reads ⟨by kernel_rfl, by kernel_rfl, by kernel_rfl⟩ (tb := 4) (by kernel_rfl) (by kernel_rfl) z6wn_ok (ss := shapes) (by kernel_rfl) (T := 22) (ts := []) (e := 45) rfl (by kernel_rfl) (Q := fun n => n ≤ 1048576) (Nat.zero_le _) all
  generalize Try.prog = P at hval hW k1 ⊢
  exact k1 hval hW (small hk)
theorem closed : joinedFacts Try.prog 7 Try.f7 (Rows.OpenSpec.upto Rows.indexOnceSpec).bare Rows.indexOnceUptoRow = true := by
  unfold joinedFacts
  rw [ioEnter, ioFinal, ioMake]
  kernel_rfl
theorem closedP : joinedFacts Try.pinned.checked.prog 7 Try.f7 (Rows.OpenSpec.upto Rows.indexOnceSpec).bare Rows.indexOnceUptoRow = true := by
  have hP : Try.pinned.checked.prog = Try.prog := by kernel_rfl
  rw [hP]
  exact closed
theorem over : Rows.indexOnceUptoRow.holds Try.pinned (Rows.OpenSpec.upto Rows.indexOnceSpec) :=
  OpenClaim.holds_of_cond 7 Try.f7 rfl rfl rfl rfl rfl rfl rfl ⟨rfl, rfl, rfl, rfl, rfl⟩ rfl rfl rfl rfl rfl (by kernel_rfl) (by kernel_rfl) closedP
    (of_decide_eq_true (by kernel_rfl)) (by unfold Func.isWrapper; first | (rw [if_pos (by decide +kernel)]; kernel_rfl) | (rw [if_neg (by decide +kernel)]; exact ⟨rfl, rfl⟩))
    (fun os started H enc _ F0 => lifted os started H enc F0)
theorem proved : Rows.IndexOnceUptoSaid := over
#print axioms proved
end Go.Proofs.Ytbjeikmkngcjlaa.indexOnceUpto
