/- Structs of scalars are held against each other; the table is as the program has it. -/
import Derived.Test.YtnafjjkjogngjaaE33
set_option linter.unusedVariables false
set_option linter.unusedSimpArgs false
namespace Go.Eng
open Go Go.RowKit

section
variable {P : Program} {cx : Cx}

theorem isAgg_of {d : Nat} {T : TypeId} {z : List D} (h : eqT P d T z = true) (w : World) : (isAgg T).run P w = .ok (aggT P T) w ∧ (aggT P T = false → z.length = 1) := by
  cases d with
  | zero => cases h
  | succ d =>
    unfold eqT at h
    split at h
    · rename_i k k' n hu; exact ⟨by simp [isAgg, run_underlying hu, aggT, hu], fun _ => rfl⟩
    · rename_i b hu; exact ⟨by simp [isAgg, run_underlying hu, aggT, hu], fun _ => rfl⟩
    · rename_i s hu; exact ⟨by simp [isAgg, run_underlying hu, aggT, hu], fun _ => rfl⟩
    · rename_i fs hu; exact ⟨by simp [isAgg, run_underlying hu, aggT, hu], fun e => by simp [aggT, hu] at e⟩
    · cases h

theorem run_part {d : Nat} {T : TypeId} {z : List D} (h : eqT P d T z = true) {i : TypeInfo} (hi : P.info? T = some i) (hz : z.length = i.size) (X : List Sc) (off : Nat) (hl : off + i.size ≤ X.length) (w : World) :
    (part T (X.map Sc.val).toArray off).run P w = .ok (vOf P T ((X.drop off).take i.size)) w := by
  obtain ⟨h1, h2⟩ := isAgg_of h w
  unfold part
  rw [Sem.run_bind, h1]
  simp only [Result.andThen_ok]
  cases hg : aggT P T with
  | true =>
    simp only [if_true, vOf, hg, mkv]
    simp [sizeOf, typeInfo, hi, List.map_take, List.map_drop]
  | false =>
    have hs := h2 hg
    have e1 : i.size = 1 := by omega
    have hlt : off < X.length := by omega
    simp only [Bool.false_eq_true, if_false, vOf, hg, mkv, e1]
    have e2 : (X.drop off).take 1 = [X[off]] := by
      rw [List.drop_eq_getElem_cons hlt]; rfl
    rw [e2]
    simp [hlt]

theorem eqFs_ok {rec : TypeId → List D → Bool} {d D : Nat} (hrec : rec = eqT P d) (hE : ∀ T z, eqT P d T z = true → ∀ x y, kindsOk z x = true → kindsOk z y = true → ∀ w, (Op.equalIn D T (vOf P T x) (vOf P T y)).run P w = .ok (eqB x y) w) :
    ∀ (fs : List Field) (off : Nat) (z : List Eng.D) (X Y : List Sc), eqFs P rec fs off z = true → kindsOk z (X.drop off) = true → kindsOk z (Y.drop off) = true → ∀ w, (Op.eqFields D (X.map Sc.val).toArray (Y.map Sc.val).toArray fs).run P w = .ok (eqB (X.drop off) (Y.drop off)) w
  | [], off, z, X, Y, h, hx, hy, w => by
    simp only [eqFs, List.isEmpty_iff] at h
    subst h
    have h1 := kinds_len _ _ hx
    have : X.drop off = [] := List.length_eq_zero_iff.1 (by simpa using h1)
    rw [this]
    simp [Op.eqFields, eqB]
  | f :: fs, off, z, X, Y, h, hx, hy, w => by
    simp only [eqFs, Bool.and_eq_true, bne_iff_ne, beq_iff_eq] at h
    obtain ⟨⟨hn, ho⟩, h⟩ := h
    split at h
    · rename_i i hi
      simp only [Bool.and_eq_true, decide_eq_true_eq] at h
      obtain ⟨⟨⟨h1, h2⟩, h3⟩, h4⟩ := h
      rw [hrec] at h3
      have lx := kinds_len _ _ hx
      have ly := kinds_len _ _ hy
      rw [List.length_drop] at lx ly
      have px := run_part h3 hi (by rw [List.length_take]; omega) X off (by omega) w
      have py := run_part h3 hi (by rw [List.length_take]; omega) Y off (by omega) w
      obtain ⟨kx1, kx2⟩ := kinds_append z i.size _ hx
      obtain ⟨ky1, ky2⟩ := kinds_append z i.size _ hy
      have he := hE f.type _ h3 _ _ kx1 ky1 w
      rw [List.drop_drop] at kx2 ky2
      have ih := eqFs_ok hrec hE fs (off + i.size) (z.drop i.size) X Y h4 kx2 ky2 w
      have hsplit : eqB (X.drop off) (Y.drop off) = (eqB ((X.drop off).take i.size) ((Y.drop off).take i.size) && eqB (X.drop (off + i.size)) (Y.drop (off + i.size))) := by
        rw [← List.drop_drop, ← List.drop_drop, ← eqB_append _ _ _ _ (by simp only [List.length_take, List.length_drop]; omega), List.take_append_drop, List.take_append_drop]
      rw [hsplit]
      simp only [Op.eqFields, if_pos hn, Sem.run_bind, ho, px, py, he, Result.andThen_ok]
      cases eqB ((X.drop off).take i.size) ((Y.drop off).take i.size)
      · simp
      · simpa using ih
    · cases h

theorem kinds_nil {x : List Sc} (h : kindsOk [] x = true) : x = [] := by
  cases x with
  | nil => rfl
  | cons a x => cases h
theorem kinds_int {k : IntKind} {n : Int} {x : List Sc} (h : kindsOk [.sc (.int k n)] x = true) : ∃ a, x = [.int k a] := by
  cases x with
  | nil => cases h
  | cons a x =>
    cases a with
    | int k' v =>
      simp only [kindsOk, Bool.and_eq_true, decide_eq_true_eq] at h
      rw [← h.1, kinds_nil h.2]; exact ⟨v, rfl⟩
    | bool b => cases h
    | str s => cases h
theorem kinds_bool {n : Bool} {x : List Sc} (h : kindsOk [.sc (.bool n)] x = true) : ∃ a, x = [.bool a] := by
  cases x with
  | nil => cases h
  | cons a x =>
    cases a with
    | bool v =>
      simp only [kindsOk] at h
      rw [kinds_nil h]; exact ⟨v, rfl⟩
    | int k b => cases h
    | str s => cases h
theorem kinds_str {n : ByteArray} {x : List Sc} (h : kindsOk [.sc (.str n)] x = true) : ∃ a, x = [.str a] := by
  cases x with
  | nil => cases h
  | cons a x =>
    cases a with
    | str v =>
      simp only [kindsOk] at h
      rw [kinds_nil h]; exact ⟨v, rfl⟩
    | int k b => cases h
    | bool s => cases h

theorem eqT_ok : ∀ (d : Nat) (T : TypeId) (z : List D), eqT P d T z = true → ∀ E, d ≤ E → ∀ x y, kindsOk z x = true → kindsOk z y = true → ∀ w, (Op.equalIn E T (vOf P T x) (vOf P T y)).run P w = .ok (eqB x y) w
  | 0, _, _, h, _, _, _, _, _, _, _ => by cases h
  | d + 1, T, z, h, E, hE, x, y, hx, hy, w => by
    obtain ⟨E, rfl⟩ : ∃ E', E = E' + 1 := ⟨E - 1, by omega⟩
    unfold eqT at h
    split at h
    · rename_i k k' n hu
      have hag : aggT P T = false := by simp [aggT, hu]
      obtain ⟨a, rfl⟩ := kinds_int hx
      obtain ⟨b, rfl⟩ := kinds_int hy
      simp only [vOf, hag, mkv, List.map_cons, List.map_nil, Sc.val, eqB, scEq, Bool.and_true]
      exact run_equalIn_int w E T _ k a b hu
    · rename_i b0 hu
      have hag : aggT P T = false := by simp [aggT, hu]
      obtain ⟨a, rfl⟩ := kinds_bool hx
      obtain ⟨b, rfl⟩ := kinds_bool hy
      simp only [vOf, hag, mkv, List.map_cons, List.map_nil, Sc.val, eqB, scEq, Bool.and_true]
      exact run_equalIn_bool' w E T a b hu
    · rename_i s0 hu
      have hag : aggT P T = false := by simp [aggT, hu]
      obtain ⟨a, rfl⟩ := kinds_str hx
      obtain ⟨b, rfl⟩ := kinds_str hy
      simp only [vOf, hag, mkv, List.map_cons, List.map_nil, Sc.val, eqB, scEq, Bool.and_true, ← strEq]
      exact run_equalIn_string w E T a b hu
    · rename_i fs hu
      simp only [Bool.and_eq_true, Bool.not_eq_true'] at h
      have hag : aggT P T = true := by simp [aggT, hu]
      simp only [vOf, hag, mkv, if_true]
      have hf : P.fieldsOf T = fs := by simp [Program.fieldsOf, hu]
      rw [run_equalIn_struct (P := P) w E T _ _ (by rw [hf]; exact hu) h.1.1, hf]
      have := eqFs_ok (P := P) (d := d) (D := E) rfl (fun T z ht x y kx ky w => eqT_ok d T z ht E (by omega) x y kx ky w) fs.toList 0 _ x y h.2 (by simpa using hx) (by simpa using hy) w
      simpa using this
    · cases h

theorem tabC_ok {tab : List (Option TI)} (ht : cx.tt = fun T => tab.getD T none) (h : tabC P tab = true) (hm : P.follows .mixedOrders = true) : CxOk P cx := by
  have key : ∀ T i, cx.tt T = some i → tyC P cx.tt T i = true ∧ (match i.kd with
      | .struct _ => !i.zero.all D.isSc || (P.eqGuardType P.depth T == false && eqT P 8 T i.zero)
      | _ => true) = true := fun T i hi => by
    rw [ht] at hi ⊢
    have hlt : T < tab.length := by
      rcases Nat.lt_or_ge T tab.length with h1 | h1
      · exact h1
      · simp only [List.getD_eq_getElem?_getD, List.getElem?_eq_none h1] at hi; cases hi
    have := List.all_eq_true.1 h T (List.mem_range.2 hlt)
    simp only at hi
    rw [hi] at this
    simp only [Bool.and_eq_true] at this
    exact this
  refine ⟨fun T i hi => tyC_ok (key T i hi).1, fun T fs n z e hT hz => ?_, hm⟩
  have h2 := (key T _ hT).2
  simp only [hz, Bool.not_true, Bool.false_or, Bool.and_eq_true, beq_iff_eq] at h2
  refine ⟨h2.1, fun xs ys p kx ky hp w => ?_⟩
  have hty := (tyC_ok (key T _ hT).1).und
  obtain ⟨fields, hu, _⟩ := hty
  have hag : aggT P T = true := by simp [aggT, hu]
  have := eqT_ok 8 T z h2.2 10000 (by omega) xs ys kx ky w
  simp only [vOf, hag, mkv, if_true] at this
  rw [eqRowS_B z xs ys p kx ky hp]
  exact this
end
end Go.Eng
