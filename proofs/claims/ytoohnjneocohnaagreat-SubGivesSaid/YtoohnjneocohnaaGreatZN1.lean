/- schema.Name: a loop over a string, walked. -/
import Derived.Test.YtoohnjneocohnaaGreatZE3
import Derived.Test.YtoohnjneocohnaaGreatZTab
import Derived.Laws.RangeString
import Derived.Laws.RangeAny
import Derived.Laws.Strings
import Derived.Laws.Strings2
import Derived.Laws.Strings3
import Derived.Tactics
import Derived.Tactics2
import Derived.Scope
import Derived.LoopTactic
set_option linter.unusedVariables false
set_option linter.unusedSimpArgs false
namespace Go.Eng
open Go Go.Eng Go.Proofs Go.Eng.Tab
def S.nmC (i c : Nat) : Bool := (decide (97 ≤ c) && decide (c ≤ 122)) || (decide (0 < i) && (decide (c = 95) || (decide (48 ≤ c) && decide (c ≤ 57))))
def S.nmGo (s : ByteArray) : Nat → Nat → Bool
 | 0, _ => true
 | b + 1, pos => if pos < s.size then S.nmC pos (Utf8.decode s pos).1 && S.nmGo s b (pos + (Utf8.decode s pos).2) else true
def S.nmOk (s : ByteArray) : Bool := S.nmGo s s.size 0 && (!s.toList.isEmpty && decide (s.size ≤ 12))
theorem nm_width (s : ByteArray) (pos : Nat) (h : pos < s.size) : 1 ≤ (Utf8.decode s pos).2 := by
 by_cases ha : (s[pos]'h).toNat < 128
 ·rw [decode_ascii s pos h ha]
  exact Nat.le_refl _
 ·exact (decode_high s pos h (by omega)).2
theorem nm_end (s : ByteArray) (b pos : Nat) (h : ¬ pos < s.size) : S.nmGo s b pos = true := by
 cases b with
 | zero => rfl
 | succ b => simp [S.nmGo, h]

set_option maxRecDepth 1000000 in
theorem walkName (s : ByteArray) (w : World) :
    Calls Tryz.prog 89 #[.string s] w fun e w' => e = .returned (.bool (S.nmOk s)) ∧ ∃ pos, w' = w.iter s pos := by
 go_enter Tryz.func89, Tryz.ntmps89
 go_wp2
 go_loopw [] (fun w' => ∃ (pos b : Nat), w' = w.iter s pos ∧ S.nmGo s b pos = S.nmGo s s.size 0 ∧ s.size ≤ pos + b) (fun w' => s.size - w'.iterPos w.heap.size)
 case atStart => exact ⟨0, s.size, rfl, rfl, by omega⟩
 case round =>
  obtain ⟨pos, b, rfl, hc, hb⟩ := hrel
  by_cases hp : pos < s.size
  ·have hnx : ∀ ty, (Instr.next (.pointer (some ⟨w.heap.size, 0, none⟩)) true ty).run Tryz.prog (w.iter s pos) = _ := fun ty => run_next_any w s pos ty hp
   have hwd := nm_width s pos hp
   generalize hd : Utf8.decode s pos = dc at *
   obtain ⟨c, wd⟩ := dc
   dsimp only at hnx hwd
   by_cases a1 : (97 : Int) ≤ (c : Int)
   ·by_cases a2 : (c : Int) ≤ 122
    ·go_wp2
     go_roundw
     case rel =>
      cases b with
      | zero => omega
      | succ b =>
       refine ⟨pos + wd, b, rfl, ?_, by omega⟩
       rw [← hc]
       have hC : S.nmC pos c = true := by simp [S.nmC]; omega
       simp [S.nmGo, hp, hd, hC]
     case measure =>
      simp
      omega
    ·by_cases a3 : (0 : Int) < (pos : Int)
     ·have a4 : ¬ (c : Int) = 95 := by omega
      have a5 : (48 : Int) ≤ (c : Int) := by omega
      have a6 : ¬ (c : Int) ≤ 57 := by omega
      go_wp2
      go_ret
      refine ⟨?_, _, rfl⟩
      have hf : S.nmGo s s.size 0 = false := by
       rw [← hc]
       cases b with
       | zero => omega
       | succ b =>
        have hC : S.nmC pos c = false := by simp [S.nmC]; omega
        simp [S.nmGo, hp, hd, hC]
      simp [S.nmOk, hf]
     ·go_wp2
      go_ret
      refine ⟨?_, _, rfl⟩
      have hf : S.nmGo s s.size 0 = false := by
       rw [← hc]
       cases b with
       | zero => omega
       | succ b =>
        have hC : S.nmC pos c = false := by simp [S.nmC]; omega
        simp [S.nmGo, hp, hd, hC]
      simp [S.nmOk, hf]
   ·by_cases a3 : (0 : Int) < (pos : Int)
    ·by_cases a4 : (c : Int) = 95
     ·go_wp2
      go_roundw
      case rel =>
       cases b with
       | zero => omega
       | succ b =>
        refine ⟨pos + wd, b, rfl, ?_, by omega⟩
        rw [← hc]
        have hC : S.nmC pos c = true := by simp [S.nmC]; omega
        simp [S.nmGo, hp, hd, hC]
      case measure =>
       simp
       omega
     ·by_cases a5 : (48 : Int) ≤ (c : Int)
      ·by_cases a6 : (c : Int) ≤ 57
       ·go_wp2
        go_roundw
        case rel =>
         cases b with
         | zero => omega
         | succ b =>
          refine ⟨pos + wd, b, rfl, ?_, by omega⟩
          rw [← hc]
          have hC : S.nmC pos c = true := by simp [S.nmC]; omega
          simp [S.nmGo, hp, hd, hC]
        case measure =>
         simp
         omega
       ·go_wp2
        go_ret
        refine ⟨?_, _, rfl⟩
        have hf : S.nmGo s s.size 0 = false := by
         rw [← hc]
         cases b with
         | zero => omega
         | succ b =>
          have hC : S.nmC pos c = false := by simp [S.nmC]; omega
          simp [S.nmGo, hp, hd, hC]
        simp [S.nmOk, hf]
      ·go_wp2
       go_ret
       refine ⟨?_, _, rfl⟩
       have hf : S.nmGo s s.size 0 = false := by
        rw [← hc]
        cases b with
        | zero => omega
        | succ b =>
         have hC : S.nmC pos c = false := by simp [S.nmC]; omega
         simp [S.nmGo, hp, hd, hC]
       simp [S.nmOk, hf]
    ·go_wp2
     go_ret
     refine ⟨?_, _, rfl⟩
     have hf : S.nmGo s s.size 0 = false := by
      rw [← hc]
      cases b with
      | zero => omega
      | succ b =>
       have hC : S.nmC pos c = false := by simp [S.nmC]; omega
       simp [S.nmGo, hp, hd, hC]
     simp [S.nmOk, hf]
  ·have hnx : ∀ ty, (Instr.next (.pointer (some ⟨w.heap.size, 0, none⟩)) true ty).run Tryz.prog (w.iter s pos) = _ := fun ty => run_next_end w s pos ty hp
   have ht : S.nmGo s s.size 0 = true := by rw [← hc]; exact nm_end s b pos hp
   cases e1 : s.toList.isEmpty with
   | true =>
    go_wp2
    go_ret
    refine ⟨?_, _, rfl⟩
    simp [S.nmOk, e1]
   | false =>
    by_cases e2 : (s.size : Int) ≤ 12
    ·have e4 : s.size ≤ 12 := by omega
     go_wp2
     go_ret
     refine ⟨?_, _, rfl⟩
     simp [S.nmOk, ht, e1, e4]
    ·have e4 : ¬ s.size ≤ 12 := by omega
     go_wp2
     go_ret
     refine ⟨?_, _, rfl⟩
     simp [S.nmOk, ht, e1, e4]
def g_zhh3 : Con
 | [(false, [.sc (.str s)])] => some ⟨true, none, [(false, [.d (.sc (.bool (S.nmOk s)))])]⟩
 | _ => none
theorem fn89 : FnOk Tryz.prog 89 Tryz.f89 := ⟨by kernel_rfl, by kernel_rfl, by kernel_rfl⟩
theorem zhh3_ok : Stands Tryz.prog tyTab 89 g_zhh3 := by
 intro das r hG hr ok w xs hx
 unfold g_zhh3 at hG
 split at hG
 ·rename_i s
  injection hG with hG; subst hG
  have hl : xs.length = 1 := hx.1
  match xs, hl, hx with
  | [v], _, hx =>
   obtain ⟨c, hc, hd⟩ := hx.2 0 (by simp [liftA])
   simp only [List.map_cons, List.map_nil, List.cons.injEq, and_true] at hc
   subst hc
   have hd : RD (mkCx tyTab [] [] []) ok w (.sc (.str s)) v := hd
   cases hd
   refine ⟨89, _, run_callFunc fn89 _, (walkName s w).mono fun e w' ha => ?_⟩
   obtain ⟨rfl, pos, rfl⟩ := ha
   refine ⟨_, none, rfl, (Go.RowKit.Below.refl _ _).alloc (Nat.le_refl _) _, (by intro b e; cases e), trivial, fun nm => ?_⟩
   exact ⟨_, rfl, .sc (.bool (S.nmOk s))⟩
 ·cases hG
end Go.Eng
