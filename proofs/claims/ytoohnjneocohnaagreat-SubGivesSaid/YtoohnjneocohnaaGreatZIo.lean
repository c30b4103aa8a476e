/- The program's head, read word by word: by its first words alone. -/
import Derived.Test.YtoohnjneocohnaaGreatRows
import Derived.Test.YtoohnjneocohnaaGreatZE3
set_option maxRecDepth 100000
namespace Go.Proofs.YtoohnjneocohnaaGreat
open Go Go.RowKit Go.Eng
theorem ws_app : ∀ (a r : List Char), (∀ c ∈ a, c ≠ Char.ofNat 32) → wordsSigns (a ++ Char.ofNat 32 :: r) = a :: wordsSigns r
 | [], r, _ => rfl
 | c :: a, r, h => by
  have ih := ws_app a r (fun x hx => h x (List.mem_cons_of_mem _ hx))
  have hc : c ≠ Char.ofNat 32 := h c List.mem_cons_self
  show wordsSigns (c :: (a ++ Char.ofNat 32 :: r)) = _
  conv => lhs; unfold wordsSigns
  split
  ·rename_i e; cases e
  ·rename_i e; injection e with e1 e2; exact absurd e1 hc
  ·rename_i c' r' _ e
   injection e with e1 e2
   subst e1; subst e2
   rw [ih]
def ioA : List Char := (([104, 97, 114, 110, 101, 115, 115] : List Nat).map Char.ofNat)
def ioB : List Char := (([55, 53, 54, 56, 102, 50, 99, 55, 99, 102, 98, 50, 97, 102, 52, 101, 48, 99, 49, 102, 55, 99, 98, 101, 54, 97, 100, 48, 48, 101, 101, 54, 50, 53, 53, 102, 101, 97, 50, 49, 100, 55, 53, 102, 97, 48, 49, 49, 102, 97, 100, 97, 100, 102, 55, 102, 99, 99, 49, 98, 98, 101, 50, 57] : List Nat).map Char.ofNat)
def ioC : List Char := (([99, 117, 116] : List Nat).map Char.ofNat)
def ioR : List Char := (([97, 116, 32, 116, 111, 119, 110, 99, 114, 105, 101, 114, 47, 116, 111, 119, 110, 99, 114, 105, 101, 114, 108, 97, 119, 49, 53, 46, 83, 117, 98, 71, 105, 118, 101, 115] : List Nat).map Char.ofNat)
theorem ioList : Tryz.prog.initOrder.toList = (([104, 97, 114, 110, 101, 115, 115, 32, 55, 53, 54, 56, 102, 50, 99, 55, 99, 102, 98, 50, 97, 102, 52, 101, 48, 99, 49, 102, 55, 99, 98, 101, 54, 97, 100, 48, 48, 101, 101, 54, 50, 53, 53, 102, 101, 97, 50, 49, 100, 55, 53, 102, 97, 48, 49, 49, 102, 97, 100, 97, 100, 102, 55, 102, 99, 99, 49, 98, 98, 101, 50, 57, 32, 99, 117, 116, 32, 97, 116, 32, 116, 111, 119, 110, 99, 114, 105, 101, 114, 47, 116, 111, 119, 110, 99, 114, 105, 101, 114, 108, 97, 119, 49, 53, 46, 83, 117, 98, 71, 105, 118, 101, 115] : List Nat).map Char.ofNat) := String.toList_ofList
theorem ioParts : Tryz.prog.initOrder.toList = ioA ++ Char.ofNat 32 :: (ioB ++ Char.ofNat 32 :: (ioC ++ Char.ofNat 32 :: ioR)) := ioList.trans (by kernel_rfl)
theorem ioNo (l : List Char) (h : (l.all fun c => c != Char.ofNat 32) = true) : ∀ c ∈ l, c ≠ Char.ofNat 32 := fun c hc => by
 have := List.all_eq_true.1 h c hc
 simpa using this
theorem ioWords : behindMainWord (wordsSigns Tryz.prog.initOrder.toList) = ioC :: wordsSigns ioR := by
 rw [ioParts, ws_app ioA _ (ioNo _ (by kernel_rfl)), ws_app ioB _ (ioNo _ (by kernel_rfl)), ws_app ioC _ (ioNo _ (by kernel_rfl))]
 unfold behindMainWord
 dsimp only
 rw [if_pos (by kernel_rfl)]
theorem ioLater : Tryz.prog.laysLater = false := by kernel_rfl
theorem ioBears : Tryz.prog.bearsReflect = false := by kernel_rfl
theorem ioDoor : Tryz.prog.doorFits [] = true := by kernel_rfl
theorem lifts_of (P : Program) (R : List (List Char)) (h : behindMainWord (wordsSigns P.initOrder.toList) = ioC :: R) : P.headLifts = [] := by
 unfold Program.headLifts
 rw [h]
 rfl
theorem final_of (P : Program) (R : List (List Char)) (h : behindMainWord (wordsSigns P.initOrder.toList) = ioC :: R) : P.liftsFinal = false := by
 unfold Program.liftsFinal
 rw [lifts_of P R h, h]
 rfl
theorem make_of (P : Program) (R : List (List Char)) (h : behindMainWord (wordsSigns P.initOrder.toList) = ioC :: R) : P.make = some .cut := by
 unfold Program.make
 rw [h]
 rfl
theorem enter_of (P : Program) (R : List (List Char)) (h : behindMainWord (wordsSigns P.initOrder.toList) = ioC :: R) (h1 : P.laysLater = false) (h2 : P.bearsReflect = false) (h3 : P.doorFits [] = true) : P.mayEnter = true := by
 unfold Program.mayEnter
 rw [h]
 dsimp only
 have e : stripLifts liftWords (ioC :: R) = ([], ioC :: R) := rfl
 rw [e, h1, h2, h3]
 have e1 : (ioC == "gc".toList) = false := rfl
 have e2 : (ioC == "spec".toList) = false := rfl
 have e3 : (ioC == "carried".toList) = false := rfl
 rw [e1, e2, e3]
 rfl
theorem ioFinal : Tryz.prog.liftsFinal = false := final_of _ _ ioWords
theorem ioMake : Tryz.prog.make = some .cut := make_of _ _ ioWords
theorem ioEnter : Tryz.prog.mayEnter = true := enter_of _ _ ioWords ioLater ioBears ioDoor
end Go.Proofs.YtoohnjneocohnaaGreat
