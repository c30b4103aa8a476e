/-
  No cell of these rows narrows 'for every input' (looked for: loops, veiled, ifaces, maps, wideKeys, modest, calm, conditions, laid).
  DERIVED. THE GIVEN ROWS OF THIS SEAT. 12 by the template 'for every input the law returns true; each argument reads behind the call as it read before'; 0 by the template 'total and deterministic' (their statements: YtnafjjkjogngjaaTotals.lean).
  GIVEN WITH THE SEED: the statements are not yours to turn. If you find one false, say at which input.
  Laid BY PROGRAM, IN A SANDBOX (cutbox-rows.mjs): the forced cells as the released guide's own fill.sh prints them over the translation ba72b8a3f9793815… (all of the seat's roots in one cut). By AI agents, Wed Nov 11 2026. No macro, syntax, notation, axiom, sorry.
-/
import Derived.Test.YtnafjjkjogngjaaChecked
import GoSem.Claim
import GoSem.ClaimJoined
import GoSem.ClaimMapViews
import Derived.JoinedTies
import Derived.KernelRfl
namespace Go.Proofs.Ytnafjjkjogngjaa
/- THE CELL 'sum', in the pinned program and in every row, IS THE sha256 OF THE DUMP (.gsa) THAT YtnafjjkjogngjaaProg.lean LOADS. Nothing in Lean hashes anything: it is a label: what it is worth is what the hold of that sum in a sandbox is worth. -/
noncomputable def Try.pinned : Pinned := { name := "ytnafjjkjogngjaa", sum := "ba72b8a3f97938150089f8349cb2f27a5d71cb62a2bb42b857844f18850efd00", checked := Try.checked }
namespace Rows
def none {H : Type} : Left H := { results := [], args := [] }

/-- 'towncrierlaw14.RingSends': WHATEVER THE INPUT: true; the input reads as it did. -/
def ringSendsSpec : ChangeSpec := { name := "ringSends", fn := fun _ => fun
  | [d] => { results := [.lit (.bool true)], args := [d] }
  | _ => none }
def ringSendsRow : OpenClaim := { program := "ytnafjjkjogngjaa", sum := "ba72b8a3f97938150089f8349cb2f27a5d71cb62a2bb42b857844f18850efd00", func := "towncrier/towncrierlaw14.RingSends", spec := "ringSends", apart := false }
def RingSendsSaid : Prop := ringSendsRow.holds Try.pinned (OpenSpec.ofChange ringSendsSpec)

/-- ITS FALSE NEIGHBOUR: 'it returns false'. Refute it at one input. -/
def ringSendsWrong : ChangeSpec := { name := "ringSends", fn := fun _ => fun
  | [d] => { results := [.lit (.bool false)], args := [d] }
  | _ => none }
def RingSendsWrongFalsely : Prop := ringSendsRow.holds Try.pinned (OpenSpec.ofChange ringSendsWrong)

/-- 'towncrierlaw14.RingFills': WHATEVER THE INPUT: true; the input reads as it did. -/
def ringFillsSpec : ChangeSpec := { name := "ringFills", fn := fun _ => fun
  | [d] => { results := [.lit (.bool true)], args := [d] }
  | _ => none }
def ringFillsRow : OpenClaim := { program := "ytnafjjkjogngjaa", sum := "ba72b8a3f97938150089f8349cb2f27a5d71cb62a2bb42b857844f18850efd00", func := "towncrier/towncrierlaw14.RingFills", spec := "ringFills", apart := false }
def RingFillsSaid : Prop := ringFillsRow.holds Try.pinned (OpenSpec.ofChange ringFillsSpec)

/-- ITS FALSE NEIGHBOUR: 'it returns false'. Refute it at one input. -/
def ringFillsWrong : ChangeSpec := { name := "ringFills", fn := fun _ => fun
  | [d] => { results := [.lit (.bool false)], args := [d] }
  | _ => none }
def RingFillsWrongFalsely : Prop := ringFillsRow.holds Try.pinned (OpenSpec.ofChange ringFillsWrong)

/-- 'towncrierlaw14.RingTells': WHATEVER THE INPUT: true; the input reads as it did. -/
def ringTellsSpec : ChangeSpec := { name := "ringTells", fn := fun _ => fun
  | [d1, d2, d3, d4] => { results := [.lit (.bool true)], args := [d1, d2, d3, d4] }
  | _ => none }
def ringTellsRow : OpenClaim := { program := "ytnafjjkjogngjaa", sum := "ba72b8a3f97938150089f8349cb2f27a5d71cb62a2bb42b857844f18850efd00", func := "towncrier/towncrierlaw14.RingTells", spec := "ringTells", apart := false }
def RingTellsSaid : Prop := ringTellsRow.holds Try.pinned (OpenSpec.ofChange ringTellsSpec)

/-- ITS FALSE NEIGHBOUR: 'it returns false'. Refute it at one input. -/
def ringTellsWrong : ChangeSpec := { name := "ringTells", fn := fun _ => fun
  | [d1, d2, d3, d4] => { results := [.lit (.bool false)], args := [d1, d2, d3, d4] }
  | _ => none }
def RingTellsWrongFalsely : Prop := ringTellsRow.holds Try.pinned (OpenSpec.ofChange ringTellsWrong)

/-- 'towncrierlaw14.RingAcks': WHATEVER THE INPUT: true; the input reads as it did. -/
def ringAcksSpec : ChangeSpec := { name := "ringAcks", fn := fun _ => fun
  | [d1, d2] => { results := [.lit (.bool true)], args := [d1, d2] }
  | _ => none }
def ringAcksRow : OpenClaim := { program := "ytnafjjkjogngjaa", sum := "ba72b8a3f97938150089f8349cb2f27a5d71cb62a2bb42b857844f18850efd00", func := "towncrier/towncrierlaw14.RingAcks", spec := "ringAcks", apart := false }
def RingAcksSaid : Prop := ringAcksRow.holds Try.pinned (OpenSpec.ofChange ringAcksSpec)

/-- ITS FALSE NEIGHBOUR: 'it returns false'. Refute it at one input. -/
def ringAcksWrong : ChangeSpec := { name := "ringAcks", fn := fun _ => fun
  | [d1, d2] => { results := [.lit (.bool false)], args := [d1, d2] }
  | _ => none }
def RingAcksWrongFalsely : Prop := ringAcksRow.holds Try.pinned (OpenSpec.ofChange ringAcksWrong)

/-- 'towncrierlaw14.RingRoom': WHATEVER THE INPUT: true; the input reads as it did. -/
def ringRoomSpec : ChangeSpec := { name := "ringRoom", fn := fun _ => fun
  | [d1, d2] => { results := [.lit (.bool true)], args := [d1, d2] }
  | _ => none }
def ringRoomRow : OpenClaim := { program := "ytnafjjkjogngjaa", sum := "ba72b8a3f97938150089f8349cb2f27a5d71cb62a2bb42b857844f18850efd00", func := "towncrier/towncrierlaw14.RingRoom", spec := "ringRoom", apart := false }
def RingRoomSaid : Prop := ringRoomRow.holds Try.pinned (OpenSpec.ofChange ringRoomSpec)

/-- ITS FALSE NEIGHBOUR: 'it returns false'. Refute it at one input. -/
def ringRoomWrong : ChangeSpec := { name := "ringRoom", fn := fun _ => fun
  | [d1, d2] => { results := [.lit (.bool false)], args := [d1, d2] }
  | _ => none }
def RingRoomWrongFalsely : Prop := ringRoomRow.holds Try.pinned (OpenSpec.ofChange ringRoomWrong)

/-- 'towncrierlaw14.RingBack': WHATEVER THE INPUT: true; the input reads as it did. -/
def ringBackSpec : ChangeSpec := { name := "ringBack", fn := fun _ => fun
  | [d1, d2] => { results := [.lit (.bool true)], args := [d1, d2] }
  | _ => none }
def ringBackRow : OpenClaim := { program := "ytnafjjkjogngjaa", sum := "ba72b8a3f97938150089f8349cb2f27a5d71cb62a2bb42b857844f18850efd00", func := "towncrier/towncrierlaw14.RingBack", spec := "ringBack", apart := false }
def RingBackSaid : Prop := ringBackRow.holds Try.pinned (OpenSpec.ofChange ringBackSpec)

/-- ITS FALSE NEIGHBOUR: 'it returns false'. Refute it at one input. -/
def ringBackWrong : ChangeSpec := { name := "ringBack", fn := fun _ => fun
  | [d1, d2] => { results := [.lit (.bool false)], args := [d1, d2] }
  | _ => none }
def RingBackWrongFalsely : Prop := ringBackRow.holds Try.pinned (OpenSpec.ofChange ringBackWrong)

/-- 'towncrierlaw14.RingNone': WHATEVER THE INPUT: true; the input reads as it did. -/
def ringNoneSpec : ChangeSpec := { name := "ringNone", fn := fun _ => fun
  | [d1, d2, d3] => { results := [.lit (.bool true)], args := [d1, d2, d3] }
  | _ => none }
def ringNoneRow : OpenClaim := { program := "ytnafjjkjogngjaa", sum := "ba72b8a3f97938150089f8349cb2f27a5d71cb62a2bb42b857844f18850efd00", func := "towncrier/towncrierlaw14.RingNone", spec := "ringNone", apart := false }
def RingNoneSaid : Prop := ringNoneRow.holds Try.pinned (OpenSpec.ofChange ringNoneSpec)

/-- ITS FALSE NEIGHBOUR: 'it returns false'. Refute it at one input. -/
def ringNoneWrong : ChangeSpec := { name := "ringNone", fn := fun _ => fun
  | [d1, d2, d3] => { results := [.lit (.bool false)], args := [d1, d2, d3] }
  | _ => none }
def RingNoneWrongFalsely : Prop := ringNoneRow.holds Try.pinned (OpenSpec.ofChange ringNoneWrong)

/-- 'towncrierlaw16.TokenBack': WHATEVER THE INPUT: true; the input reads as it did. -/
def tokenBackSpec : ChangeSpec := { name := "tokenBack", fn := fun _ => fun
  | [d1, d2, d3, d4, d5, d6] => { results := [.lit (.bool true)], args := [d1, d2, d3, d4, d5, d6] }
  | _ => none }
def tokenBackRow : OpenClaim := { program := "ytnafjjkjogngjaa", sum := "ba72b8a3f97938150089f8349cb2f27a5d71cb62a2bb42b857844f18850efd00", func := "towncrier/towncrierlaw16.TokenBack", spec := "tokenBack", unfollowed := true, recurses := true, apart := false }
def TokenBackSaid : Prop := tokenBackRow.holds Try.pinned (OpenSpec.ofChange tokenBackSpec)

/-- ITS FALSE NEIGHBOUR: 'it returns false'. Refute it at one input. -/
def tokenBackWrong : ChangeSpec := { name := "tokenBack", fn := fun _ => fun
  | [d1, d2, d3, d4, d5, d6] => { results := [.lit (.bool false)], args := [d1, d2, d3, d4, d5, d6] }
  | _ => none }
def TokenBackWrongFalsely : Prop := tokenBackRow.holds Try.pinned (OpenSpec.ofChange tokenBackWrong)

/-- 'towncrierlaw16.TokenSweeps': WHATEVER THE INPUT: true; the input reads as it did. -/
def tokenSweepsSpec : ChangeSpec := { name := "tokenSweeps", fn := fun _ => fun
  | [d1, d2, d3] => { results := [.lit (.bool true)], args := [d1, d2, d3] }
  | _ => none }
def tokenSweepsRow : OpenClaim := { program := "ytnafjjkjogngjaa", sum := "ba72b8a3f97938150089f8349cb2f27a5d71cb62a2bb42b857844f18850efd00", func := "towncrier/towncrierlaw16.TokenSweeps", spec := "tokenSweeps", unfollowed := true, recurses := true, apart := false }
def TokenSweepsSaid : Prop := tokenSweepsRow.holds Try.pinned (OpenSpec.ofChange tokenSweepsSpec)

/-- ITS FALSE NEIGHBOUR: 'it returns false'. Refute it at one input. -/
def tokenSweepsWrong : ChangeSpec := { name := "tokenSweeps", fn := fun _ => fun
  | [d1, d2, d3] => { results := [.lit (.bool false)], args := [d1, d2, d3] }
  | _ => none }
def TokenSweepsWrongFalsely : Prop := tokenSweepsRow.holds Try.pinned (OpenSpec.ofChange tokenSweepsWrong)

/-- 'towncrierlaw16.TokenLeaves': WHATEVER THE INPUT: true; the input reads as it did. -/
def tokenLeavesSpec : ChangeSpec := { name := "tokenLeaves", fn := fun _ => fun
  | [d1, d2, d3] => { results := [.lit (.bool true)], args := [d1, d2, d3] }
  | _ => none }
def tokenLeavesRow : OpenClaim := { program := "ytnafjjkjogngjaa", sum := "ba72b8a3f97938150089f8349cb2f27a5d71cb62a2bb42b857844f18850efd00", func := "towncrier/towncrierlaw16.TokenLeaves", spec := "tokenLeaves", unfollowed := true, recurses := true, apart := false }
def TokenLeavesSaid : Prop := tokenLeavesRow.holds Try.pinned (OpenSpec.ofChange tokenLeavesSpec)

/-- ITS FALSE NEIGHBOUR: 'it returns false'. Refute it at one input. -/
def tokenLeavesWrong : ChangeSpec := { name := "tokenLeaves", fn := fun _ => fun
  | [d1, d2, d3] => { results := [.lit (.bool false)], args := [d1, d2, d3] }
  | _ => none }
def TokenLeavesWrongFalsely : Prop := tokenLeavesRow.holds Try.pinned (OpenSpec.ofChange tokenLeavesWrong)

/-- 'towncrierlaw16.TokenMay': WHATEVER THE INPUT: true; the input reads as it did. -/
def tokenMaySpec : ChangeSpec := { name := "tokenMay", fn := fun _ => fun
  | [d1, d2, d3, d4, d5] => { results := [.lit (.bool true)], args := [d1, d2, d3, d4, d5] }
  | _ => none }
def tokenMayRow : OpenClaim := { program := "ytnafjjkjogngjaa", sum := "ba72b8a3f97938150089f8349cb2f27a5d71cb62a2bb42b857844f18850efd00", func := "towncrier/towncrierlaw16.TokenMay", spec := "tokenMay", unfollowed := true, recurses := true, apart := false }
def TokenMaySaid : Prop := tokenMayRow.holds Try.pinned (OpenSpec.ofChange tokenMaySpec)

/-- ITS FALSE NEIGHBOUR: 'it returns false'. Refute it at one input. -/
def tokenMayWrong : ChangeSpec := { name := "tokenMay", fn := fun _ => fun
  | [d1, d2, d3, d4, d5] => { results := [.lit (.bool false)], args := [d1, d2, d3, d4, d5] }
  | _ => none }
def TokenMayWrongFalsely : Prop := tokenMayRow.holds Try.pinned (OpenSpec.ofChange tokenMayWrong)

/-- 'towncrierlaw16.TokenIssues': WHATEVER THE INPUT: true; the input reads as it did. -/
def tokenIssuesSpec : ChangeSpec := { name := "tokenIssues", fn := fun _ => fun
  | [d1, d2, d3, d4] => { results := [.lit (.bool true)], args := [d1, d2, d3, d4] }
  | _ => none }
def tokenIssuesRow : OpenClaim := { program := "ytnafjjkjogngjaa", sum := "ba72b8a3f97938150089f8349cb2f27a5d71cb62a2bb42b857844f18850efd00", func := "towncrier/towncrierlaw16.TokenIssues", spec := "tokenIssues", unfollowed := true, recurses := true, apart := false }
def TokenIssuesSaid : Prop := tokenIssuesRow.holds Try.pinned (OpenSpec.ofChange tokenIssuesSpec)

/-- ITS FALSE NEIGHBOUR: 'it returns false'. Refute it at one input. -/
def tokenIssuesWrong : ChangeSpec := { name := "tokenIssues", fn := fun _ => fun
  | [d1, d2, d3, d4] => { results := [.lit (.bool false)], args := [d1, d2, d3, d4] }
  | _ => none }
def TokenIssuesWrongFalsely : Prop := tokenIssuesRow.holds Try.pinned (OpenSpec.ofChange tokenIssuesWrong)

/- THE SECOND FORM. 'bulk': how many values and letters a reading holds, each counted each time it is reached (what is shared counts as often as it is met; a slice's spare places count too). A statement '..UptoSaid' is the law's where the arguments, and the package variables that the reading takes, are together of bulk at most 1048576: NARROWER than '..Said'. Prove '..Said' where nothing that the law and all that it calls make is longer than what came in: it says more and counts as full. Else prove '..UptoSaid'. A law counts once. -/
mutual
def uptoBulk {H : Type} : DataW H → Nat
  | .lit (.string bytes) => bytes.length + 1
  | .lit _ => 1
  | .nil => 1
  | .ptr d => uptoBulk d + 1
  | .slice elems spare => uptoBulkAll elems + uptoBulkAll spare + 1
  | .agg parts => uptoBulkAll parts + 1
  | .iface _ d => uptoBulk d + 1
  | .map entries => uptoBulkEntries entries + 1
  | .held _ => 1
def uptoBulkAll {H : Type} : List (DataW H) → Nat
  | [] => 0
  | d :: r => uptoBulk d + uptoBulkAll r
def uptoBulkEntries {H : Type} : List (Lit × DataW H) → Nat
  | [] => 0
  | x :: r => uptoBulkEntry x + uptoBulkEntries r
def uptoBulkEntry {H : Type} : Lit × DataW H → Nat
  | (.string bytes, d) => bytes.length + uptoBulk d + 1
  | (_, d) => uptoBulk d + 1
 end
def uptoSmall : (H : Type) → List (DataW H) → Bool := fun _ ds => decide (uptoBulkAll ds ≤ 1048576)
def OpenSpec.upto (s : _root_.Go.ChangeSpec) : _root_.Go.OpenSpec := { _root_.Go.OpenSpec.ofChange s with cond := some uptoSmall }

/-- 'towncrierlaw14.RingSends', WHERE WHAT IT READS IS OF BULK AT MOST 1048576: true; the input reads as it did. -/
def ringSendsUptoRow : OpenClaim := { program := "ytnafjjkjogngjaa", sum := "ba72b8a3f97938150089f8349cb2f27a5d71cb62a2bb42b857844f18850efd00", func := "towncrier/towncrierlaw14.RingSends", spec := "ringSends", apart := false, narrowed := true }
def RingSendsUptoSaid : Prop := ringSendsUptoRow.holds Try.pinned (OpenSpec.upto ringSendsSpec)

/-- 'towncrierlaw14.RingFills', WHERE WHAT IT READS IS OF BULK AT MOST 1048576: true; the input reads as it did. -/
def ringFillsUptoRow : OpenClaim := { program := "ytnafjjkjogngjaa", sum := "ba72b8a3f97938150089f8349cb2f27a5d71cb62a2bb42b857844f18850efd00", func := "towncrier/towncrierlaw14.RingFills", spec := "ringFills", apart := false, narrowed := true }
def RingFillsUptoSaid : Prop := ringFillsUptoRow.holds Try.pinned (OpenSpec.upto ringFillsSpec)

/-- 'towncrierlaw14.RingTells', WHERE WHAT IT READS IS OF BULK AT MOST 1048576: true; the input reads as it did. -/
def ringTellsUptoRow : OpenClaim := { program := "ytnafjjkjogngjaa", sum := "ba72b8a3f97938150089f8349cb2f27a5d71cb62a2bb42b857844f18850efd00", func := "towncrier/towncrierlaw14.RingTells", spec := "ringTells", apart := false, narrowed := true }
def RingTellsUptoSaid : Prop := ringTellsUptoRow.holds Try.pinned (OpenSpec.upto ringTellsSpec)

/-- 'towncrierlaw14.RingAcks', WHERE WHAT IT READS IS OF BULK AT MOST 1048576: true; the input reads as it did. -/
def ringAcksUptoRow : OpenClaim := { program := "ytnafjjkjogngjaa", sum := "ba72b8a3f97938150089f8349cb2f27a5d71cb62a2bb42b857844f18850efd00", func := "towncrier/towncrierlaw14.RingAcks", spec := "ringAcks", apart := false, narrowed := true }
def RingAcksUptoSaid : Prop := ringAcksUptoRow.holds Try.pinned (OpenSpec.upto ringAcksSpec)

/-- 'towncrierlaw14.RingRoom', WHERE WHAT IT READS IS OF BULK AT MOST 1048576: true; the input reads as it did. -/
def ringRoomUptoRow : OpenClaim := { program := "ytnafjjkjogngjaa", sum := "ba72b8a3f97938150089f8349cb2f27a5d71cb62a2bb42b857844f18850efd00", func := "towncrier/towncrierlaw14.RingRoom", spec := "ringRoom", apart := false, narrowed := true }
def RingRoomUptoSaid : Prop := ringRoomUptoRow.holds Try.pinned (OpenSpec.upto ringRoomSpec)

/-- 'towncrierlaw14.RingBack', WHERE WHAT IT READS IS OF BULK AT MOST 1048576: true; the input reads as it did. -/
def ringBackUptoRow : OpenClaim := { program := "ytnafjjkjogngjaa", sum := "ba72b8a3f97938150089f8349cb2f27a5d71cb62a2bb42b857844f18850efd00", func := "towncrier/towncrierlaw14.RingBack", spec := "ringBack", apart := false, narrowed := true }
def RingBackUptoSaid : Prop := ringBackUptoRow.holds Try.pinned (OpenSpec.upto ringBackSpec)

/-- 'towncrierlaw14.RingNone', WHERE WHAT IT READS IS OF BULK AT MOST 1048576: true; the input reads as it did. -/
def ringNoneUptoRow : OpenClaim := { program := "ytnafjjkjogngjaa", sum := "ba72b8a3f97938150089f8349cb2f27a5d71cb62a2bb42b857844f18850efd00", func := "towncrier/towncrierlaw14.RingNone", spec := "ringNone", apart := false, narrowed := true }
def RingNoneUptoSaid : Prop := ringNoneUptoRow.holds Try.pinned (OpenSpec.upto ringNoneSpec)

/-- 'towncrierlaw16.TokenBack', WHERE WHAT IT READS IS OF BULK AT MOST 1048576: true; the input reads as it did. -/
def tokenBackUptoRow : OpenClaim := { program := "ytnafjjkjogngjaa", sum := "ba72b8a3f97938150089f8349cb2f27a5d71cb62a2bb42b857844f18850efd00", func := "towncrier/towncrierlaw16.TokenBack", spec := "tokenBack", unfollowed := true, recurses := true, apart := false, narrowed := true }
def TokenBackUptoSaid : Prop := tokenBackUptoRow.holds Try.pinned (OpenSpec.upto tokenBackSpec)

/-- 'towncrierlaw16.TokenSweeps', WHERE WHAT IT READS IS OF BULK AT MOST 1048576: true; the input reads as it did. -/
def tokenSweepsUptoRow : OpenClaim := { program := "ytnafjjkjogngjaa", sum := "ba72b8a3f97938150089f8349cb2f27a5d71cb62a2bb42b857844f18850efd00", func := "towncrier/towncrierlaw16.TokenSweeps", spec := "tokenSweeps", unfollowed := true, recurses := true, apart := false, narrowed := true }
def TokenSweepsUptoSaid : Prop := tokenSweepsUptoRow.holds Try.pinned (OpenSpec.upto tokenSweepsSpec)

/-- 'towncrierlaw16.TokenLeaves', WHERE WHAT IT READS IS OF BULK AT MOST 1048576: true; the input reads as it did. -/
def tokenLeavesUptoRow : OpenClaim := { program := "ytnafjjkjogngjaa", sum := "ba72b8a3f97938150089f8349cb2f27a5d71cb62a2bb42b857844f18850efd00", func := "towncrier/towncrierlaw16.TokenLeaves", spec := "tokenLeaves", unfollowed := true, recurses := true, apart := false, narrowed := true }
def TokenLeavesUptoSaid : Prop := tokenLeavesUptoRow.holds Try.pinned (OpenSpec.upto tokenLeavesSpec)

/-- 'towncrierlaw16.TokenMay', WHERE WHAT IT READS IS OF BULK AT MOST 1048576: true; the input reads as it did. -/
def tokenMayUptoRow : OpenClaim := { program := "ytnafjjkjogngjaa", sum := "ba72b8a3f97938150089f8349cb2f27a5d71cb62a2bb42b857844f18850efd00", func := "towncrier/towncrierlaw16.TokenMay", spec := "tokenMay", unfollowed := true, recurses := true, apart := false, narrowed := true }
def TokenMayUptoSaid : Prop := tokenMayUptoRow.holds Try.pinned (OpenSpec.upto tokenMaySpec)

/-- 'towncrierlaw16.TokenIssues', WHERE WHAT IT READS IS OF BULK AT MOST 1048576: true; the input reads as it did. -/
def tokenIssuesUptoRow : OpenClaim := { program := "ytnafjjkjogngjaa", sum := "ba72b8a3f97938150089f8349cb2f27a5d71cb62a2bb42b857844f18850efd00", func := "towncrier/towncrierlaw16.TokenIssues", spec := "tokenIssues", unfollowed := true, recurses := true, apart := false, narrowed := true }
def TokenIssuesUptoSaid : Prop := tokenIssuesUptoRow.holds Try.pinned (OpenSpec.upto tokenIssuesSpec)

end Rows
end Go.Proofs.Ytnafjjkjogngjaa
