/-
  No cell of these rows narrows 'for every input' (looked for: loops, veiled, ifaces, maps, wideKeys, modest, calm, conditions, laid).
  DERIVED. THE GIVEN ROWS OF THIS SEAT. 30 by the template 'for every input the law returns true; each argument reads behind the call as it read before'; 0 by the template 'total and deterministic' (their statements: YtbjeikmkngcjlaaTotals.lean).
  GIVEN WITH THE SEED: the statements are not yours to turn. If you find one false, say at which input.
  Laid BY PROGRAM, IN A SANDBOX (cutbox-rows.mjs): the forced cells as the released guide's own fill.sh prints them over the translation c9be42f14c81c95b… (all of the seat's roots in one cut). By AI agents, Wed Nov 11 2026. No macro, syntax, notation, axiom, sorry.
-/
import Derived.Test.YtbjeikmkngcjlaaChecked
import GoSem.Claim
import GoSem.ClaimJoined
import GoSem.ClaimMapViews
import Derived.JoinedTies
import Derived.KernelRfl
namespace Go.Proofs.Ytbjeikmkngcjlaa
/- THE CELL 'sum', in the pinned program and in every row, IS THE sha256 OF THE DUMP (.gsa) THAT YtbjeikmkngcjlaaProg.lean LOADS. Nothing in Lean hashes anything: it is a label: what it is worth is what the hold of that sum in a sandbox is worth. -/
noncomputable def Try.pinned : Pinned := { name := "ytbjeikmkngcjlaa", sum := "c9be42f14c81c95b032e1d651c0a94321bd13d68e1cfb7f9a01fccbe6f1e91bb", checked := Try.checked }
namespace Rows
def none {H : Type} : Left H := { results := [], args := [] }

/-- 'towncrierlaw10.IndexTells': WHATEVER THE INPUT: true; the input reads as it did. -/
def indexTellsSpec : ChangeSpec := { name := "indexTells", fn := fun _ => fun
  | [d1, d2, d3, d4] => { results := [.lit (.bool true)], args := [d1, d2, d3, d4] }
  | _ => none }
def indexTellsRow : OpenClaim := { program := "ytbjeikmkngcjlaa", sum := "c9be42f14c81c95b032e1d651c0a94321bd13d68e1cfb7f9a01fccbe6f1e91bb", func := "towncrier/towncrierlaw10.IndexTells", spec := "indexTells", unfollowed := true, recurses := true, apart := false }
def IndexTellsSaid : Prop := indexTellsRow.holds Try.pinned (OpenSpec.ofChange indexTellsSpec)

/-- ITS FALSE NEIGHBOUR: 'it returns false'. Refute it at one input. -/
def indexTellsWrong : ChangeSpec := { name := "indexTells", fn := fun _ => fun
  | [d1, d2, d3, d4] => { results := [.lit (.bool false)], args := [d1, d2, d3, d4] }
  | _ => none }
def IndexTellsWrongFalsely : Prop := indexTellsRow.holds Try.pinned (OpenSpec.ofChange indexTellsWrong)

/-- 'towncrierlaw10.IndexShares': WHATEVER THE INPUT: true; the input reads as it did. -/
def indexSharesSpec : ChangeSpec := { name := "indexShares", fn := fun _ => fun
  | [d1, d2, d3, d4] => { results := [.lit (.bool true)], args := [d1, d2, d3, d4] }
  | _ => none }
def indexSharesRow : OpenClaim := { program := "ytbjeikmkngcjlaa", sum := "c9be42f14c81c95b032e1d651c0a94321bd13d68e1cfb7f9a01fccbe6f1e91bb", func := "towncrier/towncrierlaw10.IndexShares", spec := "indexShares", unfollowed := true, recurses := true, apart := false }
def IndexSharesSaid : Prop := indexSharesRow.holds Try.pinned (OpenSpec.ofChange indexSharesSpec)

/-- ITS FALSE NEIGHBOUR: 'it returns false'. Refute it at one input. -/
def indexSharesWrong : ChangeSpec := { name := "indexShares", fn := fun _ => fun
  | [d1, d2, d3, d4] => { results := [.lit (.bool false)], args := [d1, d2, d3, d4] }
  | _ => none }
def IndexSharesWrongFalsely : Prop := indexSharesRow.holds Try.pinned (OpenSpec.ofChange indexSharesWrong)

/-- 'towncrierlaw10.IndexMore': WHATEVER THE INPUT: true; the input reads as it did. -/
def indexMoreSpec : ChangeSpec := { name := "indexMore", fn := fun _ => fun
  | [d1, d2] => { results := [.lit (.bool true)], args := [d1, d2] }
  | _ => none }
def indexMoreRow : OpenClaim := { program := "ytbjeikmkngcjlaa", sum := "c9be42f14c81c95b032e1d651c0a94321bd13d68e1cfb7f9a01fccbe6f1e91bb", func := "towncrier/towncrierlaw10.IndexMore", spec := "indexMore", unfollowed := true, recurses := true, apart := false }
def IndexMoreSaid : Prop := indexMoreRow.holds Try.pinned (OpenSpec.ofChange indexMoreSpec)

/-- ITS FALSE NEIGHBOUR: 'it returns false'. Refute it at one input. -/
def indexMoreWrong : ChangeSpec := { name := "indexMore", fn := fun _ => fun
  | [d1, d2] => { results := [.lit (.bool false)], args := [d1, d2] }
  | _ => none }
def IndexMoreWrongFalsely : Prop := indexMoreRow.holds Try.pinned (OpenSpec.ofChange indexMoreWrong)

/-- 'towncrierlaw10.IndexNames': WHATEVER THE INPUT: true; the input reads as it did. -/
def indexNamesSpec : ChangeSpec := { name := "indexNames", fn := fun _ => fun
  | [d1, d2] => { results := [.lit (.bool true)], args := [d1, d2] }
  | _ => none }
def indexNamesRow : OpenClaim := { program := "ytbjeikmkngcjlaa", sum := "c9be42f14c81c95b032e1d651c0a94321bd13d68e1cfb7f9a01fccbe6f1e91bb", func := "towncrier/towncrierlaw10.IndexNames", spec := "indexNames", unfollowed := true, recurses := true, apart := false }
def IndexNamesSaid : Prop := indexNamesRow.holds Try.pinned (OpenSpec.ofChange indexNamesSpec)

/-- ITS FALSE NEIGHBOUR: 'it returns false'. Refute it at one input. -/
def indexNamesWrong : ChangeSpec := { name := "indexNames", fn := fun _ => fun
  | [d1, d2] => { results := [.lit (.bool false)], args := [d1, d2] }
  | _ => none }
def IndexNamesWrongFalsely : Prop := indexNamesRow.holds Try.pinned (OpenSpec.ofChange indexNamesWrong)

/-- 'towncrierlaw10.IndexOnce': WHATEVER THE INPUT: true; the input reads as it did. -/
def indexOnceSpec : ChangeSpec := { name := "indexOnce", fn := fun _ => fun
  | [d] => { results := [.lit (.bool true)], args := [d] }
  | _ => none }
def indexOnceRow : OpenClaim := { program := "ytbjeikmkngcjlaa", sum := "c9be42f14c81c95b032e1d651c0a94321bd13d68e1cfb7f9a01fccbe6f1e91bb", func := "towncrier/towncrierlaw10.IndexOnce", spec := "indexOnce", unfollowed := true, recurses := true, apart := false }
def IndexOnceSaid : Prop := indexOnceRow.holds Try.pinned (OpenSpec.ofChange indexOnceSpec)

/-- ITS FALSE NEIGHBOUR: 'it returns false'. Refute it at one input. -/
def indexOnceWrong : ChangeSpec := { name := "indexOnce", fn := fun _ => fun
  | [d] => { results := [.lit (.bool false)], args := [d] }
  | _ => none }
def IndexOnceWrongFalsely : Prop := indexOnceRow.holds Try.pinned (OpenSpec.ofChange indexOnceWrong)

/-- 'towncrierlaw10.IndexTold': WHATEVER THE INPUT: true; the input reads as it did. -/
def indexToldSpec : ChangeSpec := { name := "indexTold", fn := fun _ => fun
  | [d1, d2] => { results := [.lit (.bool true)], args := [d1, d2] }
  | _ => none }
def indexToldRow : OpenClaim := { program := "ytbjeikmkngcjlaa", sum := "c9be42f14c81c95b032e1d651c0a94321bd13d68e1cfb7f9a01fccbe6f1e91bb", func := "towncrier/towncrierlaw10.IndexTold", spec := "indexTold", unfollowed := true, recurses := true, apart := false }
def IndexToldSaid : Prop := indexToldRow.holds Try.pinned (OpenSpec.ofChange indexToldSpec)

/-- ITS FALSE NEIGHBOUR: 'it returns false'. Refute it at one input. -/
def indexToldWrong : ChangeSpec := { name := "indexTold", fn := fun _ => fun
  | [d1, d2] => { results := [.lit (.bool false)], args := [d1, d2] }
  | _ => none }
def IndexToldWrongFalsely : Prop := indexToldRow.holds Try.pinned (OpenSpec.ofChange indexToldWrong)

/-- 'towncrierlaw11.RunMay': WHATEVER THE INPUT: true; the input reads as it did. -/
def runMaySpec : ChangeSpec := { name := "runMay", fn := fun _ => fun
  | [d1, d2, d3, d4] => { results := [.lit (.bool true)], args := [d1, d2, d3, d4] }
  | _ => none }
def runMayRow : OpenClaim := { program := "ytbjeikmkngcjlaa", sum := "c9be42f14c81c95b032e1d651c0a94321bd13d68e1cfb7f9a01fccbe6f1e91bb", func := "towncrier/towncrierlaw11.RunMay", spec := "runMay", unfollowed := true, recurses := true, apart := false }
def RunMaySaid : Prop := runMayRow.holds Try.pinned (OpenSpec.ofChange runMaySpec)

/-- ITS FALSE NEIGHBOUR: 'it returns false'. Refute it at one input. -/
def runMayWrong : ChangeSpec := { name := "runMay", fn := fun _ => fun
  | [d1, d2, d3, d4] => { results := [.lit (.bool false)], args := [d1, d2, d3, d4] }
  | _ => none }
def RunMayWrongFalsely : Prop := runMayRow.holds Try.pinned (OpenSpec.ofChange runMayWrong)

/-- 'towncrierlaw11.RunWithin': WHATEVER THE INPUT: true; the input reads as it did. -/
def runWithinSpec : ChangeSpec := { name := "runWithin", fn := fun _ => fun
  | [d1, d2, d3] => { results := [.lit (.bool true)], args := [d1, d2, d3] }
  | _ => none }
def runWithinRow : OpenClaim := { program := "ytbjeikmkngcjlaa", sum := "c9be42f14c81c95b032e1d651c0a94321bd13d68e1cfb7f9a01fccbe6f1e91bb", func := "towncrier/towncrierlaw11.RunWithin", spec := "runWithin", unfollowed := true, recurses := true, apart := false }
def RunWithinSaid : Prop := runWithinRow.holds Try.pinned (OpenSpec.ofChange runWithinSpec)

/-- ITS FALSE NEIGHBOUR: 'it returns false'. Refute it at one input. -/
def runWithinWrong : ChangeSpec := { name := "runWithin", fn := fun _ => fun
  | [d1, d2, d3] => { results := [.lit (.bool false)], args := [d1, d2, d3] }
  | _ => none }
def RunWithinWrongFalsely : Prop := runWithinRow.holds Try.pinned (OpenSpec.ofChange runWithinWrong)

/-- 'towncrierlaw11.RunEnds': WHATEVER THE INPUT: true; the input reads as it did. -/
def runEndsSpec : ChangeSpec := { name := "runEnds", fn := fun _ => fun
  | [d1, d2] => { results := [.lit (.bool true)], args := [d1, d2] }
  | _ => none }
def runEndsRow : OpenClaim := { program := "ytbjeikmkngcjlaa", sum := "c9be42f14c81c95b032e1d651c0a94321bd13d68e1cfb7f9a01fccbe6f1e91bb", func := "towncrier/towncrierlaw11.RunEnds", spec := "runEnds", unfollowed := true, recurses := true, apart := false }
def RunEndsSaid : Prop := runEndsRow.holds Try.pinned (OpenSpec.ofChange runEndsSpec)

/-- ITS FALSE NEIGHBOUR: 'it returns false'. Refute it at one input. -/
def runEndsWrong : ChangeSpec := { name := "runEnds", fn := fun _ => fun
  | [d1, d2] => { results := [.lit (.bool false)], args := [d1, d2] }
  | _ => none }
def RunEndsWrongFalsely : Prop := runEndsRow.holds Try.pinned (OpenSpec.ofChange runEndsWrong)

/-- 'towncrierlaw11.RunGuard': WHATEVER THE INPUT: true; the input reads as it did. -/
def runGuardSpec : ChangeSpec := { name := "runGuard", fn := fun _ => fun
  | [d1, d2, d3] => { results := [.lit (.bool true)], args := [d1, d2, d3] }
  | _ => none }
def runGuardRow : OpenClaim := { program := "ytbjeikmkngcjlaa", sum := "c9be42f14c81c95b032e1d651c0a94321bd13d68e1cfb7f9a01fccbe6f1e91bb", func := "towncrier/towncrierlaw11.RunGuard", spec := "runGuard", unfollowed := true, recurses := true, apart := false }
def RunGuardSaid : Prop := runGuardRow.holds Try.pinned (OpenSpec.ofChange runGuardSpec)

/-- ITS FALSE NEIGHBOUR: 'it returns false'. Refute it at one input. -/
def runGuardWrong : ChangeSpec := { name := "runGuard", fn := fun _ => fun
  | [d1, d2, d3] => { results := [.lit (.bool false)], args := [d1, d2, d3] }
  | _ => none }
def RunGuardWrongFalsely : Prop := runGuardRow.holds Try.pinned (OpenSpec.ofChange runGuardWrong)

/-- 'towncrierlaw11.RunCounts': WHATEVER THE INPUT: true; the input reads as it did. -/
def runCountsSpec : ChangeSpec := { name := "runCounts", fn := fun _ => fun
  | [d] => { results := [.lit (.bool true)], args := [d] }
  | _ => none }
def runCountsRow : OpenClaim := { program := "ytbjeikmkngcjlaa", sum := "c9be42f14c81c95b032e1d651c0a94321bd13d68e1cfb7f9a01fccbe6f1e91bb", func := "towncrier/towncrierlaw11.RunCounts", spec := "runCounts", unfollowed := true, recurses := true, apart := false }
def RunCountsSaid : Prop := runCountsRow.holds Try.pinned (OpenSpec.ofChange runCountsSpec)

/-- ITS FALSE NEIGHBOUR: 'it returns false'. Refute it at one input. -/
def runCountsWrong : ChangeSpec := { name := "runCounts", fn := fun _ => fun
  | [d] => { results := [.lit (.bool false)], args := [d] }
  | _ => none }
def RunCountsWrongFalsely : Prop := runCountsRow.holds Try.pinned (OpenSpec.ofChange runCountsWrong)

/-- 'towncrierlaw11.RunTwice': WHATEVER THE INPUT: true; the input reads as it did. -/
def runTwiceSpec : ChangeSpec := { name := "runTwice", fn := fun _ => fun
  | [d1, d2, d3] => { results := [.lit (.bool true)], args := [d1, d2, d3] }
  | _ => none }
def runTwiceRow : OpenClaim := { program := "ytbjeikmkngcjlaa", sum := "c9be42f14c81c95b032e1d651c0a94321bd13d68e1cfb7f9a01fccbe6f1e91bb", func := "towncrier/towncrierlaw11.RunTwice", spec := "runTwice", unfollowed := true, recurses := true, apart := false }
def RunTwiceSaid : Prop := runTwiceRow.holds Try.pinned (OpenSpec.ofChange runTwiceSpec)

/-- ITS FALSE NEIGHBOUR: 'it returns false'. Refute it at one input. -/
def runTwiceWrong : ChangeSpec := { name := "runTwice", fn := fun _ => fun
  | [d1, d2, d3] => { results := [.lit (.bool false)], args := [d1, d2, d3] }
  | _ => none }
def RunTwiceWrongFalsely : Prop := runTwiceRow.holds Try.pinned (OpenSpec.ofChange runTwiceWrong)

/-- 'towncrierlaw13.MatchRoom': WHATEVER THE INPUT: true; the input reads as it did. -/
def matchRoomSpec : ChangeSpec := { name := "matchRoom", fn := fun _ => fun
  | [d1, d2, d3, d4] => { results := [.lit (.bool true)], args := [d1, d2, d3, d4] }
  | _ => none }
def matchRoomRow : OpenClaim := { program := "ytbjeikmkngcjlaa", sum := "c9be42f14c81c95b032e1d651c0a94321bd13d68e1cfb7f9a01fccbe6f1e91bb", func := "towncrier/towncrierlaw13.MatchRoom", spec := "matchRoom", unfollowed := true, recurses := true, apart := false }
def MatchRoomSaid : Prop := matchRoomRow.holds Try.pinned (OpenSpec.ofChange matchRoomSpec)

/-- ITS FALSE NEIGHBOUR: 'it returns false'. Refute it at one input. -/
def matchRoomWrong : ChangeSpec := { name := "matchRoom", fn := fun _ => fun
  | [d1, d2, d3, d4] => { results := [.lit (.bool false)], args := [d1, d2, d3, d4] }
  | _ => none }
def MatchRoomWrongFalsely : Prop := matchRoomRow.holds Try.pinned (OpenSpec.ofChange matchRoomWrong)

/-- 'towncrierlaw13.MatchOrder': WHATEVER THE INPUT: true; the input reads as it did. -/
def matchOrderSpec : ChangeSpec := { name := "matchOrder", fn := fun _ => fun
  | [d1, d2] => { results := [.lit (.bool true)], args := [d1, d2] }
  | _ => none }
def matchOrderRow : OpenClaim := { program := "ytbjeikmkngcjlaa", sum := "c9be42f14c81c95b032e1d651c0a94321bd13d68e1cfb7f9a01fccbe6f1e91bb", func := "towncrier/towncrierlaw13.MatchOrder", spec := "matchOrder", unfollowed := true, recurses := true, apart := false }
def MatchOrderSaid : Prop := matchOrderRow.holds Try.pinned (OpenSpec.ofChange matchOrderSpec)

/-- ITS FALSE NEIGHBOUR: 'it returns false'. Refute it at one input. -/
def matchOrderWrong : ChangeSpec := { name := "matchOrder", fn := fun _ => fun
  | [d1, d2] => { results := [.lit (.bool false)], args := [d1, d2] }
  | _ => none }
def MatchOrderWrongFalsely : Prop := matchOrderRow.holds Try.pinned (OpenSpec.ofChange matchOrderWrong)

/-- 'towncrierlaw13.MatchParts': WHATEVER THE INPUT: true; the input reads as it did. -/
def matchPartsSpec : ChangeSpec := { name := "matchParts", fn := fun _ => fun
  | [d1, d2, d3] => { results := [.lit (.bool true)], args := [d1, d2, d3] }
  | _ => none }
def matchPartsRow : OpenClaim := { program := "ytbjeikmkngcjlaa", sum := "c9be42f14c81c95b032e1d651c0a94321bd13d68e1cfb7f9a01fccbe6f1e91bb", func := "towncrier/towncrierlaw13.MatchParts", spec := "matchParts", unfollowed := true, recurses := true, apart := false }
def MatchPartsSaid : Prop := matchPartsRow.holds Try.pinned (OpenSpec.ofChange matchPartsSpec)

/-- ITS FALSE NEIGHBOUR: 'it returns false'. Refute it at one input. -/
def matchPartsWrong : ChangeSpec := { name := "matchParts", fn := fun _ => fun
  | [d1, d2, d3] => { results := [.lit (.bool false)], args := [d1, d2, d3] }
  | _ => none }
def MatchPartsWrongFalsely : Prop := matchPartsRow.holds Try.pinned (OpenSpec.ofChange matchPartsWrong)

/-- 'towncrierlaw13.MatchOther': WHATEVER THE INPUT: true; the input reads as it did. -/
def matchOtherSpec : ChangeSpec := { name := "matchOther", fn := fun _ => fun
  | [d1, d2, d3] => { results := [.lit (.bool true)], args := [d1, d2, d3] }
  | _ => none }
def matchOtherRow : OpenClaim := { program := "ytbjeikmkngcjlaa", sum := "c9be42f14c81c95b032e1d651c0a94321bd13d68e1cfb7f9a01fccbe6f1e91bb", func := "towncrier/towncrierlaw13.MatchOther", spec := "matchOther", unfollowed := true, recurses := true, apart := false }
def MatchOtherSaid : Prop := matchOtherRow.holds Try.pinned (OpenSpec.ofChange matchOtherSpec)

/-- ITS FALSE NEIGHBOUR: 'it returns false'. Refute it at one input. -/
def matchOtherWrong : ChangeSpec := { name := "matchOther", fn := fun _ => fun
  | [d1, d2, d3] => { results := [.lit (.bool false)], args := [d1, d2, d3] }
  | _ => none }
def MatchOtherWrongFalsely : Prop := matchOtherRow.holds Try.pinned (OpenSpec.ofChange matchOtherWrong)

/-- 'towncrierlaw13.MatchSpans': WHATEVER THE INPUT: true; the input reads as it did. -/
def matchSpansSpec : ChangeSpec := { name := "matchSpans", fn := fun _ => fun
  | [d1, d2] => { results := [.lit (.bool true)], args := [d1, d2] }
  | _ => none }
def matchSpansRow : OpenClaim := { program := "ytbjeikmkngcjlaa", sum := "c9be42f14c81c95b032e1d651c0a94321bd13d68e1cfb7f9a01fccbe6f1e91bb", func := "towncrier/towncrierlaw13.MatchSpans", spec := "matchSpans", unfollowed := true, recurses := true, apart := false }
def MatchSpansSaid : Prop := matchSpansRow.holds Try.pinned (OpenSpec.ofChange matchSpansSpec)

/-- ITS FALSE NEIGHBOUR: 'it returns false'. Refute it at one input. -/
def matchSpansWrong : ChangeSpec := { name := "matchSpans", fn := fun _ => fun
  | [d1, d2] => { results := [.lit (.bool false)], args := [d1, d2] }
  | _ => none }
def MatchSpansWrongFalsely : Prop := matchSpansRow.holds Try.pinned (OpenSpec.ofChange matchSpansWrong)

/-- 'towncrierlaw15.SubEvicts': WHATEVER THE INPUT: true; the input reads as it did. -/
def subEvictsSpec : ChangeSpec := { name := "subEvicts", fn := fun _ => fun
  | [d1, d2, d3] => { results := [.lit (.bool true)], args := [d1, d2, d3] }
  | _ => none }
def subEvictsRow : OpenClaim := { program := "ytbjeikmkngcjlaa", sum := "c9be42f14c81c95b032e1d651c0a94321bd13d68e1cfb7f9a01fccbe6f1e91bb", func := "towncrier/towncrierlaw15.SubEvicts", spec := "subEvicts", unfollowed := true, recurses := true, apart := false }
def SubEvictsSaid : Prop := subEvictsRow.holds Try.pinned (OpenSpec.ofChange subEvictsSpec)

/-- ITS FALSE NEIGHBOUR: 'it returns false'. Refute it at one input. -/
def subEvictsWrong : ChangeSpec := { name := "subEvicts", fn := fun _ => fun
  | [d1, d2, d3] => { results := [.lit (.bool false)], args := [d1, d2, d3] }
  | _ => none }
def SubEvictsWrongFalsely : Prop := subEvictsRow.holds Try.pinned (OpenSpec.ofChange subEvictsWrong)

/-- 'towncrierlaw15.SubOver': WHATEVER THE INPUT: true; the input reads as it did. -/
def subOverSpec : ChangeSpec := { name := "subOver", fn := fun _ => fun
  | [d1, d2, d3] => { results := [.lit (.bool true)], args := [d1, d2, d3] }
  | _ => none }
def subOverRow : OpenClaim := { program := "ytbjeikmkngcjlaa", sum := "c9be42f14c81c95b032e1d651c0a94321bd13d68e1cfb7f9a01fccbe6f1e91bb", func := "towncrier/towncrierlaw15.SubOver", spec := "subOver", unfollowed := true, recurses := true, apart := false }
def SubOverSaid : Prop := subOverRow.holds Try.pinned (OpenSpec.ofChange subOverSpec)

/-- ITS FALSE NEIGHBOUR: 'it returns false'. Refute it at one input. -/
def subOverWrong : ChangeSpec := { name := "subOver", fn := fun _ => fun
  | [d1, d2, d3] => { results := [.lit (.bool false)], args := [d1, d2, d3] }
  | _ => none }
def SubOverWrongFalsely : Prop := subOverRow.holds Try.pinned (OpenSpec.ofChange subOverWrong)

/-- 'towncrierlaw15.SubAnew': WHATEVER THE INPUT: true; the input reads as it did. -/
def subAnewSpec : ChangeSpec := { name := "subAnew", fn := fun _ => fun
  | [d1, d2] => { results := [.lit (.bool true)], args := [d1, d2] }
  | _ => none }
def subAnewRow : OpenClaim := { program := "ytbjeikmkngcjlaa", sum := "c9be42f14c81c95b032e1d651c0a94321bd13d68e1cfb7f9a01fccbe6f1e91bb", func := "towncrier/towncrierlaw15.SubAnew", spec := "subAnew", unfollowed := true, recurses := true, apart := false }
def SubAnewSaid : Prop := subAnewRow.holds Try.pinned (OpenSpec.ofChange subAnewSpec)

/-- ITS FALSE NEIGHBOUR: 'it returns false'. Refute it at one input. -/
def subAnewWrong : ChangeSpec := { name := "subAnew", fn := fun _ => fun
  | [d1, d2] => { results := [.lit (.bool false)], args := [d1, d2] }
  | _ => none }
def SubAnewWrongFalsely : Prop := subAnewRow.holds Try.pinned (OpenSpec.ofChange subAnewWrong)

/-- 'towncrierlaw15.SubHolds': WHATEVER THE INPUT: true; the input reads as it did. -/
def subHoldsSpec : ChangeSpec := { name := "subHolds", fn := fun _ => fun
  | [d1, d2, d3, d4] => { results := [.lit (.bool true)], args := [d1, d2, d3, d4] }
  | _ => none }
def subHoldsRow : OpenClaim := { program := "ytbjeikmkngcjlaa", sum := "c9be42f14c81c95b032e1d651c0a94321bd13d68e1cfb7f9a01fccbe6f1e91bb", func := "towncrier/towncrierlaw15.SubHolds", spec := "subHolds", unfollowed := true, recurses := true, apart := false }
def SubHoldsSaid : Prop := subHoldsRow.holds Try.pinned (OpenSpec.ofChange subHoldsSpec)

/-- ITS FALSE NEIGHBOUR: 'it returns false'. Refute it at one input. -/
def subHoldsWrong : ChangeSpec := { name := "subHolds", fn := fun _ => fun
  | [d1, d2, d3, d4] => { results := [.lit (.bool false)], args := [d1, d2, d3, d4] }
  | _ => none }
def SubHoldsWrongFalsely : Prop := subHoldsRow.holds Try.pinned (OpenSpec.ofChange subHoldsWrong)

/-- 'towncrierlaw12.ModelLater': WHATEVER THE INPUT: true; the input reads as it did. -/
def modelLaterSpec : ChangeSpec := { name := "modelLater", fn := fun _ => fun
  | [d1, d2, d3, d4] => { results := [.lit (.bool true)], args := [d1, d2, d3, d4] }
  | _ => none }
def modelLaterRow : OpenClaim := { program := "ytbjeikmkngcjlaa", sum := "c9be42f14c81c95b032e1d651c0a94321bd13d68e1cfb7f9a01fccbe6f1e91bb", func := "towncrier/towncrierlaw12.ModelLater", spec := "modelLater", unfollowed := true, recurses := true, apart := false }
def ModelLaterSaid : Prop := modelLaterRow.holds Try.pinned (OpenSpec.ofChange modelLaterSpec)

/-- ITS FALSE NEIGHBOUR: 'it returns false'. Refute it at one input. -/
def modelLaterWrong : ChangeSpec := { name := "modelLater", fn := fun _ => fun
  | [d1, d2, d3, d4] => { results := [.lit (.bool false)], args := [d1, d2, d3, d4] }
  | _ => none }
def ModelLaterWrongFalsely : Prop := modelLaterRow.holds Try.pinned (OpenSpec.ofChange modelLaterWrong)

/-- 'towncrierlaw12.ModelOrder': WHATEVER THE INPUT: true; the input reads as it did. -/
def modelOrderSpec : ChangeSpec := { name := "modelOrder", fn := fun _ => fun
  | [d1, d2, d3, d4] => { results := [.lit (.bool true)], args := [d1, d2, d3, d4] }
  | _ => none }
def modelOrderRow : OpenClaim := { program := "ytbjeikmkngcjlaa", sum := "c9be42f14c81c95b032e1d651c0a94321bd13d68e1cfb7f9a01fccbe6f1e91bb", func := "towncrier/towncrierlaw12.ModelOrder", spec := "modelOrder", unfollowed := true, recurses := true, apart := false }
def ModelOrderSaid : Prop := modelOrderRow.holds Try.pinned (OpenSpec.ofChange modelOrderSpec)

/-- ITS FALSE NEIGHBOUR: 'it returns false'. Refute it at one input. -/
def modelOrderWrong : ChangeSpec := { name := "modelOrder", fn := fun _ => fun
  | [d1, d2, d3, d4] => { results := [.lit (.bool false)], args := [d1, d2, d3, d4] }
  | _ => none }
def ModelOrderWrongFalsely : Prop := modelOrderRow.holds Try.pinned (OpenSpec.ofChange modelOrderWrong)

/-- 'towncrierlaw12.ModelLone': WHATEVER THE INPUT: true; the input reads as it did. -/
def modelLoneSpec : ChangeSpec := { name := "modelLone", fn := fun _ => fun
  | [d1, d2, d3] => { results := [.lit (.bool true)], args := [d1, d2, d3] }
  | _ => none }
def modelLoneRow : OpenClaim := { program := "ytbjeikmkngcjlaa", sum := "c9be42f14c81c95b032e1d651c0a94321bd13d68e1cfb7f9a01fccbe6f1e91bb", func := "towncrier/towncrierlaw12.ModelLone", spec := "modelLone", unfollowed := true, recurses := true, apart := false }
def ModelLoneSaid : Prop := modelLoneRow.holds Try.pinned (OpenSpec.ofChange modelLoneSpec)

/-- ITS FALSE NEIGHBOUR: 'it returns false'. Refute it at one input. -/
def modelLoneWrong : ChangeSpec := { name := "modelLone", fn := fun _ => fun
  | [d1, d2, d3] => { results := [.lit (.bool false)], args := [d1, d2, d3] }
  | _ => none }
def ModelLoneWrongFalsely : Prop := modelLoneRow.holds Try.pinned (OpenSpec.ofChange modelLoneWrong)

/-- 'towncrierlaw12.ModelEach': WHATEVER THE INPUT: true; the input reads as it did. -/
def modelEachSpec : ChangeSpec := { name := "modelEach", fn := fun _ => fun
  | [d1, d2, d3] => { results := [.lit (.bool true)], args := [d1, d2, d3] }
  | _ => none }
def modelEachRow : OpenClaim := { program := "ytbjeikmkngcjlaa", sum := "c9be42f14c81c95b032e1d651c0a94321bd13d68e1cfb7f9a01fccbe6f1e91bb", func := "towncrier/towncrierlaw12.ModelEach", spec := "modelEach", unfollowed := true, recurses := true, apart := false }
def ModelEachSaid : Prop := modelEachRow.holds Try.pinned (OpenSpec.ofChange modelEachSpec)

/-- ITS FALSE NEIGHBOUR: 'it returns false'. Refute it at one input. -/
def modelEachWrong : ChangeSpec := { name := "modelEach", fn := fun _ => fun
  | [d1, d2, d3] => { results := [.lit (.bool false)], args := [d1, d2, d3] }
  | _ => none }
def ModelEachWrongFalsely : Prop := modelEachRow.holds Try.pinned (OpenSpec.ofChange modelEachWrong)

/-- 'towncrierlaw12.ModelAhead': WHATEVER THE INPUT: true; the input reads as it did. -/
def modelAheadSpec : ChangeSpec := { name := "modelAhead", fn := fun _ => fun
  | [d1, d2, d3] => { results := [.lit (.bool true)], args := [d1, d2, d3] }
  | _ => none }
def modelAheadRow : OpenClaim := { program := "ytbjeikmkngcjlaa", sum := "c9be42f14c81c95b032e1d651c0a94321bd13d68e1cfb7f9a01fccbe6f1e91bb", func := "towncrier/towncrierlaw12.ModelAhead", spec := "modelAhead", unfollowed := true, recurses := true, apart := false }
def ModelAheadSaid : Prop := modelAheadRow.holds Try.pinned (OpenSpec.ofChange modelAheadSpec)

/-- ITS FALSE NEIGHBOUR: 'it returns false'. Refute it at one input. -/
def modelAheadWrong : ChangeSpec := { name := "modelAhead", fn := fun _ => fun
  | [d1, d2, d3] => { results := [.lit (.bool false)], args := [d1, d2, d3] }
  | _ => none }
def ModelAheadWrongFalsely : Prop := modelAheadRow.holds Try.pinned (OpenSpec.ofChange modelAheadWrong)

/-- 'towncrierlaw12.ModelRoom': WHATEVER THE INPUT: true; the input reads as it did. -/
def modelRoomSpec : ChangeSpec := { name := "modelRoom", fn := fun _ => fun
  | [d1, d2] => { results := [.lit (.bool true)], args := [d1, d2] }
  | _ => none }
def modelRoomRow : OpenClaim := { program := "ytbjeikmkngcjlaa", sum := "c9be42f14c81c95b032e1d651c0a94321bd13d68e1cfb7f9a01fccbe6f1e91bb", func := "towncrier/towncrierlaw12.ModelRoom", spec := "modelRoom", unfollowed := true, recurses := true, apart := false }
def ModelRoomSaid : Prop := modelRoomRow.holds Try.pinned (OpenSpec.ofChange modelRoomSpec)

/-- ITS FALSE NEIGHBOUR: 'it returns false'. Refute it at one input. -/
def modelRoomWrong : ChangeSpec := { name := "modelRoom", fn := fun _ => fun
  | [d1, d2] => { results := [.lit (.bool false)], args := [d1, d2] }
  | _ => none }
def ModelRoomWrongFalsely : Prop := modelRoomRow.holds Try.pinned (OpenSpec.ofChange modelRoomWrong)

/-- 'towncrierlaw15.SubNew': WHATEVER THE INPUT: true; the input reads as it did. -/
def subNewSpec : ChangeSpec := { name := "subNew", fn := fun _ => fun
  | [d1, d2, d3, d4] => { results := [.lit (.bool true)], args := [d1, d2, d3, d4] }
  | _ => none }
def subNewRow : OpenClaim := { program := "ytbjeikmkngcjlaa", sum := "c9be42f14c81c95b032e1d651c0a94321bd13d68e1cfb7f9a01fccbe6f1e91bb", func := "towncrier/towncrierlaw15.SubNew", spec := "subNew", unfollowed := true, recurses := true, apart := false }
def SubNewSaid : Prop := subNewRow.holds Try.pinned (OpenSpec.ofChange subNewSpec)

/-- ITS FALSE NEIGHBOUR: 'it returns false'. Refute it at one input. -/
def subNewWrong : ChangeSpec := { name := "subNew", fn := fun _ => fun
  | [d1, d2, d3, d4] => { results := [.lit (.bool false)], args := [d1, d2, d3, d4] }
  | _ => none }
def SubNewWrongFalsely : Prop := subNewRow.holds Try.pinned (OpenSpec.ofChange subNewWrong)

/-- 'towncrierlaw15.SubMay': WHATEVER THE INPUT: true; the input reads as it did. -/
def subMaySpec : ChangeSpec := { name := "subMay", fn := fun _ => fun
  | [d1, d2, d3, d4] => { results := [.lit (.bool true)], args := [d1, d2, d3, d4] }
  | _ => none }
def subMayRow : OpenClaim := { program := "ytbjeikmkngcjlaa", sum := "c9be42f14c81c95b032e1d651c0a94321bd13d68e1cfb7f9a01fccbe6f1e91bb", func := "towncrier/towncrierlaw15.SubMay", spec := "subMay", unfollowed := true, recurses := true, apart := false }
def SubMaySaid : Prop := subMayRow.holds Try.pinned (OpenSpec.ofChange subMaySpec)

/-- ITS FALSE NEIGHBOUR: 'it returns false'. Refute it at one input. -/
def subMayWrong : ChangeSpec := { name := "subMay", fn := fun _ => fun
  | [d1, d2, d3, d4] => { results := [.lit (.bool false)], args := [d1, d2, d3, d4] }
  | _ => none }
def SubMayWrongFalsely : Prop := subMayRow.holds Try.pinned (OpenSpec.ofChange subMayWrong)

/-- 'towncrierlaw13.MatchModel': WHATEVER THE INPUT: true; the input reads as it did. -/
def matchModelSpec : ChangeSpec := { name := "matchModel", fn := fun _ => fun
  | [d1, d2] => { results := [.lit (.bool true)], args := [d1, d2] }
  | _ => none }
def matchModelRow : OpenClaim := { program := "ytbjeikmkngcjlaa", sum := "c9be42f14c81c95b032e1d651c0a94321bd13d68e1cfb7f9a01fccbe6f1e91bb", func := "towncrier/towncrierlaw13.MatchModel", spec := "matchModel", unfollowed := true, recurses := true, apart := false }
def MatchModelSaid : Prop := matchModelRow.holds Try.pinned (OpenSpec.ofChange matchModelSpec)

/-- ITS FALSE NEIGHBOUR: 'it returns false'. Refute it at one input. -/
def matchModelWrong : ChangeSpec := { name := "matchModel", fn := fun _ => fun
  | [d1, d2] => { results := [.lit (.bool false)], args := [d1, d2] }
  | _ => none }
def MatchModelWrongFalsely : Prop := matchModelRow.holds Try.pinned (OpenSpec.ofChange matchModelWrong)

/- THE SECOND FORM. 'bulk': how many values and letters a reading holds, each counted each time it is reached (what is shared counts as often as it is met; a slice's spare places count too). A statement '..UptoSaid' is the law's where the arguments, and the package variables that the reading takes, are together of bulk at most 1048576: NARROWER than '..Said'. Prove '..Said' where nothing that the law and all that it calls make is longer than what came in: it says more and counts as full. Else prove '..UptoSaid'. A law counts once. -/
mutual
def uptoBulk {H : Type} : DataW H → Nat
  | .lit (.string bytes) => bytes.length + 1
  | .lit _ => 1
  | .nil => 1
  | .ptr d => uptoBulk d + 1
  | .slice elems spare => uptoBulkAll elems + uptoBulkAll spare + 1
  | .agg parts => uptoBulkAll parts + 1
  | .iface _ d => uptoBulk d + 1
  | .map entries => uptoBulkEntries entries + 1
  | .held _ => 1
def uptoBulkAll {H : Type} : List (DataW H) → Nat
  | [] => 0
  | d :: r => uptoBulk d + uptoBulkAll r
def uptoBulkEntries {H : Type} : List (Lit × DataW H) → Nat
  | [] => 0
  | x :: r => uptoBulkEntry x + uptoBulkEntries r
def uptoBulkEntry {H : Type} : Lit × DataW H → Nat
  | (.string bytes, d) => bytes.length + uptoBulk d + 1
  | (_, d) => uptoBulk d + 1
 end
def uptoSmall : (H : Type) → List (DataW H) → Bool := fun _ ds => decide (uptoBulkAll ds ≤ 1048576)
def OpenSpec.upto (s : _root_.Go.ChangeSpec) : _root_.Go.OpenSpec := { _root_.Go.OpenSpec.ofChange s with cond := some uptoSmall }

/-- 'towncrierlaw10.IndexTells', WHERE WHAT IT READS IS OF BULK AT MOST 1048576: true; the input reads as it did. -/
def indexTellsUptoRow : OpenClaim := { program := "ytbjeikmkngcjlaa", sum := "c9be42f14c81c95b032e1d651c0a94321bd13d68e1cfb7f9a01fccbe6f1e91bb", func := "towncrier/towncrierlaw10.IndexTells", spec := "indexTells", unfollowed := true, recurses := true, apart := false, narrowed := true }
def IndexTellsUptoSaid : Prop := indexTellsUptoRow.holds Try.pinned (OpenSpec.upto indexTellsSpec)

/-- 'towncrierlaw10.IndexShares', WHERE WHAT IT READS IS OF BULK AT MOST 1048576: true; the input reads as it did. -/
def indexSharesUptoRow : OpenClaim := { program := "ytbjeikmkngcjlaa", sum := "c9be42f14c81c95b032e1d651c0a94321bd13d68e1cfb7f9a01fccbe6f1e91bb", func := "towncrier/towncrierlaw10.IndexShares", spec := "indexShares", unfollowed := true, recurses := true, apart := false, narrowed := true }
def IndexSharesUptoSaid : Prop := indexSharesUptoRow.holds Try.pinned (OpenSpec.upto indexSharesSpec)

/-- 'towncrierlaw10.IndexMore', WHERE WHAT IT READS IS OF BULK AT MOST 1048576: true; the input reads as it did. -/
def indexMoreUptoRow : OpenClaim := { program := "ytbjeikmkngcjlaa", sum := "c9be42f14c81c95b032e1d651c0a94321bd13d68e1cfb7f9a01fccbe6f1e91bb", func := "towncrier/towncrierlaw10.IndexMore", spec := "indexMore", unfollowed := true, recurses := true, apart := false, narrowed := true }
def IndexMoreUptoSaid : Prop := indexMoreUptoRow.holds Try.pinned (OpenSpec.upto indexMoreSpec)

/-- 'towncrierlaw10.IndexNames', WHERE WHAT IT READS IS OF BULK AT MOST 1048576: true; the input reads as it did. -/
def indexNamesUptoRow : OpenClaim := { program := "ytbjeikmkngcjlaa", sum := "c9be42f14c81c95b032e1d651c0a94321bd13d68e1cfb7f9a01fccbe6f1e91bb", func := "towncrier/towncrierlaw10.IndexNames", spec := "indexNames", unfollowed := true, recurses := true, apart := false, narrowed := true }
def IndexNamesUptoSaid : Prop := indexNamesUptoRow.holds Try.pinned (OpenSpec.upto indexNamesSpec)

/-- 'towncrierlaw10.IndexOnce', WHERE WHAT IT READS IS OF BULK AT MOST 1048576: true; the input reads as it did. -/
def indexOnceUptoRow : OpenClaim := { program := "ytbjeikmkngcjlaa", sum := "c9be42f14c81c95b032e1d651c0a94321bd13d68e1cfb7f9a01fccbe6f1e91bb", func := "towncrier/towncrierlaw10.IndexOnce", spec := "indexOnce", unfollowed := true, recurses := true, apart := false, narrowed := true }
def IndexOnceUptoSaid : Prop := indexOnceUptoRow.holds Try.pinned (OpenSpec.upto indexOnceSpec)

/-- 'towncrierlaw10.IndexTold', WHERE WHAT IT READS IS OF BULK AT MOST 1048576: true; the input reads as it did. -/
def indexToldUptoRow : OpenClaim := { program := "ytbjeikmkngcjlaa", sum := "c9be42f14c81c95b032e1d651c0a94321bd13d68e1cfb7f9a01fccbe6f1e91bb", func := "towncrier/towncrierlaw10.IndexTold", spec := "indexTold", unfollowed := true, recurses := true, apart := false, narrowed := true }
def IndexToldUptoSaid : Prop := indexToldUptoRow.holds Try.pinned (OpenSpec.upto indexToldSpec)

/-- 'towncrierlaw11.RunMay', WHERE WHAT IT READS IS OF BULK AT MOST 1048576: true; the input reads as it did. -/
def runMayUptoRow : OpenClaim := { program := "ytbjeikmkngcjlaa", sum := "c9be42f14c81c95b032e1d651c0a94321bd13d68e1cfb7f9a01fccbe6f1e91bb", func := "towncrier/towncrierlaw11.RunMay", spec := "runMay", unfollowed := true, recurses := true, apart := false, narrowed := true }
def RunMayUptoSaid : Prop := runMayUptoRow.holds Try.pinned (OpenSpec.upto runMaySpec)

/-- 'towncrierlaw11.RunWithin', WHERE WHAT IT READS IS OF BULK AT MOST 1048576: true; the input reads as it did. -/
def runWithinUptoRow : OpenClaim := { program := "ytbjeikmkngcjlaa", sum := "c9be42f14c81c95b032e1d651c0a94321bd13d68e1cfb7f9a01fccbe6f1e91bb", func := "towncrier/towncrierlaw11.RunWithin", spec := "runWithin", unfollowed := true, recurses := true, apart := false, narrowed := true }
def RunWithinUptoSaid : Prop := runWithinUptoRow.holds Try.pinned (OpenSpec.upto runWithinSpec)

/-- 'towncrierlaw11.RunEnds', WHERE WHAT IT READS IS OF BULK AT MOST 1048576: true; the input reads as it did. -/
def runEndsUptoRow : OpenClaim := { program := "ytbjeikmkngcjlaa", sum := "c9be42f14c81c95b032e1d651c0a94321bd13d68e1cfb7f9a01fccbe6f1e91bb", func := "towncrier/towncrierlaw11.RunEnds", spec := "runEnds", unfollowed := true, recurses := true, apart := false, narrowed := true }
def RunEndsUptoSaid : Prop := runEndsUptoRow.holds Try.pinned (OpenSpec.upto runEndsSpec)

/-- 'towncrierlaw11.RunGuard', WHERE WHAT IT READS IS OF BULK AT MOST 1048576: true; the input reads as it did. -/
def runGuardUptoRow : OpenClaim := { program := "ytbjeikmkngcjlaa", sum := "c9be42f14c81c95b032e1d651c0a94321bd13d68e1cfb7f9a01fccbe6f1e91bb", func := "towncrier/towncrierlaw11.RunGuard", spec := "runGuard", unfollowed := true, recurses := true, apart := false, narrowed := true }
def RunGuardUptoSaid : Prop := runGuardUptoRow.holds Try.pinned (OpenSpec.upto runGuardSpec)

/-- 'towncrierlaw11.RunCounts', WHERE WHAT IT READS IS OF BULK AT MOST 1048576: true; the input reads as it did. -/
def runCountsUptoRow : OpenClaim := { program := "ytbjeikmkngcjlaa", sum := "c9be42f14c81c95b032e1d651c0a94321bd13d68e1cfb7f9a01fccbe6f1e91bb", func := "towncrier/towncrierlaw11.RunCounts", spec := "runCounts", unfollowed := true, recurses := true, apart := false, narrowed := true }
def RunCountsUptoSaid : Prop := runCountsUptoRow.holds Try.pinned (OpenSpec.upto runCountsSpec)

/-- 'towncrierlaw11.RunTwice', WHERE WHAT IT READS IS OF BULK AT MOST 1048576: true; the input reads as it did. -/
def runTwiceUptoRow : OpenClaim := { program := "ytbjeikmkngcjlaa", sum := "c9be42f14c81c95b032e1d651c0a94321bd13d68e1cfb7f9a01fccbe6f1e91bb", func := "towncrier/towncrierlaw11.RunTwice", spec := "runTwice", unfollowed := true, recurses := true, apart := false, narrowed := true }
def RunTwiceUptoSaid : Prop := runTwiceUptoRow.holds Try.pinned (OpenSpec.upto runTwiceSpec)

/-- 'towncrierlaw13.MatchRoom', WHERE WHAT IT READS IS OF BULK AT MOST 1048576: true; the input reads as it did. -/
def matchRoomUptoRow : OpenClaim := { program := "ytbjeikmkngcjlaa", sum := "c9be42f14c81c95b032e1d651c0a94321bd13d68e1cfb7f9a01fccbe6f1e91bb", func := "towncrier/towncrierlaw13.MatchRoom", spec := "matchRoom", unfollowed := true, recurses := true, apart := false, narrowed := true }
def MatchRoomUptoSaid : Prop := matchRoomUptoRow.holds Try.pinned (OpenSpec.upto matchRoomSpec)

/-- 'towncrierlaw13.MatchOrder', WHERE WHAT IT READS IS OF BULK AT MOST 1048576: true; the input reads as it did. -/
def matchOrderUptoRow : OpenClaim := { program := "ytbjeikmkngcjlaa", sum := "c9be42f14c81c95b032e1d651c0a94321bd13d68e1cfb7f9a01fccbe6f1e91bb", func := "towncrier/towncrierlaw13.MatchOrder", spec := "matchOrder", unfollowed := true, recurses := true, apart := false, narrowed := true }
def MatchOrderUptoSaid : Prop := matchOrderUptoRow.holds Try.pinned (OpenSpec.upto matchOrderSpec)

/-- 'towncrierlaw13.MatchParts', WHERE WHAT IT READS IS OF BULK AT MOST 1048576: true; the input reads as it did. -/
def matchPartsUptoRow : OpenClaim := { program := "ytbjeikmkngcjlaa", sum := "c9be42f14c81c95b032e1d651c0a94321bd13d68e1cfb7f9a01fccbe6f1e91bb", func := "towncrier/towncrierlaw13.MatchParts", spec := "matchParts", unfollowed := true, recurses := true, apart := false, narrowed := true }
def MatchPartsUptoSaid : Prop := matchPartsUptoRow.holds Try.pinned (OpenSpec.upto matchPartsSpec)

/-- 'towncrierlaw13.MatchOther', WHERE WHAT IT READS IS OF BULK AT MOST 1048576: true; the input reads as it did. -/
def matchOtherUptoRow : OpenClaim := { program := "ytbjeikmkngcjlaa", sum := "c9be42f14c81c95b032e1d651c0a94321bd13d68e1cfb7f9a01fccbe6f1e91bb", func := "towncrier/towncrierlaw13.MatchOther", spec := "matchOther", unfollowed := true, recurses := true, apart := false, narrowed := true }
def MatchOtherUptoSaid : Prop := matchOtherUptoRow.holds Try.pinned (OpenSpec.upto matchOtherSpec)

/-- 'towncrierlaw13.MatchSpans', WHERE WHAT IT READS IS OF BULK AT MOST 1048576: true; the input reads as it did. -/
def matchSpansUptoRow : OpenClaim := { program := "ytbjeikmkngcjlaa", sum := "c9be42f14c81c95b032e1d651c0a94321bd13d68e1cfb7f9a01fccbe6f1e91bb", func := "towncrier/towncrierlaw13.MatchSpans", spec := "matchSpans", unfollowed := true, recurses := true, apart := false, narrowed := true }
def MatchSpansUptoSaid : Prop := matchSpansUptoRow.holds Try.pinned (OpenSpec.upto matchSpansSpec)

/-- 'towncrierlaw15.SubEvicts', WHERE WHAT IT READS IS OF BULK AT MOST 1048576: true; the input reads as it did. -/
def subEvictsUptoRow : OpenClaim := { program := "ytbjeikmkngcjlaa", sum := "c9be42f14c81c95b032e1d651c0a94321bd13d68e1cfb7f9a01fccbe6f1e91bb", func := "towncrier/towncrierlaw15.SubEvicts", spec := "subEvicts", unfollowed := true, recurses := true, apart := false, narrowed := true }
def SubEvictsUptoSaid : Prop := subEvictsUptoRow.holds Try.pinned (OpenSpec.upto subEvictsSpec)

/-- 'towncrierlaw15.SubOver', WHERE WHAT IT READS IS OF BULK AT MOST 1048576: true; the input reads as it did. -/
def subOverUptoRow : OpenClaim := { program := "ytbjeikmkngcjlaa", sum := "c9be42f14c81c95b032e1d651c0a94321bd13d68e1cfb7f9a01fccbe6f1e91bb", func := "towncrier/towncrierlaw15.SubOver", spec := "subOver", unfollowed := true, recurses := true, apart := false, narrowed := true }
def SubOverUptoSaid : Prop := subOverUptoRow.holds Try.pinned (OpenSpec.upto subOverSpec)

/-- 'towncrierlaw15.SubAnew', WHERE WHAT IT READS IS OF BULK AT MOST 1048576: true; the input reads as it did. -/
def subAnewUptoRow : OpenClaim := { program := "ytbjeikmkngcjlaa", sum := "c9be42f14c81c95b032e1d651c0a94321bd13d68e1cfb7f9a01fccbe6f1e91bb", func := "towncrier/towncrierlaw15.SubAnew", spec := "subAnew", unfollowed := true, recurses := true, apart := false, narrowed := true }
def SubAnewUptoSaid : Prop := subAnewUptoRow.holds Try.pinned (OpenSpec.upto subAnewSpec)

/-- 'towncrierlaw15.SubHolds', WHERE WHAT IT READS IS OF BULK AT MOST 1048576: true; the input reads as it did. -/
def subHoldsUptoRow : OpenClaim := { program := "ytbjeikmkngcjlaa", sum := "c9be42f14c81c95b032e1d651c0a94321bd13d68e1cfb7f9a01fccbe6f1e91bb", func := "towncrier/towncrierlaw15.SubHolds", spec := "subHolds", unfollowed := true, recurses := true, apart := false, narrowed := true }
def SubHoldsUptoSaid : Prop := subHoldsUptoRow.holds Try.pinned (OpenSpec.upto subHoldsSpec)

/-- 'towncrierlaw12.ModelLater', WHERE WHAT IT READS IS OF BULK AT MOST 1048576: true; the input reads as it did. -/
def modelLaterUptoRow : OpenClaim := { program := "ytbjeikmkngcjlaa", sum := "c9be42f14c81c95b032e1d651c0a94321bd13d68e1cfb7f9a01fccbe6f1e91bb", func := "towncrier/towncrierlaw12.ModelLater", spec := "modelLater", unfollowed := true, recurses := true, apart := false, narrowed := true }
def ModelLaterUptoSaid : Prop := modelLaterUptoRow.holds Try.pinned (OpenSpec.upto modelLaterSpec)

/-- 'towncrierlaw12.ModelOrder', WHERE WHAT IT READS IS OF BULK AT MOST 1048576: true; the input reads as it did. -/
def modelOrderUptoRow : OpenClaim := { program := "ytbjeikmkngcjlaa", sum := "c9be42f14c81c95b032e1d651c0a94321bd13d68e1cfb7f9a01fccbe6f1e91bb", func := "towncrier/towncrierlaw12.ModelOrder", spec := "modelOrder", unfollowed := true, recurses := true, apart := false, narrowed := true }
def ModelOrderUptoSaid : Prop := modelOrderUptoRow.holds Try.pinned (OpenSpec.upto modelOrderSpec)

/-- 'towncrierlaw12.ModelLone', WHERE WHAT IT READS IS OF BULK AT MOST 1048576: true; the input reads as it did. -/
def modelLoneUptoRow : OpenClaim := { program := "ytbjeikmkngcjlaa", sum := "c9be42f14c81c95b032e1d651c0a94321bd13d68e1cfb7f9a01fccbe6f1e91bb", func := "towncrier/towncrierlaw12.ModelLone", spec := "modelLone", unfollowed := true, recurses := true, apart := false, narrowed := true }
def ModelLoneUptoSaid : Prop := modelLoneUptoRow.holds Try.pinned (OpenSpec.upto modelLoneSpec)

/-- 'towncrierlaw12.ModelEach', WHERE WHAT IT READS IS OF BULK AT MOST 1048576: true; the input reads as it did. -/
def modelEachUptoRow : OpenClaim := { program := "ytbjeikmkngcjlaa", sum := "c9be42f14c81c95b032e1d651c0a94321bd13d68e1cfb7f9a01fccbe6f1e91bb", func := "towncrier/towncrierlaw12.ModelEach", spec := "modelEach", unfollowed := true, recurses := true, apart := false, narrowed := true }
def ModelEachUptoSaid : Prop := modelEachUptoRow.holds Try.pinned (OpenSpec.upto modelEachSpec)

/-- 'towncrierlaw12.ModelAhead', WHERE WHAT IT READS IS OF BULK AT MOST 1048576: true; the input reads as it did. -/
def modelAheadUptoRow : OpenClaim := { program := "ytbjeikmkngcjlaa", sum := "c9be42f14c81c95b032e1d651c0a94321bd13d68e1cfb7f9a01fccbe6f1e91bb", func := "towncrier/towncrierlaw12.ModelAhead", spec := "modelAhead", unfollowed := true, recurses := true, apart := false, narrowed := true }
def ModelAheadUptoSaid : Prop := modelAheadUptoRow.holds Try.pinned (OpenSpec.upto modelAheadSpec)

/-- 'towncrierlaw12.ModelRoom', WHERE WHAT IT READS IS OF BULK AT MOST 1048576: true; the input reads as it did. -/
def modelRoomUptoRow : OpenClaim := { program := "ytbjeikmkngcjlaa", sum := "c9be42f14c81c95b032e1d651c0a94321bd13d68e1cfb7f9a01fccbe6f1e91bb", func := "towncrier/towncrierlaw12.ModelRoom", spec := "modelRoom", unfollowed := true, recurses := true, apart := false, narrowed := true }
def ModelRoomUptoSaid : Prop := modelRoomUptoRow.holds Try.pinned (OpenSpec.upto modelRoomSpec)

/-- 'towncrierlaw15.SubNew', WHERE WHAT IT READS IS OF BULK AT MOST 1048576: true; the input reads as it did. -/
def subNewUptoRow : OpenClaim := { program := "ytbjeikmkngcjlaa", sum := "c9be42f14c81c95b032e1d651c0a94321bd13d68e1cfb7f9a01fccbe6f1e91bb", func := "towncrier/towncrierlaw15.SubNew", spec := "subNew", unfollowed := true, recurses := true, apart := false, narrowed := true }
def SubNewUptoSaid : Prop := subNewUptoRow.holds Try.pinned (OpenSpec.upto subNewSpec)

/-- 'towncrierlaw15.SubMay', WHERE WHAT IT READS IS OF BULK AT MOST 1048576: true; the input reads as it did. -/
def subMayUptoRow : OpenClaim := { program := "ytbjeikmkngcjlaa", sum := "c9be42f14c81c95b032e1d651c0a94321bd13d68e1cfb7f9a01fccbe6f1e91bb", func := "towncrier/towncrierlaw15.SubMay", spec := "subMay", unfollowed := true, recurses := true, apart := false, narrowed := true }
def SubMayUptoSaid : Prop := subMayUptoRow.holds Try.pinned (OpenSpec.upto subMaySpec)

/-- 'towncrierlaw13.MatchModel', WHERE WHAT IT READS IS OF BULK AT MOST 1048576: true; the input reads as it did. -/
def matchModelUptoRow : OpenClaim := { program := "ytbjeikmkngcjlaa", sum := "c9be42f14c81c95b032e1d651c0a94321bd13d68e1cfb7f9a01fccbe6f1e91bb", func := "towncrier/towncrierlaw13.MatchModel", spec := "matchModel", unfollowed := true, recurses := true, apart := false, narrowed := true }
def MatchModelUptoSaid : Prop := matchModelUptoRow.holds Try.pinned (OpenSpec.upto matchModelSpec)

end Rows
end Go.Proofs.Ytbjeikmkngcjlaa
