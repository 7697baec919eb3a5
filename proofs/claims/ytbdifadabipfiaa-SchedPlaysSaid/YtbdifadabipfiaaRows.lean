/-
  No cell of these rows narrows 'for every input' (looked for: loops, veiled, ifaces, maps, wideKeys, modest, calm, conditions, laid).
  DERIVED. THE GIVEN ROWS OF THIS SEAT. 31 by the template 'for every input the law returns true; each argument reads behind the call as it read before'; 0 by the template 'total and deterministic' (their statements: YtbdifadabipfiaaTotals.lean).
  GIVEN WITH THE SEED: the statements are not yours to turn. If you find one false, say at which input.
  Laid BY PROGRAM, IN A SANDBOX (cutbox-rows.mjs): the forced cells as the released guide's own fill.sh prints them over the translation 34c89c6d5bf6a60d… (all of the seat's roots in one cut). By AI agents, Wed Nov 11 2026. No macro, syntax, notation, axiom, sorry.
-/
import Derived.Test.YtbdifadabipfiaaChecked
import GoSem.Claim
import GoSem.ClaimJoined
import GoSem.ClaimMapViews
import Derived.JoinedTies
import Derived.KernelRfl
namespace Go.Proofs.Ytbdifadabipfiaa
/- THE CELL 'sum', in the pinned program and in every row, IS THE sha256 OF THE DUMP (.gsa) THAT YtbdifadabipfiaaProg.lean LOADS. Nothing in Lean hashes anything: it is a label: what it is worth is what the hold of that sum in a sandbox is worth. -/
noncomputable def Try.pinned : Pinned := { name := "ytbdifadabipfiaa", sum := "34c89c6d5bf6a60da50374fe18228cfd83d10289859e86bfc1193662530fdee9", checked := Try.checked }
namespace Rows
def none {H : Type} : Left H := { results := [], args := [] }

/-- 'ostinatolaw19.StatusSizes': WHATEVER THE INPUT: true; the input reads as it did. -/
def statusSizesSpec : ChangeSpec := { name := "statusSizes", fn := fun _ => fun
  | [d] => { results := [.lit (.bool true)], args := [d] }
  | _ => none }
def statusSizesRow : OpenClaim := { program := "ytbdifadabipfiaa", sum := "34c89c6d5bf6a60da50374fe18228cfd83d10289859e86bfc1193662530fdee9", func := "ostinato/ostinatolaw19.StatusSizes", spec := "statusSizes", apart := false }
def StatusSizesSaid : Prop := statusSizesRow.holds Try.pinned (OpenSpec.ofChange statusSizesSpec)

/-- ITS FALSE NEIGHBOUR: 'it returns false'. Refute it at one input. -/
def statusSizesWrong : ChangeSpec := { name := "statusSizes", fn := fun _ => fun
  | [d] => { results := [.lit (.bool false)], args := [d] }
  | _ => none }
def StatusSizesWrongFalsely : Prop := statusSizesRow.holds Try.pinned (OpenSpec.ofChange statusSizesWrong)

/-- 'ostinatolaw19.StatusPlays': WHATEVER THE INPUT: true; the input reads as it did. -/
def statusPlaysSpec : ChangeSpec := { name := "statusPlays", fn := fun _ => fun
  | [d1, d2, d3] => { results := [.lit (.bool true)], args := [d1, d2, d3] }
  | _ => none }
def statusPlaysRow : OpenClaim := { program := "ytbdifadabipfiaa", sum := "34c89c6d5bf6a60da50374fe18228cfd83d10289859e86bfc1193662530fdee9", func := "ostinato/ostinatolaw19.StatusPlays", spec := "statusPlays", apart := false }
def StatusPlaysSaid : Prop := statusPlaysRow.holds Try.pinned (OpenSpec.ofChange statusPlaysSpec)

/-- ITS FALSE NEIGHBOUR: 'it returns false'. Refute it at one input. -/
def statusPlaysWrong : ChangeSpec := { name := "statusPlays", fn := fun _ => fun
  | [d1, d2, d3] => { results := [.lit (.bool false)], args := [d1, d2, d3] }
  | _ => none }
def StatusPlaysWrongFalsely : Prop := statusPlaysRow.holds Try.pinned (OpenSpec.ofChange statusPlaysWrong)

/-- 'ostinatolaw19.StatusApart': WHATEVER THE INPUT: true; the input reads as it did. -/
def statusApartSpec : ChangeSpec := { name := "statusApart", fn := fun _ => fun
  | [d] => { results := [.lit (.bool true)], args := [d] }
  | _ => none }
def statusApartRow : OpenClaim := { program := "ytbdifadabipfiaa", sum := "34c89c6d5bf6a60da50374fe18228cfd83d10289859e86bfc1193662530fdee9", func := "ostinato/ostinatolaw19.StatusApart", spec := "statusApart", apart := false }
def StatusApartSaid : Prop := statusApartRow.holds Try.pinned (OpenSpec.ofChange statusApartSpec)

/-- ITS FALSE NEIGHBOUR: 'it returns false'. Refute it at one input. -/
def statusApartWrong : ChangeSpec := { name := "statusApart", fn := fun _ => fun
  | [d] => { results := [.lit (.bool false)], args := [d] }
  | _ => none }
def StatusApartWrongFalsely : Prop := statusApartRow.holds Try.pinned (OpenSpec.ofChange statusApartWrong)

/-- 'ostinatolaw20.LevelTells': WHATEVER THE INPUT: true; the input reads as it did. -/
def levelTellsSpec : ChangeSpec := { name := "levelTells", fn := fun _ => fun
  | [d1, d2, d3, d4] => { results := [.lit (.bool true)], args := [d1, d2, d3, d4] }
  | _ => none }
def levelTellsRow : OpenClaim := { program := "ytbdifadabipfiaa", sum := "34c89c6d5bf6a60da50374fe18228cfd83d10289859e86bfc1193662530fdee9", func := "ostinato/ostinatolaw20.LevelTells", spec := "levelTells", apart := false }
def LevelTellsSaid : Prop := levelTellsRow.holds Try.pinned (OpenSpec.ofChange levelTellsSpec)

/-- ITS FALSE NEIGHBOUR: 'it returns false'. Refute it at one input. -/
def levelTellsWrong : ChangeSpec := { name := "levelTells", fn := fun _ => fun
  | [d1, d2, d3, d4] => { results := [.lit (.bool false)], args := [d1, d2, d3, d4] }
  | _ => none }
def LevelTellsWrongFalsely : Prop := levelTellsRow.holds Try.pinned (OpenSpec.ofChange levelTellsWrong)

/-- 'ostinatolaw20.LevelGrows': WHATEVER THE INPUT: true; the input reads as it did. -/
def levelGrowsSpec : ChangeSpec := { name := "levelGrows", fn := fun _ => fun
  | [d1, d2] => { results := [.lit (.bool true)], args := [d1, d2] }
  | _ => none }
def levelGrowsRow : OpenClaim := { program := "ytbdifadabipfiaa", sum := "34c89c6d5bf6a60da50374fe18228cfd83d10289859e86bfc1193662530fdee9", func := "ostinato/ostinatolaw20.LevelGrows", spec := "levelGrows", apart := false }
def LevelGrowsSaid : Prop := levelGrowsRow.holds Try.pinned (OpenSpec.ofChange levelGrowsSpec)

/-- ITS FALSE NEIGHBOUR: 'it returns false'. Refute it at one input. -/
def levelGrowsWrong : ChangeSpec := { name := "levelGrows", fn := fun _ => fun
  | [d1, d2] => { results := [.lit (.bool false)], args := [d1, d2] }
  | _ => none }
def LevelGrowsWrongFalsely : Prop := levelGrowsRow.holds Try.pinned (OpenSpec.ofChange levelGrowsWrong)

/-- 'ostinatolaw20.LevelSteps': WHATEVER THE INPUT: true; the input reads as it did. -/
def levelStepsSpec : ChangeSpec := { name := "levelSteps", fn := fun _ => fun
  | [d1, d2] => { results := [.lit (.bool true)], args := [d1, d2] }
  | _ => none }
def levelStepsRow : OpenClaim := { program := "ytbdifadabipfiaa", sum := "34c89c6d5bf6a60da50374fe18228cfd83d10289859e86bfc1193662530fdee9", func := "ostinato/ostinatolaw20.LevelSteps", spec := "levelSteps", apart := false }
def LevelStepsSaid : Prop := levelStepsRow.holds Try.pinned (OpenSpec.ofChange levelStepsSpec)

/-- ITS FALSE NEIGHBOUR: 'it returns false'. Refute it at one input. -/
def levelStepsWrong : ChangeSpec := { name := "levelSteps", fn := fun _ => fun
  | [d1, d2] => { results := [.lit (.bool false)], args := [d1, d2] }
  | _ => none }
def LevelStepsWrongFalsely : Prop := levelStepsRow.holds Try.pinned (OpenSpec.ofChange levelStepsWrong)

/-- 'ostinatolaw14.CheckTells': WHATEVER THE INPUT: true; the input reads as it did. -/
def checkTellsSpec : ChangeSpec := { name := "checkTells", fn := fun _ => fun
  | [d1, d2, d3, d4] => { results := [.lit (.bool true)], args := [d1, d2, d3, d4] }
  | _ => none }
def checkTellsRow : OpenClaim := { program := "ytbdifadabipfiaa", sum := "34c89c6d5bf6a60da50374fe18228cfd83d10289859e86bfc1193662530fdee9", func := "ostinato/ostinatolaw14.CheckTells", spec := "checkTells", unfollowed := true, recurses := true, apart := false }
def CheckTellsSaid : Prop := checkTellsRow.holds Try.pinned (OpenSpec.ofChange checkTellsSpec)

/-- ITS FALSE NEIGHBOUR: 'it returns false'. Refute it at one input. -/
def checkTellsWrong : ChangeSpec := { name := "checkTells", fn := fun _ => fun
  | [d1, d2, d3, d4] => { results := [.lit (.bool false)], args := [d1, d2, d3, d4] }
  | _ => none }
def CheckTellsWrongFalsely : Prop := checkTellsRow.holds Try.pinned (OpenSpec.ofChange checkTellsWrong)

/-- 'ostinatolaw14.CheckPasses': WHATEVER THE INPUT: true; the input reads as it did. -/
def checkPassesSpec : ChangeSpec := { name := "checkPasses", fn := fun _ => fun
  | [d] => { results := [.lit (.bool true)], args := [d] }
  | _ => none }
def checkPassesRow : OpenClaim := { program := "ytbdifadabipfiaa", sum := "34c89c6d5bf6a60da50374fe18228cfd83d10289859e86bfc1193662530fdee9", func := "ostinato/ostinatolaw14.CheckPasses", spec := "checkPasses", unfollowed := true, recurses := true, apart := false }
def CheckPassesSaid : Prop := checkPassesRow.holds Try.pinned (OpenSpec.ofChange checkPassesSpec)

/-- ITS FALSE NEIGHBOUR: 'it returns false'. Refute it at one input. -/
def checkPassesWrong : ChangeSpec := { name := "checkPasses", fn := fun _ => fun
  | [d] => { results := [.lit (.bool false)], args := [d] }
  | _ => none }
def CheckPassesWrongFalsely : Prop := checkPassesRow.holds Try.pinned (OpenSpec.ofChange checkPassesWrong)

/-- 'ostinatolaw14.CheckOne': WHATEVER THE INPUT: true; the input reads as it did. -/
def checkOneSpec : ChangeSpec := { name := "checkOne", fn := fun _ => fun
  | [d1, d2, d3] => { results := [.lit (.bool true)], args := [d1, d2, d3] }
  | _ => none }
def checkOneRow : OpenClaim := { program := "ytbdifadabipfiaa", sum := "34c89c6d5bf6a60da50374fe18228cfd83d10289859e86bfc1193662530fdee9", func := "ostinato/ostinatolaw14.CheckOne", spec := "checkOne", unfollowed := true, recurses := true, apart := false }
def CheckOneSaid : Prop := checkOneRow.holds Try.pinned (OpenSpec.ofChange checkOneSpec)

/-- ITS FALSE NEIGHBOUR: 'it returns false'. Refute it at one input. -/
def checkOneWrong : ChangeSpec := { name := "checkOne", fn := fun _ => fun
  | [d1, d2, d3] => { results := [.lit (.bool false)], args := [d1, d2, d3] }
  | _ => none }
def CheckOneWrongFalsely : Prop := checkOneRow.holds Try.pinned (OpenSpec.ofChange checkOneWrong)

/-- 'ostinatolaw14.CheckUnits': WHATEVER THE INPUT: true; the input reads as it did. -/
def checkUnitsSpec : ChangeSpec := { name := "checkUnits", fn := fun _ => fun
  | [d1, d2] => { results := [.lit (.bool true)], args := [d1, d2] }
  | _ => none }
def checkUnitsRow : OpenClaim := { program := "ytbdifadabipfiaa", sum := "34c89c6d5bf6a60da50374fe18228cfd83d10289859e86bfc1193662530fdee9", func := "ostinato/ostinatolaw14.CheckUnits", spec := "checkUnits", unfollowed := true, recurses := true, apart := false }
def CheckUnitsSaid : Prop := checkUnitsRow.holds Try.pinned (OpenSpec.ofChange checkUnitsSpec)

/-- ITS FALSE NEIGHBOUR: 'it returns false'. Refute it at one input. -/
def checkUnitsWrong : ChangeSpec := { name := "checkUnits", fn := fun _ => fun
  | [d1, d2] => { results := [.lit (.bool false)], args := [d1, d2] }
  | _ => none }
def CheckUnitsWrongFalsely : Prop := checkUnitsRow.holds Try.pinned (OpenSpec.ofChange checkUnitsWrong)

/-- 'ostinatolaw14.CheckMeets': WHATEVER THE INPUT: true; the input reads as it did. -/
def checkMeetsSpec : ChangeSpec := { name := "checkMeets", fn := fun _ => fun
  | [d1, d2] => { results := [.lit (.bool true)], args := [d1, d2] }
  | _ => none }
def checkMeetsRow : OpenClaim := { program := "ytbdifadabipfiaa", sum := "34c89c6d5bf6a60da50374fe18228cfd83d10289859e86bfc1193662530fdee9", func := "ostinato/ostinatolaw14.CheckMeets", spec := "checkMeets", unfollowed := true, recurses := true, apart := false }
def CheckMeetsSaid : Prop := checkMeetsRow.holds Try.pinned (OpenSpec.ofChange checkMeetsSpec)

/-- ITS FALSE NEIGHBOUR: 'it returns false'. Refute it at one input. -/
def checkMeetsWrong : ChangeSpec := { name := "checkMeets", fn := fun _ => fun
  | [d1, d2] => { results := [.lit (.bool false)], args := [d1, d2] }
  | _ => none }
def CheckMeetsWrongFalsely : Prop := checkMeetsRow.holds Try.pinned (OpenSpec.ofChange checkMeetsWrong)

/-- 'ostinatolaw14.CheckRoom': WHATEVER THE INPUT: true; the input reads as it did. -/
def checkRoomSpec : ChangeSpec := { name := "checkRoom", fn := fun _ => fun
  | [d1, d2, d3] => { results := [.lit (.bool true)], args := [d1, d2, d3] }
  | _ => none }
def checkRoomRow : OpenClaim := { program := "ytbdifadabipfiaa", sum := "34c89c6d5bf6a60da50374fe18228cfd83d10289859e86bfc1193662530fdee9", func := "ostinato/ostinatolaw14.CheckRoom", spec := "checkRoom", unfollowed := true, recurses := true, apart := false }
def CheckRoomSaid : Prop := checkRoomRow.holds Try.pinned (OpenSpec.ofChange checkRoomSpec)

/-- ITS FALSE NEIGHBOUR: 'it returns false'. Refute it at one input. -/
def checkRoomWrong : ChangeSpec := { name := "checkRoom", fn := fun _ => fun
  | [d1, d2, d3] => { results := [.lit (.bool false)], args := [d1, d2, d3] }
  | _ => none }
def CheckRoomWrongFalsely : Prop := checkRoomRow.holds Try.pinned (OpenSpec.ofChange checkRoomWrong)

/-- 'ostinatolaw14.CheckOrder': WHATEVER THE INPUT: true; the input reads as it did. -/
def checkOrderSpec : ChangeSpec := { name := "checkOrder", fn := fun _ => fun
  | [d] => { results := [.lit (.bool true)], args := [d] }
  | _ => none }
def checkOrderRow : OpenClaim := { program := "ytbdifadabipfiaa", sum := "34c89c6d5bf6a60da50374fe18228cfd83d10289859e86bfc1193662530fdee9", func := "ostinato/ostinatolaw14.CheckOrder", spec := "checkOrder", unfollowed := true, recurses := true, apart := false }
def CheckOrderSaid : Prop := checkOrderRow.holds Try.pinned (OpenSpec.ofChange checkOrderSpec)

/-- ITS FALSE NEIGHBOUR: 'it returns false'. Refute it at one input. -/
def checkOrderWrong : ChangeSpec := { name := "checkOrder", fn := fun _ => fun
  | [d] => { results := [.lit (.bool false)], args := [d] }
  | _ => none }
def CheckOrderWrongFalsely : Prop := checkOrderRow.holds Try.pinned (OpenSpec.ofChange checkOrderWrong)

/-- 'ostinatolaw16.WindowTells': WHATEVER THE INPUT: true; the input reads as it did. -/
def windowTellsSpec : ChangeSpec := { name := "windowTells", fn := fun _ => fun
  | [d1, d2, d3] => { results := [.lit (.bool true)], args := [d1, d2, d3] }
  | _ => none }
def windowTellsRow : OpenClaim := { program := "ytbdifadabipfiaa", sum := "34c89c6d5bf6a60da50374fe18228cfd83d10289859e86bfc1193662530fdee9", func := "ostinato/ostinatolaw16.WindowTells", spec := "windowTells", unfollowed := true, recurses := true, apart := false }
def WindowTellsSaid : Prop := windowTellsRow.holds Try.pinned (OpenSpec.ofChange windowTellsSpec)

/-- ITS FALSE NEIGHBOUR: 'it returns false'. Refute it at one input. -/
def windowTellsWrong : ChangeSpec := { name := "windowTells", fn := fun _ => fun
  | [d1, d2, d3] => { results := [.lit (.bool false)], args := [d1, d2, d3] }
  | _ => none }
def WindowTellsWrongFalsely : Prop := windowTellsRow.holds Try.pinned (OpenSpec.ofChange windowTellsWrong)

/-- 'ostinatolaw16.WindowSums': WHATEVER THE INPUT: true; the input reads as it did. -/
def windowSumsSpec : ChangeSpec := { name := "windowSums", fn := fun _ => fun
  | [d1, d2] => { results := [.lit (.bool true)], args := [d1, d2] }
  | _ => none }
def windowSumsRow : OpenClaim := { program := "ytbdifadabipfiaa", sum := "34c89c6d5bf6a60da50374fe18228cfd83d10289859e86bfc1193662530fdee9", func := "ostinato/ostinatolaw16.WindowSums", spec := "windowSums", unfollowed := true, recurses := true, apart := false }
def WindowSumsSaid : Prop := windowSumsRow.holds Try.pinned (OpenSpec.ofChange windowSumsSpec)

/-- ITS FALSE NEIGHBOUR: 'it returns false'. Refute it at one input. -/
def windowSumsWrong : ChangeSpec := { name := "windowSums", fn := fun _ => fun
  | [d1, d2] => { results := [.lit (.bool false)], args := [d1, d2] }
  | _ => none }
def WindowSumsWrongFalsely : Prop := windowSumsRow.holds Try.pinned (OpenSpec.ofChange windowSumsWrong)

/-- 'ostinatolaw16.WindowEdges': WHATEVER THE INPUT: true; the input reads as it did. -/
def windowEdgesSpec : ChangeSpec := { name := "windowEdges", fn := fun _ => fun
  | [d1, d2, d3, d4, d5] => { results := [.lit (.bool true)], args := [d1, d2, d3, d4, d5] }
  | _ => none }
def windowEdgesRow : OpenClaim := { program := "ytbdifadabipfiaa", sum := "34c89c6d5bf6a60da50374fe18228cfd83d10289859e86bfc1193662530fdee9", func := "ostinato/ostinatolaw16.WindowEdges", spec := "windowEdges", unfollowed := true, recurses := true, apart := false }
def WindowEdgesSaid : Prop := windowEdgesRow.holds Try.pinned (OpenSpec.ofChange windowEdgesSpec)

/-- ITS FALSE NEIGHBOUR: 'it returns false'. Refute it at one input. -/
def windowEdgesWrong : ChangeSpec := { name := "windowEdges", fn := fun _ => fun
  | [d1, d2, d3, d4, d5] => { results := [.lit (.bool false)], args := [d1, d2, d3, d4, d5] }
  | _ => none }
def WindowEdgesWrongFalsely : Prop := windowEdgesRow.holds Try.pinned (OpenSpec.ofChange windowEdgesWrong)

/-- 'ostinatolaw27.BoundTells': WHATEVER THE INPUT: true; the input reads as it did. -/
def boundTellsSpec : ChangeSpec := { name := "boundTells", fn := fun _ => fun
  | [d1, d2, d3, d4] => { results := [.lit (.bool true)], args := [d1, d2, d3, d4] }
  | _ => none }
def boundTellsRow : OpenClaim := { program := "ytbdifadabipfiaa", sum := "34c89c6d5bf6a60da50374fe18228cfd83d10289859e86bfc1193662530fdee9", func := "ostinato/ostinatolaw27.BoundTells", spec := "boundTells", unfollowed := true, recurses := true, apart := false }
def BoundTellsSaid : Prop := boundTellsRow.holds Try.pinned (OpenSpec.ofChange boundTellsSpec)

/-- ITS FALSE NEIGHBOUR: 'it returns false'. Refute it at one input. -/
def boundTellsWrong : ChangeSpec := { name := "boundTells", fn := fun _ => fun
  | [d1, d2, d3, d4] => { results := [.lit (.bool false)], args := [d1, d2, d3, d4] }
  | _ => none }
def BoundTellsWrongFalsely : Prop := boundTellsRow.holds Try.pinned (OpenSpec.ofChange boundTellsWrong)

/-- 'ostinatolaw27.BoundSums': WHATEVER THE INPUT: true; the input reads as it did. -/
def boundSumsSpec : ChangeSpec := { name := "boundSums", fn := fun _ => fun
  | [d] => { results := [.lit (.bool true)], args := [d] }
  | _ => none }
def boundSumsRow : OpenClaim := { program := "ytbdifadabipfiaa", sum := "34c89c6d5bf6a60da50374fe18228cfd83d10289859e86bfc1193662530fdee9", func := "ostinato/ostinatolaw27.BoundSums", spec := "boundSums", unfollowed := true, recurses := true, apart := false }
def BoundSumsSaid : Prop := boundSumsRow.holds Try.pinned (OpenSpec.ofChange boundSumsSpec)

/-- ITS FALSE NEIGHBOUR: 'it returns false'. Refute it at one input. -/
def boundSumsWrong : ChangeSpec := { name := "boundSums", fn := fun _ => fun
  | [d] => { results := [.lit (.bool false)], args := [d] }
  | _ => none }
def BoundSumsWrongFalsely : Prop := boundSumsRow.holds Try.pinned (OpenSpec.ofChange boundSumsWrong)

/-- 'ostinatolaw27.BoundLong': WHATEVER THE INPUT: true; the input reads as it did. -/
def boundLongSpec : ChangeSpec := { name := "boundLong", fn := fun _ => fun
  | [d1, d2, d3] => { results := [.lit (.bool true)], args := [d1, d2, d3] }
  | _ => none }
def boundLongRow : OpenClaim := { program := "ytbdifadabipfiaa", sum := "34c89c6d5bf6a60da50374fe18228cfd83d10289859e86bfc1193662530fdee9", func := "ostinato/ostinatolaw27.BoundLong", spec := "boundLong", unfollowed := true, recurses := true, apart := false }
def BoundLongSaid : Prop := boundLongRow.holds Try.pinned (OpenSpec.ofChange boundLongSpec)

/-- ITS FALSE NEIGHBOUR: 'it returns false'. Refute it at one input. -/
def boundLongWrong : ChangeSpec := { name := "boundLong", fn := fun _ => fun
  | [d1, d2, d3] => { results := [.lit (.bool false)], args := [d1, d2, d3] }
  | _ => none }
def BoundLongWrongFalsely : Prop := boundLongRow.holds Try.pinned (OpenSpec.ofChange boundLongWrong)

/-- 'ostinatolaw27.BoundOnce': WHATEVER THE INPUT: true; the input reads as it did. -/
def boundOnceSpec : ChangeSpec := { name := "boundOnce", fn := fun _ => fun
  | [d1, d2, d3, d4] => { results := [.lit (.bool true)], args := [d1, d2, d3, d4] }
  | _ => none }
def boundOnceRow : OpenClaim := { program := "ytbdifadabipfiaa", sum := "34c89c6d5bf6a60da50374fe18228cfd83d10289859e86bfc1193662530fdee9", func := "ostinato/ostinatolaw27.BoundOnce", spec := "boundOnce", unfollowed := true, recurses := true, apart := false }
def BoundOnceSaid : Prop := boundOnceRow.holds Try.pinned (OpenSpec.ofChange boundOnceSpec)

/-- ITS FALSE NEIGHBOUR: 'it returns false'. Refute it at one input. -/
def boundOnceWrong : ChangeSpec := { name := "boundOnce", fn := fun _ => fun
  | [d1, d2, d3, d4] => { results := [.lit (.bool false)], args := [d1, d2, d3, d4] }
  | _ => none }
def BoundOnceWrongFalsely : Prop := boundOnceRow.holds Try.pinned (OpenSpec.ofChange boundOnceWrong)

/-- 'ostinatolaw27.BoundScales': WHATEVER THE INPUT: true; the input reads as it did. -/
def boundScalesSpec : ChangeSpec := { name := "boundScales", fn := fun _ => fun
  | [d1, d2] => { results := [.lit (.bool true)], args := [d1, d2] }
  | _ => none }
def boundScalesRow : OpenClaim := { program := "ytbdifadabipfiaa", sum := "34c89c6d5bf6a60da50374fe18228cfd83d10289859e86bfc1193662530fdee9", func := "ostinato/ostinatolaw27.BoundScales", spec := "boundScales", unfollowed := true, recurses := true, apart := false }
def BoundScalesSaid : Prop := boundScalesRow.holds Try.pinned (OpenSpec.ofChange boundScalesSpec)

/-- ITS FALSE NEIGHBOUR: 'it returns false'. Refute it at one input. -/
def boundScalesWrong : ChangeSpec := { name := "boundScales", fn := fun _ => fun
  | [d1, d2] => { results := [.lit (.bool false)], args := [d1, d2] }
  | _ => none }
def BoundScalesWrongFalsely : Prop := boundScalesRow.holds Try.pinned (OpenSpec.ofChange boundScalesWrong)

/-- 'ostinatolaw15.PlanTells': WHATEVER THE INPUT: true; the input reads as it did. -/
def planTellsSpec : ChangeSpec := { name := "planTells", fn := fun _ => fun
  | [d1, d2, d3] => { results := [.lit (.bool true)], args := [d1, d2, d3] }
  | _ => none }
def planTellsRow : OpenClaim := { program := "ytbdifadabipfiaa", sum := "34c89c6d5bf6a60da50374fe18228cfd83d10289859e86bfc1193662530fdee9", func := "ostinato/ostinatolaw15.PlanTells", spec := "planTells", unfollowed := true, recurses := true, apart := false }
def PlanTellsSaid : Prop := planTellsRow.holds Try.pinned (OpenSpec.ofChange planTellsSpec)

/-- ITS FALSE NEIGHBOUR: 'it returns false'. Refute it at one input. -/
def planTellsWrong : ChangeSpec := { name := "planTells", fn := fun _ => fun
  | [d1, d2, d3] => { results := [.lit (.bool false)], args := [d1, d2, d3] }
  | _ => none }
def PlanTellsWrongFalsely : Prop := planTellsRow.holds Try.pinned (OpenSpec.ofChange planTellsWrong)

/-- 'ostinatolaw15.PlanDue': WHATEVER THE INPUT: true; the input reads as it did. -/
def planDueSpec : ChangeSpec := { name := "planDue", fn := fun _ => fun
  | [d1, d2, d3, d4, d5] => { results := [.lit (.bool true)], args := [d1, d2, d3, d4, d5] }
  | _ => none }
def planDueRow : OpenClaim := { program := "ytbdifadabipfiaa", sum := "34c89c6d5bf6a60da50374fe18228cfd83d10289859e86bfc1193662530fdee9", func := "ostinato/ostinatolaw15.PlanDue", spec := "planDue", unfollowed := true, recurses := true, apart := false }
def PlanDueSaid : Prop := planDueRow.holds Try.pinned (OpenSpec.ofChange planDueSpec)

/-- ITS FALSE NEIGHBOUR: 'it returns false'. Refute it at one input. -/
def planDueWrong : ChangeSpec := { name := "planDue", fn := fun _ => fun
  | [d1, d2, d3, d4, d5] => { results := [.lit (.bool false)], args := [d1, d2, d3, d4, d5] }
  | _ => none }
def PlanDueWrongFalsely : Prop := planDueRow.holds Try.pinned (OpenSpec.ofChange planDueWrong)

/-- 'ostinatolaw15.PlanShares': WHATEVER THE INPUT: true; the input reads as it did. -/
def planSharesSpec : ChangeSpec := { name := "planShares", fn := fun _ => fun
  | [d] => { results := [.lit (.bool true)], args := [d] }
  | _ => none }
def planSharesRow : OpenClaim := { program := "ytbdifadabipfiaa", sum := "34c89c6d5bf6a60da50374fe18228cfd83d10289859e86bfc1193662530fdee9", func := "ostinato/ostinatolaw15.PlanShares", spec := "planShares", unfollowed := true, recurses := true, apart := false }
def PlanSharesSaid : Prop := planSharesRow.holds Try.pinned (OpenSpec.ofChange planSharesSpec)

/-- ITS FALSE NEIGHBOUR: 'it returns false'. Refute it at one input. -/
def planSharesWrong : ChangeSpec := { name := "planShares", fn := fun _ => fun
  | [d] => { results := [.lit (.bool false)], args := [d] }
  | _ => none }
def PlanSharesWrongFalsely : Prop := planSharesRow.holds Try.pinned (OpenSpec.ofChange planSharesWrong)

/-- 'ostinatolaw15.PlanOrder': WHATEVER THE INPUT: true; the input reads as it did. -/
def planOrderSpec : ChangeSpec := { name := "planOrder", fn := fun _ => fun
  | [d1, d2, d3] => { results := [.lit (.bool true)], args := [d1, d2, d3] }
  | _ => none }
def planOrderRow : OpenClaim := { program := "ytbdifadabipfiaa", sum := "34c89c6d5bf6a60da50374fe18228cfd83d10289859e86bfc1193662530fdee9", func := "ostinato/ostinatolaw15.PlanOrder", spec := "planOrder", unfollowed := true, recurses := true, apart := false }
def PlanOrderSaid : Prop := planOrderRow.holds Try.pinned (OpenSpec.ofChange planOrderSpec)

/-- ITS FALSE NEIGHBOUR: 'it returns false'. Refute it at one input. -/
def planOrderWrong : ChangeSpec := { name := "planOrder", fn := fun _ => fun
  | [d1, d2, d3] => { results := [.lit (.bool false)], args := [d1, d2, d3] }
  | _ => none }
def PlanOrderWrongFalsely : Prop := planOrderRow.holds Try.pinned (OpenSpec.ofChange planOrderWrong)

/-- 'ostinatolaw15.PlanCycles': WHATEVER THE INPUT: true; the input reads as it did. -/
def planCyclesSpec : ChangeSpec := { name := "planCycles", fn := fun _ => fun
  | [d1, d2, d3] => { results := [.lit (.bool true)], args := [d1, d2, d3] }
  | _ => none }
def planCyclesRow : OpenClaim := { program := "ytbdifadabipfiaa", sum := "34c89c6d5bf6a60da50374fe18228cfd83d10289859e86bfc1193662530fdee9", func := "ostinato/ostinatolaw15.PlanCycles", spec := "planCycles", unfollowed := true, recurses := true, apart := false }
def PlanCyclesSaid : Prop := planCyclesRow.holds Try.pinned (OpenSpec.ofChange planCyclesSpec)

/-- ITS FALSE NEIGHBOUR: 'it returns false'. Refute it at one input. -/
def planCyclesWrong : ChangeSpec := { name := "planCycles", fn := fun _ => fun
  | [d1, d2, d3] => { results := [.lit (.bool false)], args := [d1, d2, d3] }
  | _ => none }
def PlanCyclesWrongFalsely : Prop := planCyclesRow.holds Try.pinned (OpenSpec.ofChange planCyclesWrong)

/-- 'ostinatolaw15.PlanEnds': WHATEVER THE INPUT: true; the input reads as it did. -/
def planEndsSpec : ChangeSpec := { name := "planEnds", fn := fun _ => fun
  | [d1, d2] => { results := [.lit (.bool true)], args := [d1, d2] }
  | _ => none }
def planEndsRow : OpenClaim := { program := "ytbdifadabipfiaa", sum := "34c89c6d5bf6a60da50374fe18228cfd83d10289859e86bfc1193662530fdee9", func := "ostinato/ostinatolaw15.PlanEnds", spec := "planEnds", unfollowed := true, recurses := true, apart := false }
def PlanEndsSaid : Prop := planEndsRow.holds Try.pinned (OpenSpec.ofChange planEndsSpec)

/-- ITS FALSE NEIGHBOUR: 'it returns false'. Refute it at one input. -/
def planEndsWrong : ChangeSpec := { name := "planEnds", fn := fun _ => fun
  | [d1, d2] => { results := [.lit (.bool false)], args := [d1, d2] }
  | _ => none }
def PlanEndsWrongFalsely : Prop := planEndsRow.holds Try.pinned (OpenSpec.ofChange planEndsWrong)

/-- 'ostinatolaw23.SchedOnce': WHATEVER THE INPUT: true; the input reads as it did. -/
def schedOnceSpec : ChangeSpec := { name := "schedOnce", fn := fun _ => fun
  | [d1, d2, d3] => { results := [.lit (.bool true)], args := [d1, d2, d3] }
  | _ => none }
def schedOnceRow : OpenClaim := { program := "ytbdifadabipfiaa", sum := "34c89c6d5bf6a60da50374fe18228cfd83d10289859e86bfc1193662530fdee9", func := "ostinato/ostinatolaw23.SchedOnce", spec := "schedOnce", unfollowed := true, recurses := true, apart := false }
def SchedOnceSaid : Prop := schedOnceRow.holds Try.pinned (OpenSpec.ofChange schedOnceSpec)

/-- ITS FALSE NEIGHBOUR: 'it returns false'. Refute it at one input. -/
def schedOnceWrong : ChangeSpec := { name := "schedOnce", fn := fun _ => fun
  | [d1, d2, d3] => { results := [.lit (.bool false)], args := [d1, d2, d3] }
  | _ => none }
def SchedOnceWrongFalsely : Prop := schedOnceRow.holds Try.pinned (OpenSpec.ofChange schedOnceWrong)

/-- 'ostinatolaw23.SchedLast': WHATEVER THE INPUT: true; the input reads as it did. -/
def schedLastSpec : ChangeSpec := { name := "schedLast", fn := fun _ => fun
  | [d1, d2, d3] => { results := [.lit (.bool true)], args := [d1, d2, d3] }
  | _ => none }
def schedLastRow : OpenClaim := { program := "ytbdifadabipfiaa", sum := "34c89c6d5bf6a60da50374fe18228cfd83d10289859e86bfc1193662530fdee9", func := "ostinato/ostinatolaw23.SchedLast", spec := "schedLast", unfollowed := true, recurses := true, apart := false }
def SchedLastSaid : Prop := schedLastRow.holds Try.pinned (OpenSpec.ofChange schedLastSpec)

/-- ITS FALSE NEIGHBOUR: 'it returns false'. Refute it at one input. -/
def schedLastWrong : ChangeSpec := { name := "schedLast", fn := fun _ => fun
  | [d1, d2, d3] => { results := [.lit (.bool false)], args := [d1, d2, d3] }
  | _ => none }
def SchedLastWrongFalsely : Prop := schedLastRow.holds Try.pinned (OpenSpec.ofChange schedLastWrong)

/-- 'ostinatolaw23.SchedBack': WHATEVER THE INPUT: true; the input reads as it did. -/
def schedBackSpec : ChangeSpec := { name := "schedBack", fn := fun _ => fun
  | [d1, d2, d3] => { results := [.lit (.bool true)], args := [d1, d2, d3] }
  | _ => none }
def schedBackRow : OpenClaim := { program := "ytbdifadabipfiaa", sum := "34c89c6d5bf6a60da50374fe18228cfd83d10289859e86bfc1193662530fdee9", func := "ostinato/ostinatolaw23.SchedBack", spec := "schedBack", unfollowed := true, recurses := true, apart := false }
def SchedBackSaid : Prop := schedBackRow.holds Try.pinned (OpenSpec.ofChange schedBackSpec)

/-- ITS FALSE NEIGHBOUR: 'it returns false'. Refute it at one input. -/
def schedBackWrong : ChangeSpec := { name := "schedBack", fn := fun _ => fun
  | [d1, d2, d3] => { results := [.lit (.bool false)], args := [d1, d2, d3] }
  | _ => none }
def SchedBackWrongFalsely : Prop := schedBackRow.holds Try.pinned (OpenSpec.ofChange schedBackWrong)

/-- 'ostinatolaw23.SchedPlays': WHATEVER THE INPUT: true; the input reads as it did. -/
def schedPlaysSpec : ChangeSpec := { name := "schedPlays", fn := fun _ => fun
  | [d1, d2, d3, d4] => { results := [.lit (.bool true)], args := [d1, d2, d3, d4] }
  | _ => none }
def schedPlaysRow : OpenClaim := { program := "ytbdifadabipfiaa", sum := "34c89c6d5bf6a60da50374fe18228cfd83d10289859e86bfc1193662530fdee9", func := "ostinato/ostinatolaw23.SchedPlays", spec := "schedPlays", unfollowed := true, recurses := true, apart := false }
def SchedPlaysSaid : Prop := schedPlaysRow.holds Try.pinned (OpenSpec.ofChange schedPlaysSpec)

/-- ITS FALSE NEIGHBOUR: 'it returns false'. Refute it at one input. -/
def schedPlaysWrong : ChangeSpec := { name := "schedPlays", fn := fun _ => fun
  | [d1, d2, d3, d4] => { results := [.lit (.bool false)], args := [d1, d2, d3, d4] }
  | _ => none }
def SchedPlaysWrongFalsely : Prop := schedPlaysRow.holds Try.pinned (OpenSpec.ofChange schedPlaysWrong)

/- THE SECOND FORM. 'bulk': how many values and letters a reading holds, each counted each time it is reached (what is shared counts as often as it is met; a slice's spare places count too). A statement '..UptoSaid' is the law's where the arguments, and the package variables that the reading takes, are together of bulk at most 1048576: NARROWER than '..Said'. Prove '..Said' where nothing that the law and all that it calls make is longer than what came in: it says more and counts as full. Else prove '..UptoSaid'. A law counts once. -/
mutual
def uptoBulk {H : Type} : DataW H → Nat
  | .lit (.string bytes) => bytes.length + 1
  | .lit _ => 1
  | .nil => 1
  | .ptr d => uptoBulk d + 1
  | .slice elems spare => uptoBulkAll elems + uptoBulkAll spare + 1
  | .agg parts => uptoBulkAll parts + 1
  | .iface _ d => uptoBulk d + 1
  | .map entries => uptoBulkEntries entries + 1
  | .held _ => 1
def uptoBulkAll {H : Type} : List (DataW H) → Nat
  | [] => 0
  | d :: r => uptoBulk d + uptoBulkAll r
def uptoBulkEntries {H : Type} : List (Lit × DataW H) → Nat
  | [] => 0
  | x :: r => uptoBulkEntry x + uptoBulkEntries r
def uptoBulkEntry {H : Type} : Lit × DataW H → Nat
  | (.string bytes, d) => bytes.length + uptoBulk d + 1
  | (_, d) => uptoBulk d + 1
 end
def uptoSmall : (H : Type) → List (DataW H) → Bool := fun _ ds => decide (uptoBulkAll ds ≤ 1048576)
def OpenSpec.upto (s : _root_.Go.ChangeSpec) : _root_.Go.OpenSpec := { _root_.Go.OpenSpec.ofChange s with cond := some uptoSmall }

/-- 'ostinatolaw19.StatusSizes', WHERE WHAT IT READS IS OF BULK AT MOST 1048576: true; the input reads as it did. -/
def statusSizesUptoRow : OpenClaim := { program := "ytbdifadabipfiaa", sum := "34c89c6d5bf6a60da50374fe18228cfd83d10289859e86bfc1193662530fdee9", func := "ostinato/ostinatolaw19.StatusSizes", spec := "statusSizes", apart := false, narrowed := true }
def StatusSizesUptoSaid : Prop := statusSizesUptoRow.holds Try.pinned (OpenSpec.upto statusSizesSpec)

/-- 'ostinatolaw19.StatusPlays', WHERE WHAT IT READS IS OF BULK AT MOST 1048576: true; the input reads as it did. -/
def statusPlaysUptoRow : OpenClaim := { program := "ytbdifadabipfiaa", sum := "34c89c6d5bf6a60da50374fe18228cfd83d10289859e86bfc1193662530fdee9", func := "ostinato/ostinatolaw19.StatusPlays", spec := "statusPlays", apart := false, narrowed := true }
def StatusPlaysUptoSaid : Prop := statusPlaysUptoRow.holds Try.pinned (OpenSpec.upto statusPlaysSpec)

/-- 'ostinatolaw19.StatusApart', WHERE WHAT IT READS IS OF BULK AT MOST 1048576: true; the input reads as it did. -/
def statusApartUptoRow : OpenClaim := { program := "ytbdifadabipfiaa", sum := "34c89c6d5bf6a60da50374fe18228cfd83d10289859e86bfc1193662530fdee9", func := "ostinato/ostinatolaw19.StatusApart", spec := "statusApart", apart := false, narrowed := true }
def StatusApartUptoSaid : Prop := statusApartUptoRow.holds Try.pinned (OpenSpec.upto statusApartSpec)

/-- 'ostinatolaw20.LevelTells', WHERE WHAT IT READS IS OF BULK AT MOST 1048576: true; the input reads as it did. -/
def levelTellsUptoRow : OpenClaim := { program := "ytbdifadabipfiaa", sum := "34c89c6d5bf6a60da50374fe18228cfd83d10289859e86bfc1193662530fdee9", func := "ostinato/ostinatolaw20.LevelTells", spec := "levelTells", apart := false, narrowed := true }
def LevelTellsUptoSaid : Prop := levelTellsUptoRow.holds Try.pinned (OpenSpec.upto levelTellsSpec)

/-- 'ostinatolaw20.LevelGrows', WHERE WHAT IT READS IS OF BULK AT MOST 1048576: true; the input reads as it did. -/
def levelGrowsUptoRow : OpenClaim := { program := "ytbdifadabipfiaa", sum := "34c89c6d5bf6a60da50374fe18228cfd83d10289859e86bfc1193662530fdee9", func := "ostinato/ostinatolaw20.LevelGrows", spec := "levelGrows", apart := false, narrowed := true }
def LevelGrowsUptoSaid : Prop := levelGrowsUptoRow.holds Try.pinned (OpenSpec.upto levelGrowsSpec)

/-- 'ostinatolaw20.LevelSteps', WHERE WHAT IT READS IS OF BULK AT MOST 1048576: true; the input reads as it did. -/
def levelStepsUptoRow : OpenClaim := { program := "ytbdifadabipfiaa", sum := "34c89c6d5bf6a60da50374fe18228cfd83d10289859e86bfc1193662530fdee9", func := "ostinato/ostinatolaw20.LevelSteps", spec := "levelSteps", apart := false, narrowed := true }
def LevelStepsUptoSaid : Prop := levelStepsUptoRow.holds Try.pinned (OpenSpec.upto levelStepsSpec)

/-- 'ostinatolaw14.CheckTells', WHERE WHAT IT READS IS OF BULK AT MOST 1048576: true; the input reads as it did. -/
def checkTellsUptoRow : OpenClaim := { program := "ytbdifadabipfiaa", sum := "34c89c6d5bf6a60da50374fe18228cfd83d10289859e86bfc1193662530fdee9", func := "ostinato/ostinatolaw14.CheckTells", spec := "checkTells", unfollowed := true, recurses := true, apart := false, narrowed := true }
def CheckTellsUptoSaid : Prop := checkTellsUptoRow.holds Try.pinned (OpenSpec.upto checkTellsSpec)

/-- 'ostinatolaw14.CheckPasses', WHERE WHAT IT READS IS OF BULK AT MOST 1048576: true; the input reads as it did. -/
def checkPassesUptoRow : OpenClaim := { program := "ytbdifadabipfiaa", sum := "34c89c6d5bf6a60da50374fe18228cfd83d10289859e86bfc1193662530fdee9", func := "ostinato/ostinatolaw14.CheckPasses", spec := "checkPasses", unfollowed := true, recurses := true, apart := false, narrowed := true }
def CheckPassesUptoSaid : Prop := checkPassesUptoRow.holds Try.pinned (OpenSpec.upto checkPassesSpec)

/-- 'ostinatolaw14.CheckOne', WHERE WHAT IT READS IS OF BULK AT MOST 1048576: true; the input reads as it did. -/
def checkOneUptoRow : OpenClaim := { program := "ytbdifadabipfiaa", sum := "34c89c6d5bf6a60da50374fe18228cfd83d10289859e86bfc1193662530fdee9", func := "ostinato/ostinatolaw14.CheckOne", spec := "checkOne", unfollowed := true, recurses := true, apart := false, narrowed := true }
def CheckOneUptoSaid : Prop := checkOneUptoRow.holds Try.pinned (OpenSpec.upto checkOneSpec)

/-- 'ostinatolaw14.CheckUnits', WHERE WHAT IT READS IS OF BULK AT MOST 1048576: true; the input reads as it did. -/
def checkUnitsUptoRow : OpenClaim := { program := "ytbdifadabipfiaa", sum := "34c89c6d5bf6a60da50374fe18228cfd83d10289859e86bfc1193662530fdee9", func := "ostinato/ostinatolaw14.CheckUnits", spec := "checkUnits", unfollowed := true, recurses := true, apart := false, narrowed := true }
def CheckUnitsUptoSaid : Prop := checkUnitsUptoRow.holds Try.pinned (OpenSpec.upto checkUnitsSpec)

/-- 'ostinatolaw14.CheckMeets', WHERE WHAT IT READS IS OF BULK AT MOST 1048576: true; the input reads as it did. -/
def checkMeetsUptoRow : OpenClaim := { program := "ytbdifadabipfiaa", sum := "34c89c6d5bf6a60da50374fe18228cfd83d10289859e86bfc1193662530fdee9", func := "ostinato/ostinatolaw14.CheckMeets", spec := "checkMeets", unfollowed := true, recurses := true, apart := false, narrowed := true }
def CheckMeetsUptoSaid : Prop := checkMeetsUptoRow.holds Try.pinned (OpenSpec.upto checkMeetsSpec)

/-- 'ostinatolaw14.CheckRoom', WHERE WHAT IT READS IS OF BULK AT MOST 1048576: true; the input reads as it did. -/
def checkRoomUptoRow : OpenClaim := { program := "ytbdifadabipfiaa", sum := "34c89c6d5bf6a60da50374fe18228cfd83d10289859e86bfc1193662530fdee9", func := "ostinato/ostinatolaw14.CheckRoom", spec := "checkRoom", unfollowed := true, recurses := true, apart := false, narrowed := true }
def CheckRoomUptoSaid : Prop := checkRoomUptoRow.holds Try.pinned (OpenSpec.upto checkRoomSpec)

/-- 'ostinatolaw14.CheckOrder', WHERE WHAT IT READS IS OF BULK AT MOST 1048576: true; the input reads as it did. -/
def checkOrderUptoRow : OpenClaim := { program := "ytbdifadabipfiaa", sum := "34c89c6d5bf6a60da50374fe18228cfd83d10289859e86bfc1193662530fdee9", func := "ostinato/ostinatolaw14.CheckOrder", spec := "checkOrder", unfollowed := true, recurses := true, apart := false, narrowed := true }
def CheckOrderUptoSaid : Prop := checkOrderUptoRow.holds Try.pinned (OpenSpec.upto checkOrderSpec)

/-- 'ostinatolaw16.WindowTells', WHERE WHAT IT READS IS OF BULK AT MOST 1048576: true; the input reads as it did. -/
def windowTellsUptoRow : OpenClaim := { program := "ytbdifadabipfiaa", sum := "34c89c6d5bf6a60da50374fe18228cfd83d10289859e86bfc1193662530fdee9", func := "ostinato/ostinatolaw16.WindowTells", spec := "windowTells", unfollowed := true, recurses := true, apart := false, narrowed := true }
def WindowTellsUptoSaid : Prop := windowTellsUptoRow.holds Try.pinned (OpenSpec.upto windowTellsSpec)

/-- 'ostinatolaw16.WindowSums', WHERE WHAT IT READS IS OF BULK AT MOST 1048576: true; the input reads as it did. -/
def windowSumsUptoRow : OpenClaim := { program := "ytbdifadabipfiaa", sum := "34c89c6d5bf6a60da50374fe18228cfd83d10289859e86bfc1193662530fdee9", func := "ostinato/ostinatolaw16.WindowSums", spec := "windowSums", unfollowed := true, recurses := true, apart := false, narrowed := true }
def WindowSumsUptoSaid : Prop := windowSumsUptoRow.holds Try.pinned (OpenSpec.upto windowSumsSpec)

/-- 'ostinatolaw16.WindowEdges', WHERE WHAT IT READS IS OF BULK AT MOST 1048576: true; the input reads as it did. -/
def windowEdgesUptoRow : OpenClaim := { program := "ytbdifadabipfiaa", sum := "34c89c6d5bf6a60da50374fe18228cfd83d10289859e86bfc1193662530fdee9", func := "ostinato/ostinatolaw16.WindowEdges", spec := "windowEdges", unfollowed := true, recurses := true, apart := false, narrowed := true }
def WindowEdgesUptoSaid : Prop := windowEdgesUptoRow.holds Try.pinned (OpenSpec.upto windowEdgesSpec)

/-- 'ostinatolaw27.BoundTells', WHERE WHAT IT READS IS OF BULK AT MOST 1048576: true; the input reads as it did. -/
def boundTellsUptoRow : OpenClaim := { program := "ytbdifadabipfiaa", sum := "34c89c6d5bf6a60da50374fe18228cfd83d10289859e86bfc1193662530fdee9", func := "ostinato/ostinatolaw27.BoundTells", spec := "boundTells", unfollowed := true, recurses := true, apart := false, narrowed := true }
def BoundTellsUptoSaid : Prop := boundTellsUptoRow.holds Try.pinned (OpenSpec.upto boundTellsSpec)

/-- 'ostinatolaw27.BoundSums', WHERE WHAT IT READS IS OF BULK AT MOST 1048576: true; the input reads as it did. -/
def boundSumsUptoRow : OpenClaim := { program := "ytbdifadabipfiaa", sum := "34c89c6d5bf6a60da50374fe18228cfd83d10289859e86bfc1193662530fdee9", func := "ostinato/ostinatolaw27.BoundSums", spec := "boundSums", unfollowed := true, recurses := true, apart := false, narrowed := true }
def BoundSumsUptoSaid : Prop := boundSumsUptoRow.holds Try.pinned (OpenSpec.upto boundSumsSpec)

/-- 'ostinatolaw27.BoundLong', WHERE WHAT IT READS IS OF BULK AT MOST 1048576: true; the input reads as it did. -/
def boundLongUptoRow : OpenClaim := { program := "ytbdifadabipfiaa", sum := "34c89c6d5bf6a60da50374fe18228cfd83d10289859e86bfc1193662530fdee9", func := "ostinato/ostinatolaw27.BoundLong", spec := "boundLong", unfollowed := true, recurses := true, apart := false, narrowed := true }
def BoundLongUptoSaid : Prop := boundLongUptoRow.holds Try.pinned (OpenSpec.upto boundLongSpec)

/-- 'ostinatolaw27.BoundOnce', WHERE WHAT IT READS IS OF BULK AT MOST 1048576: true; the input reads as it did. -/
def boundOnceUptoRow : OpenClaim := { program := "ytbdifadabipfiaa", sum := "34c89c6d5bf6a60da50374fe18228cfd83d10289859e86bfc1193662530fdee9", func := "ostinato/ostinatolaw27.BoundOnce", spec := "boundOnce", unfollowed := true, recurses := true, apart := false, narrowed := true }
def BoundOnceUptoSaid : Prop := boundOnceUptoRow.holds Try.pinned (OpenSpec.upto boundOnceSpec)

/-- 'ostinatolaw27.BoundScales', WHERE WHAT IT READS IS OF BULK AT MOST 1048576: true; the input reads as it did. -/
def boundScalesUptoRow : OpenClaim := { program := "ytbdifadabipfiaa", sum := "34c89c6d5bf6a60da50374fe18228cfd83d10289859e86bfc1193662530fdee9", func := "ostinato/ostinatolaw27.BoundScales", spec := "boundScales", unfollowed := true, recurses := true, apart := false, narrowed := true }
def BoundScalesUptoSaid : Prop := boundScalesUptoRow.holds Try.pinned (OpenSpec.upto boundScalesSpec)

/-- 'ostinatolaw15.PlanTells', WHERE WHAT IT READS IS OF BULK AT MOST 1048576: true; the input reads as it did. -/
def planTellsUptoRow : OpenClaim := { program := "ytbdifadabipfiaa", sum := "34c89c6d5bf6a60da50374fe18228cfd83d10289859e86bfc1193662530fdee9", func := "ostinato/ostinatolaw15.PlanTells", spec := "planTells", unfollowed := true, recurses := true, apart := false, narrowed := true }
def PlanTellsUptoSaid : Prop := planTellsUptoRow.holds Try.pinned (OpenSpec.upto planTellsSpec)

/-- 'ostinatolaw15.PlanDue', WHERE WHAT IT READS IS OF BULK AT MOST 1048576: true; the input reads as it did. -/
def planDueUptoRow : OpenClaim := { program := "ytbdifadabipfiaa", sum := "34c89c6d5bf6a60da50374fe18228cfd83d10289859e86bfc1193662530fdee9", func := "ostinato/ostinatolaw15.PlanDue", spec := "planDue", unfollowed := true, recurses := true, apart := false, narrowed := true }
def PlanDueUptoSaid : Prop := planDueUptoRow.holds Try.pinned (OpenSpec.upto planDueSpec)

/-- 'ostinatolaw15.PlanShares', WHERE WHAT IT READS IS OF BULK AT MOST 1048576: true; the input reads as it did. -/
def planSharesUptoRow : OpenClaim := { program := "ytbdifadabipfiaa", sum := "34c89c6d5bf6a60da50374fe18228cfd83d10289859e86bfc1193662530fdee9", func := "ostinato/ostinatolaw15.PlanShares", spec := "planShares", unfollowed := true, recurses := true, apart := false, narrowed := true }
def PlanSharesUptoSaid : Prop := planSharesUptoRow.holds Try.pinned (OpenSpec.upto planSharesSpec)

/-- 'ostinatolaw15.PlanOrder', WHERE WHAT IT READS IS OF BULK AT MOST 1048576: true; the input reads as it did. -/
def planOrderUptoRow : OpenClaim := { program := "ytbdifadabipfiaa", sum := "34c89c6d5bf6a60da50374fe18228cfd83d10289859e86bfc1193662530fdee9", func := "ostinato/ostinatolaw15.PlanOrder", spec := "planOrder", unfollowed := true, recurses := true, apart := false, narrowed := true }
def PlanOrderUptoSaid : Prop := planOrderUptoRow.holds Try.pinned (OpenSpec.upto planOrderSpec)

/-- 'ostinatolaw15.PlanCycles', WHERE WHAT IT READS IS OF BULK AT MOST 1048576: true; the input reads as it did. -/
def planCyclesUptoRow : OpenClaim := { program := "ytbdifadabipfiaa", sum := "34c89c6d5bf6a60da50374fe18228cfd83d10289859e86bfc1193662530fdee9", func := "ostinato/ostinatolaw15.PlanCycles", spec := "planCycles", unfollowed := true, recurses := true, apart := false, narrowed := true }
def PlanCyclesUptoSaid : Prop := planCyclesUptoRow.holds Try.pinned (OpenSpec.upto planCyclesSpec)

/-- 'ostinatolaw15.PlanEnds', WHERE WHAT IT READS IS OF BULK AT MOST 1048576: true; the input reads as it did. -/
def planEndsUptoRow : OpenClaim := { program := "ytbdifadabipfiaa", sum := "34c89c6d5bf6a60da50374fe18228cfd83d10289859e86bfc1193662530fdee9", func := "ostinato/ostinatolaw15.PlanEnds", spec := "planEnds", unfollowed := true, recurses := true, apart := false, narrowed := true }
def PlanEndsUptoSaid : Prop := planEndsUptoRow.holds Try.pinned (OpenSpec.upto planEndsSpec)

/-- 'ostinatolaw23.SchedOnce', WHERE WHAT IT READS IS OF BULK AT MOST 1048576: true; the input reads as it did. -/
def schedOnceUptoRow : OpenClaim := { program := "ytbdifadabipfiaa", sum := "34c89c6d5bf6a60da50374fe18228cfd83d10289859e86bfc1193662530fdee9", func := "ostinato/ostinatolaw23.SchedOnce", spec := "schedOnce", unfollowed := true, recurses := true, apart := false, narrowed := true }
def SchedOnceUptoSaid : Prop := schedOnceUptoRow.holds Try.pinned (OpenSpec.upto schedOnceSpec)

/-- 'ostinatolaw23.SchedLast', WHERE WHAT IT READS IS OF BULK AT MOST 1048576: true; the input reads as it did. -/
def schedLastUptoRow : OpenClaim := { program := "ytbdifadabipfiaa", sum := "34c89c6d5bf6a60da50374fe18228cfd83d10289859e86bfc1193662530fdee9", func := "ostinato/ostinatolaw23.SchedLast", spec := "schedLast", unfollowed := true, recurses := true, apart := false, narrowed := true }
def SchedLastUptoSaid : Prop := schedLastUptoRow.holds Try.pinned (OpenSpec.upto schedLastSpec)

/-- 'ostinatolaw23.SchedBack', WHERE WHAT IT READS IS OF BULK AT MOST 1048576: true; the input reads as it did. -/
def schedBackUptoRow : OpenClaim := { program := "ytbdifadabipfiaa", sum := "34c89c6d5bf6a60da50374fe18228cfd83d10289859e86bfc1193662530fdee9", func := "ostinato/ostinatolaw23.SchedBack", spec := "schedBack", unfollowed := true, recurses := true, apart := false, narrowed := true }
def SchedBackUptoSaid : Prop := schedBackUptoRow.holds Try.pinned (OpenSpec.upto schedBackSpec)

/-- 'ostinatolaw23.SchedPlays', WHERE WHAT IT READS IS OF BULK AT MOST 1048576: true; the input reads as it did. -/
def schedPlaysUptoRow : OpenClaim := { program := "ytbdifadabipfiaa", sum := "34c89c6d5bf6a60da50374fe18228cfd83d10289859e86bfc1193662530fdee9", func := "ostinato/ostinatolaw23.SchedPlays", spec := "schedPlays", unfollowed := true, recurses := true, apart := false, narrowed := true }
def SchedPlaysUptoSaid : Prop := schedPlaysUptoRow.holds Try.pinned (OpenSpec.upto schedPlaysSpec)

end Rows
end Go.Proofs.Ytbdifadabipfiaa
