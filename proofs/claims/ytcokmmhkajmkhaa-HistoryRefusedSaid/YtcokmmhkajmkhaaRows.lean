/-
  No cell of these rows narrows 'for every input' (looked for: loops, veiled, ifaces, maps, wideKeys, modest, calm, conditions, laid).
  DERIVED. THE GIVEN ROWS OF THIS SEAT. 22 by the template 'for every input the law returns true; each argument reads behind the call as it read before'; 0 by the template 'total and deterministic' (their statements: YtcokmmhkajmkhaaTotals.lean).
  GIVEN WITH THE SEED: the statements are not yours to turn. If you find one false, say at which input.
  Laid BY PROGRAM, IN A SANDBOX (cutbox-rows.mjs): the forced cells as the released guide's own fill.sh prints them over the translation 3a90db2ab484639f… (all of the seat's roots in one cut). By AI agents, Wed Nov 11 2026. No macro, syntax, notation, axiom, sorry.
-/
import Derived.Test.YtcokmmhkajmkhaaChecked
import GoSem.Claim
import GoSem.ClaimJoined
import GoSem.ClaimMapViews
import Derived.JoinedTies
import Derived.KernelRfl
namespace Go.Proofs.Ytcokmmhkajmkhaa
/- THE CELL 'sum', in the pinned program and in every row, IS THE sha256 OF THE DUMP (.gsa) THAT YtcokmmhkajmkhaaProg.lean LOADS. Nothing in Lean hashes anything: it is a label: what it is worth is what the hold of that sum in a sandbox is worth. -/
noncomputable def Try.pinned : Pinned := { name := "ytcokmmhkajmkhaa", sum := "3a90db2ab484639f145498459d6e980d10478a8ebfec970d9f12cb79630f2282", checked := Try.checked }
namespace Rows
def none {H : Type} : Left H := { results := [], args := [] }

/-- 'millstreamlaw18.HistoryTells': WHATEVER THE INPUT: true; the input reads as it did. -/
def historyTellsSpec : ChangeSpec := { name := "historyTells", fn := fun _ => fun
  | [d1, d2, d3, d4, d5] => { results := [.lit (.bool true)], args := [d1, d2, d3, d4, d5] }
  | _ => none }
def historyTellsRow : OpenClaim := { program := "ytcokmmhkajmkhaa", sum := "3a90db2ab484639f145498459d6e980d10478a8ebfec970d9f12cb79630f2282", func := "millstream/millstreamlaw18.HistoryTells", spec := "historyTells", unfollowed := true, recurses := true, apart := false }
def HistoryTellsSaid : Prop := historyTellsRow.holds Try.pinned (OpenSpec.ofChange historyTellsSpec)

/-- ITS FALSE NEIGHBOUR: 'it returns false'. Refute it at one input. -/
def historyTellsWrong : ChangeSpec := { name := "historyTells", fn := fun _ => fun
  | [d1, d2, d3, d4, d5] => { results := [.lit (.bool false)], args := [d1, d2, d3, d4, d5] }
  | _ => none }
def HistoryTellsWrongFalsely : Prop := historyTellsRow.holds Try.pinned (OpenSpec.ofChange historyTellsWrong)

/-- 'millstreamlaw18.HistoryRefused': WHATEVER THE INPUT: true; the input reads as it did. -/
def historyRefusedSpec : ChangeSpec := { name := "historyRefused", fn := fun _ => fun
  | [d1, d2, d3, d4, d5, d6] => { results := [.lit (.bool true)], args := [d1, d2, d3, d4, d5, d6] }
  | _ => none }
def historyRefusedRow : OpenClaim := { program := "ytcokmmhkajmkhaa", sum := "3a90db2ab484639f145498459d6e980d10478a8ebfec970d9f12cb79630f2282", func := "millstream/millstreamlaw18.HistoryRefused", spec := "historyRefused", unfollowed := true, recurses := true, apart := false }
def HistoryRefusedSaid : Prop := historyRefusedRow.holds Try.pinned (OpenSpec.ofChange historyRefusedSpec)

/-- ITS FALSE NEIGHBOUR: 'it returns false'. Refute it at one input. -/
def historyRefusedWrong : ChangeSpec := { name := "historyRefused", fn := fun _ => fun
  | [d1, d2, d3, d4, d5, d6] => { results := [.lit (.bool false)], args := [d1, d2, d3, d4, d5, d6] }
  | _ => none }
def HistoryRefusedWrongFalsely : Prop := historyRefusedRow.holds Try.pinned (OpenSpec.ofChange historyRefusedWrong)

/-- 'millstreamlaw18.HistoryParts': WHATEVER THE INPUT: true; the input reads as it did. -/
def historyPartsSpec : ChangeSpec := { name := "historyParts", fn := fun _ => fun
  | [d1, d2, d3, d4] => { results := [.lit (.bool true)], args := [d1, d2, d3, d4] }
  | _ => none }
def historyPartsRow : OpenClaim := { program := "ytcokmmhkajmkhaa", sum := "3a90db2ab484639f145498459d6e980d10478a8ebfec970d9f12cb79630f2282", func := "millstream/millstreamlaw18.HistoryParts", spec := "historyParts", unfollowed := true, recurses := true, apart := false }
def HistoryPartsSaid : Prop := historyPartsRow.holds Try.pinned (OpenSpec.ofChange historyPartsSpec)

/-- ITS FALSE NEIGHBOUR: 'it returns false'. Refute it at one input. -/
def historyPartsWrong : ChangeSpec := { name := "historyParts", fn := fun _ => fun
  | [d1, d2, d3, d4] => { results := [.lit (.bool false)], args := [d1, d2, d3, d4] }
  | _ => none }
def HistoryPartsWrongFalsely : Prop := historyPartsRow.holds Try.pinned (OpenSpec.ofChange historyPartsWrong)

/-- 'millstreamlaw13.ClimbSteps': WHATEVER THE INPUT: true; the input reads as it did. -/
def climbStepsSpec : ChangeSpec := { name := "climbSteps", fn := fun _ => fun
  | [d] => { results := [.lit (.bool true)], args := [d] }
  | _ => none }
def climbStepsRow : OpenClaim := { program := "ytcokmmhkajmkhaa", sum := "3a90db2ab484639f145498459d6e980d10478a8ebfec970d9f12cb79630f2282", func := "millstream/millstreamlaw13.ClimbSteps", spec := "climbSteps", unfollowed := true, recurses := true, apart := false }
def ClimbStepsSaid : Prop := climbStepsRow.holds Try.pinned (OpenSpec.ofChange climbStepsSpec)

/-- ITS FALSE NEIGHBOUR: 'it returns false'. Refute it at one input. -/
def climbStepsWrong : ChangeSpec := { name := "climbSteps", fn := fun _ => fun
  | [d] => { results := [.lit (.bool false)], args := [d] }
  | _ => none }
def ClimbStepsWrongFalsely : Prop := climbStepsRow.holds Try.pinned (OpenSpec.ofChange climbStepsWrong)

/-- 'millstreamlaw13.ClimbAlone': WHATEVER THE INPUT: true; the input reads as it did. -/
def climbAloneSpec : ChangeSpec := { name := "climbAlone", fn := fun _ => fun
  | [d1, d2, d3] => { results := [.lit (.bool true)], args := [d1, d2, d3] }
  | _ => none }
def climbAloneRow : OpenClaim := { program := "ytcokmmhkajmkhaa", sum := "3a90db2ab484639f145498459d6e980d10478a8ebfec970d9f12cb79630f2282", func := "millstream/millstreamlaw13.ClimbAlone", spec := "climbAlone", unfollowed := true, recurses := true, apart := false }
def ClimbAloneSaid : Prop := climbAloneRow.holds Try.pinned (OpenSpec.ofChange climbAloneSpec)

/-- ITS FALSE NEIGHBOUR: 'it returns false'. Refute it at one input. -/
def climbAloneWrong : ChangeSpec := { name := "climbAlone", fn := fun _ => fun
  | [d1, d2, d3] => { results := [.lit (.bool false)], args := [d1, d2, d3] }
  | _ => none }
def ClimbAloneWrongFalsely : Prop := climbAloneRow.holds Try.pinned (OpenSpec.ofChange climbAloneWrong)

/-- 'millstreamlaw13.ClimbJoins': WHATEVER THE INPUT: true; the input reads as it did. -/
def climbJoinsSpec : ChangeSpec := { name := "climbJoins", fn := fun _ => fun
  | [d1, d2, d3] => { results := [.lit (.bool true)], args := [d1, d2, d3] }
  | _ => none }
def climbJoinsRow : OpenClaim := { program := "ytcokmmhkajmkhaa", sum := "3a90db2ab484639f145498459d6e980d10478a8ebfec970d9f12cb79630f2282", func := "millstream/millstreamlaw13.ClimbJoins", spec := "climbJoins", unfollowed := true, recurses := true, apart := false }
def ClimbJoinsSaid : Prop := climbJoinsRow.holds Try.pinned (OpenSpec.ofChange climbJoinsSpec)

/-- ITS FALSE NEIGHBOUR: 'it returns false'. Refute it at one input. -/
def climbJoinsWrong : ChangeSpec := { name := "climbJoins", fn := fun _ => fun
  | [d1, d2, d3] => { results := [.lit (.bool false)], args := [d1, d2, d3] }
  | _ => none }
def ClimbJoinsWrongFalsely : Prop := climbJoinsRow.holds Try.pinned (OpenSpec.ofChange climbJoinsWrong)

/-- 'millstreamlaw13.ClimbRace': WHATEVER THE INPUT: true; the input reads as it did. -/
def climbRaceSpec : ChangeSpec := { name := "climbRace", fn := fun _ => fun
  | [d1, d2] => { results := [.lit (.bool true)], args := [d1, d2] }
  | _ => none }
def climbRaceRow : OpenClaim := { program := "ytcokmmhkajmkhaa", sum := "3a90db2ab484639f145498459d6e980d10478a8ebfec970d9f12cb79630f2282", func := "millstream/millstreamlaw13.ClimbRace", spec := "climbRace", unfollowed := true, recurses := true, apart := false }
def ClimbRaceSaid : Prop := climbRaceRow.holds Try.pinned (OpenSpec.ofChange climbRaceSpec)

/-- ITS FALSE NEIGHBOUR: 'it returns false'. Refute it at one input. -/
def climbRaceWrong : ChangeSpec := { name := "climbRace", fn := fun _ => fun
  | [d1, d2] => { results := [.lit (.bool false)], args := [d1, d2] }
  | _ => none }
def ClimbRaceWrongFalsely : Prop := climbRaceRow.holds Try.pinned (OpenSpec.ofChange climbRaceWrong)

/-- 'millstreamlaw13.ClimbDown': WHATEVER THE INPUT: true; the input reads as it did. -/
def climbDownSpec : ChangeSpec := { name := "climbDown", fn := fun _ => fun
  | [d] => { results := [.lit (.bool true)], args := [d] }
  | _ => none }
def climbDownRow : OpenClaim := { program := "ytcokmmhkajmkhaa", sum := "3a90db2ab484639f145498459d6e980d10478a8ebfec970d9f12cb79630f2282", func := "millstream/millstreamlaw13.ClimbDown", spec := "climbDown", unfollowed := true, recurses := true, apart := false }
def ClimbDownSaid : Prop := climbDownRow.holds Try.pinned (OpenSpec.ofChange climbDownSpec)

/-- ITS FALSE NEIGHBOUR: 'it returns false'. Refute it at one input. -/
def climbDownWrong : ChangeSpec := { name := "climbDown", fn := fun _ => fun
  | [d] => { results := [.lit (.bool false)], args := [d] }
  | _ => none }
def ClimbDownWrongFalsely : Prop := climbDownRow.holds Try.pinned (OpenSpec.ofChange climbDownWrong)

/-- 'millstreamlaw13.ClimbOther': WHATEVER THE INPUT: true; the input reads as it did. -/
def climbOtherSpec : ChangeSpec := { name := "climbOther", fn := fun _ => fun
  | [d] => { results := [.lit (.bool true)], args := [d] }
  | _ => none }
def climbOtherRow : OpenClaim := { program := "ytcokmmhkajmkhaa", sum := "3a90db2ab484639f145498459d6e980d10478a8ebfec970d9f12cb79630f2282", func := "millstream/millstreamlaw13.ClimbOther", spec := "climbOther", unfollowed := true, recurses := true, apart := false }
def ClimbOtherSaid : Prop := climbOtherRow.holds Try.pinned (OpenSpec.ofChange climbOtherSpec)

/-- ITS FALSE NEIGHBOUR: 'it returns false'. Refute it at one input. -/
def climbOtherWrong : ChangeSpec := { name := "climbOther", fn := fun _ => fun
  | [d] => { results := [.lit (.bool false)], args := [d] }
  | _ => none }
def ClimbOtherWrongFalsely : Prop := climbOtherRow.holds Try.pinned (OpenSpec.ofChange climbOtherWrong)

/-- 'millstreamlaw18.HistoryLinear': WHATEVER THE INPUT: true; the input reads as it did. -/
def historyLinearSpec : ChangeSpec := { name := "historyLinear", fn := fun _ => fun
  | [d] => { results := [.lit (.bool true)], args := [d] }
  | _ => none }
def historyLinearRow : OpenClaim := { program := "ytcokmmhkajmkhaa", sum := "3a90db2ab484639f145498459d6e980d10478a8ebfec970d9f12cb79630f2282", func := "millstream/millstreamlaw18.HistoryLinear", spec := "historyLinear", unfollowed := true, recurses := true, apart := false }
def HistoryLinearSaid : Prop := historyLinearRow.holds Try.pinned (OpenSpec.ofChange historyLinearSpec)

/-- ITS FALSE NEIGHBOUR: 'it returns false'. Refute it at one input. -/
def historyLinearWrong : ChangeSpec := { name := "historyLinear", fn := fun _ => fun
  | [d] => { results := [.lit (.bool false)], args := [d] }
  | _ => none }
def HistoryLinearWrongFalsely : Prop := historyLinearRow.holds Try.pinned (OpenSpec.ofChange historyLinearWrong)

/-- 'millstreamlaw14.GatherSteps': WHATEVER THE INPUT: true; the input reads as it did. -/
def gatherStepsSpec : ChangeSpec := { name := "gatherSteps", fn := fun _ => fun
  | [d1, d2, d3] => { results := [.lit (.bool true)], args := [d1, d2, d3] }
  | _ => none }
def gatherStepsRow : OpenClaim := { program := "ytcokmmhkajmkhaa", sum := "3a90db2ab484639f145498459d6e980d10478a8ebfec970d9f12cb79630f2282", func := "millstream/millstreamlaw14.GatherSteps", spec := "gatherSteps", unfollowed := true, recurses := true, apart := false }
def GatherStepsSaid : Prop := gatherStepsRow.holds Try.pinned (OpenSpec.ofChange gatherStepsSpec)

/-- ITS FALSE NEIGHBOUR: 'it returns false'. Refute it at one input. -/
def gatherStepsWrong : ChangeSpec := { name := "gatherSteps", fn := fun _ => fun
  | [d1, d2, d3] => { results := [.lit (.bool false)], args := [d1, d2, d3] }
  | _ => none }
def GatherStepsWrongFalsely : Prop := gatherStepsRow.holds Try.pinned (OpenSpec.ofChange gatherStepsWrong)

/-- 'millstreamlaw14.GatherAll': WHATEVER THE INPUT: true; the input reads as it did. -/
def gatherAllSpec : ChangeSpec := { name := "gatherAll", fn := fun _ => fun
  | [d1, d2] => { results := [.lit (.bool true)], args := [d1, d2] }
  | _ => none }
def gatherAllRow : OpenClaim := { program := "ytcokmmhkajmkhaa", sum := "3a90db2ab484639f145498459d6e980d10478a8ebfec970d9f12cb79630f2282", func := "millstream/millstreamlaw14.GatherAll", spec := "gatherAll", unfollowed := true, recurses := true, apart := false }
def GatherAllSaid : Prop := gatherAllRow.holds Try.pinned (OpenSpec.ofChange gatherAllSpec)

/-- ITS FALSE NEIGHBOUR: 'it returns false'. Refute it at one input. -/
def gatherAllWrong : ChangeSpec := { name := "gatherAll", fn := fun _ => fun
  | [d1, d2] => { results := [.lit (.bool false)], args := [d1, d2] }
  | _ => none }
def GatherAllWrongFalsely : Prop := gatherAllRow.holds Try.pinned (OpenSpec.ofChange gatherAllWrong)

/-- 'millstreamlaw14.GatherLeaves': WHATEVER THE INPUT: true; the input reads as it did. -/
def gatherLeavesSpec : ChangeSpec := { name := "gatherLeaves", fn := fun _ => fun
  | [d] => { results := [.lit (.bool true)], args := [d] }
  | _ => none }
def gatherLeavesRow : OpenClaim := { program := "ytcokmmhkajmkhaa", sum := "3a90db2ab484639f145498459d6e980d10478a8ebfec970d9f12cb79630f2282", func := "millstream/millstreamlaw14.GatherLeaves", spec := "gatherLeaves", unfollowed := true, recurses := true, apart := false }
def GatherLeavesSaid : Prop := gatherLeavesRow.holds Try.pinned (OpenSpec.ofChange gatherLeavesSpec)

/-- ITS FALSE NEIGHBOUR: 'it returns false'. Refute it at one input. -/
def gatherLeavesWrong : ChangeSpec := { name := "gatherLeaves", fn := fun _ => fun
  | [d] => { results := [.lit (.bool false)], args := [d] }
  | _ => none }
def GatherLeavesWrongFalsely : Prop := gatherLeavesRow.holds Try.pinned (OpenSpec.ofChange gatherLeavesWrong)

/-- 'millstreamlaw14.GatherWaits': WHATEVER THE INPUT: true; the input reads as it did. -/
def gatherWaitsSpec : ChangeSpec := { name := "gatherWaits", fn := fun _ => fun
  | [d1, d2] => { results := [.lit (.bool true)], args := [d1, d2] }
  | _ => none }
def gatherWaitsRow : OpenClaim := { program := "ytcokmmhkajmkhaa", sum := "3a90db2ab484639f145498459d6e980d10478a8ebfec970d9f12cb79630f2282", func := "millstream/millstreamlaw14.GatherWaits", spec := "gatherWaits", unfollowed := true, recurses := true, apart := false }
def GatherWaitsSaid : Prop := gatherWaitsRow.holds Try.pinned (OpenSpec.ofChange gatherWaitsSpec)

/-- ITS FALSE NEIGHBOUR: 'it returns false'. Refute it at one input. -/
def gatherWaitsWrong : ChangeSpec := { name := "gatherWaits", fn := fun _ => fun
  | [d1, d2] => { results := [.lit (.bool false)], args := [d1, d2] }
  | _ => none }
def GatherWaitsWrongFalsely : Prop := gatherWaitsRow.holds Try.pinned (OpenSpec.ofChange gatherWaitsWrong)

/-- 'millstreamlaw14.GatherRace': WHATEVER THE INPUT: true; the input reads as it did. -/
def gatherRaceSpec : ChangeSpec := { name := "gatherRace", fn := fun _ => fun
  | [d1, d2] => { results := [.lit (.bool true)], args := [d1, d2] }
  | _ => none }
def gatherRaceRow : OpenClaim := { program := "ytcokmmhkajmkhaa", sum := "3a90db2ab484639f145498459d6e980d10478a8ebfec970d9f12cb79630f2282", func := "millstream/millstreamlaw14.GatherRace", spec := "gatherRace", unfollowed := true, recurses := true, apart := false }
def GatherRaceSaid : Prop := gatherRaceRow.holds Try.pinned (OpenSpec.ofChange gatherRaceSpec)

/-- ITS FALSE NEIGHBOUR: 'it returns false'. Refute it at one input. -/
def gatherRaceWrong : ChangeSpec := { name := "gatherRace", fn := fun _ => fun
  | [d1, d2] => { results := [.lit (.bool false)], args := [d1, d2] }
  | _ => none }
def GatherRaceWrongFalsely : Prop := gatherRaceRow.holds Try.pinned (OpenSpec.ofChange gatherRaceWrong)

/-- 'millstreamlaw15.CollideSteps': WHATEVER THE INPUT: true; the input reads as it did. -/
def collideStepsSpec : ChangeSpec := { name := "collideSteps", fn := fun _ => fun
  | [d] => { results := [.lit (.bool true)], args := [d] }
  | _ => none }
def collideStepsRow : OpenClaim := { program := "ytcokmmhkajmkhaa", sum := "3a90db2ab484639f145498459d6e980d10478a8ebfec970d9f12cb79630f2282", func := "millstream/millstreamlaw15.CollideSteps", spec := "collideSteps", unfollowed := true, recurses := true, apart := false }
def CollideStepsSaid : Prop := collideStepsRow.holds Try.pinned (OpenSpec.ofChange collideStepsSpec)

/-- ITS FALSE NEIGHBOUR: 'it returns false'. Refute it at one input. -/
def collideStepsWrong : ChangeSpec := { name := "collideSteps", fn := fun _ => fun
  | [d] => { results := [.lit (.bool false)], args := [d] }
  | _ => none }
def CollideStepsWrongFalsely : Prop := collideStepsRow.holds Try.pinned (OpenSpec.ofChange collideStepsWrong)

/-- 'millstreamlaw15.CollideAlone': WHATEVER THE INPUT: true; the input reads as it did. -/
def collideAloneSpec : ChangeSpec := { name := "collideAlone", fn := fun _ => fun
  | [d] => { results := [.lit (.bool true)], args := [d] }
  | _ => none }
def collideAloneRow : OpenClaim := { program := "ytcokmmhkajmkhaa", sum := "3a90db2ab484639f145498459d6e980d10478a8ebfec970d9f12cb79630f2282", func := "millstream/millstreamlaw15.CollideAlone", spec := "collideAlone", unfollowed := true, recurses := true, apart := false }
def CollideAloneSaid : Prop := collideAloneRow.holds Try.pinned (OpenSpec.ofChange collideAloneSpec)

/-- ITS FALSE NEIGHBOUR: 'it returns false'. Refute it at one input. -/
def collideAloneWrong : ChangeSpec := { name := "collideAlone", fn := fun _ => fun
  | [d] => { results := [.lit (.bool false)], args := [d] }
  | _ => none }
def CollideAloneWrongFalsely : Prop := collideAloneRow.holds Try.pinned (OpenSpec.ofChange collideAloneWrong)

/-- 'millstreamlaw15.CollideMeets': WHATEVER THE INPUT: true; the input reads as it did. -/
def collideMeetsSpec : ChangeSpec := { name := "collideMeets", fn := fun _ => fun
  | [d1, d2, d3, d4] => { results := [.lit (.bool true)], args := [d1, d2, d3, d4] }
  | _ => none }
def collideMeetsRow : OpenClaim := { program := "ytcokmmhkajmkhaa", sum := "3a90db2ab484639f145498459d6e980d10478a8ebfec970d9f12cb79630f2282", func := "millstream/millstreamlaw15.CollideMeets", spec := "collideMeets", unfollowed := true, recurses := true, apart := false }
def CollideMeetsSaid : Prop := collideMeetsRow.holds Try.pinned (OpenSpec.ofChange collideMeetsSpec)

/-- ITS FALSE NEIGHBOUR: 'it returns false'. Refute it at one input. -/
def collideMeetsWrong : ChangeSpec := { name := "collideMeets", fn := fun _ => fun
  | [d1, d2, d3, d4] => { results := [.lit (.bool false)], args := [d1, d2, d3, d4] }
  | _ => none }
def CollideMeetsWrongFalsely : Prop := collideMeetsRow.holds Try.pinned (OpenSpec.ofChange collideMeetsWrong)

/-- 'millstreamlaw15.CollideCaught': WHATEVER THE INPUT: true; the input reads as it did. -/
def collideCaughtSpec : ChangeSpec := { name := "collideCaught", fn := fun _ => fun
  | [d1, d2, d3] => { results := [.lit (.bool true)], args := [d1, d2, d3] }
  | _ => none }
def collideCaughtRow : OpenClaim := { program := "ytcokmmhkajmkhaa", sum := "3a90db2ab484639f145498459d6e980d10478a8ebfec970d9f12cb79630f2282", func := "millstream/millstreamlaw15.CollideCaught", spec := "collideCaught", unfollowed := true, recurses := true, apart := false }
def CollideCaughtSaid : Prop := collideCaughtRow.holds Try.pinned (OpenSpec.ofChange collideCaughtSpec)

/-- ITS FALSE NEIGHBOUR: 'it returns false'. Refute it at one input. -/
def collideCaughtWrong : ChangeSpec := { name := "collideCaught", fn := fun _ => fun
  | [d1, d2, d3] => { results := [.lit (.bool false)], args := [d1, d2, d3] }
  | _ => none }
def CollideCaughtWrongFalsely : Prop := collideCaughtRow.holds Try.pinned (OpenSpec.ofChange collideCaughtWrong)

/-- 'millstreamlaw15.CollideSelf': WHATEVER THE INPUT: true; the input reads as it did. -/
def collideSelfSpec : ChangeSpec := { name := "collideSelf", fn := fun _ => fun
  | [d1, d2] => { results := [.lit (.bool true)], args := [d1, d2] }
  | _ => none }
def collideSelfRow : OpenClaim := { program := "ytcokmmhkajmkhaa", sum := "3a90db2ab484639f145498459d6e980d10478a8ebfec970d9f12cb79630f2282", func := "millstream/millstreamlaw15.CollideSelf", spec := "collideSelf", unfollowed := true, recurses := true, apart := false }
def CollideSelfSaid : Prop := collideSelfRow.holds Try.pinned (OpenSpec.ofChange collideSelfSpec)

/-- ITS FALSE NEIGHBOUR: 'it returns false'. Refute it at one input. -/
def collideSelfWrong : ChangeSpec := { name := "collideSelf", fn := fun _ => fun
  | [d1, d2] => { results := [.lit (.bool false)], args := [d1, d2] }
  | _ => none }
def CollideSelfWrongFalsely : Prop := collideSelfRow.holds Try.pinned (OpenSpec.ofChange collideSelfWrong)

/-- 'millstreamlaw15.CollideSpins': WHATEVER THE INPUT: true; the input reads as it did. -/
def collideSpinsSpec : ChangeSpec := { name := "collideSpins", fn := fun _ => fun
  | [d1, d2] => { results := [.lit (.bool true)], args := [d1, d2] }
  | _ => none }
def collideSpinsRow : OpenClaim := { program := "ytcokmmhkajmkhaa", sum := "3a90db2ab484639f145498459d6e980d10478a8ebfec970d9f12cb79630f2282", func := "millstream/millstreamlaw15.CollideSpins", spec := "collideSpins", unfollowed := true, recurses := true, apart := false }
def CollideSpinsSaid : Prop := collideSpinsRow.holds Try.pinned (OpenSpec.ofChange collideSpinsSpec)

/-- ITS FALSE NEIGHBOUR: 'it returns false'. Refute it at one input. -/
def collideSpinsWrong : ChangeSpec := { name := "collideSpins", fn := fun _ => fun
  | [d1, d2] => { results := [.lit (.bool false)], args := [d1, d2] }
  | _ => none }
def CollideSpinsWrongFalsely : Prop := collideSpinsRow.holds Try.pinned (OpenSpec.ofChange collideSpinsWrong)

/-- 'millstreamlaw15.CollideOther': WHATEVER THE INPUT: true; the input reads as it did. -/
def collideOtherSpec : ChangeSpec := { name := "collideOther", fn := fun _ => fun
  | [d] => { results := [.lit (.bool true)], args := [d] }
  | _ => none }
def collideOtherRow : OpenClaim := { program := "ytcokmmhkajmkhaa", sum := "3a90db2ab484639f145498459d6e980d10478a8ebfec970d9f12cb79630f2282", func := "millstream/millstreamlaw15.CollideOther", spec := "collideOther", unfollowed := true, recurses := true, apart := false }
def CollideOtherSaid : Prop := collideOtherRow.holds Try.pinned (OpenSpec.ofChange collideOtherSpec)

/-- ITS FALSE NEIGHBOUR: 'it returns false'. Refute it at one input. -/
def collideOtherWrong : ChangeSpec := { name := "collideOther", fn := fun _ => fun
  | [d] => { results := [.lit (.bool false)], args := [d] }
  | _ => none }
def CollideOtherWrongFalsely : Prop := collideOtherRow.holds Try.pinned (OpenSpec.ofChange collideOtherWrong)

/- THE SECOND FORM. 'bulk': how many values and letters a reading holds, each counted each time it is reached (what is shared counts as often as it is met; a slice's spare places count too). A statement '..UptoSaid' is the law's where the arguments, and the package variables that the reading takes, are together of bulk at most 1048576: NARROWER than '..Said'. Prove '..Said' where nothing that the law and all that it calls make is longer than what came in: it says more and counts as full. Else prove '..UptoSaid'. A law counts once. -/
mutual
def uptoBulk {H : Type} : DataW H → Nat
  | .lit (.string bytes) => bytes.length + 1
  | .lit _ => 1
  | .nil => 1
  | .ptr d => uptoBulk d + 1
  | .slice elems spare => uptoBulkAll elems + uptoBulkAll spare + 1
  | .agg parts => uptoBulkAll parts + 1
  | .iface _ d => uptoBulk d + 1
  | .map entries => uptoBulkEntries entries + 1
  | .held _ => 1
def uptoBulkAll {H : Type} : List (DataW H) → Nat
  | [] => 0
  | d :: r => uptoBulk d + uptoBulkAll r
def uptoBulkEntries {H : Type} : List (Lit × DataW H) → Nat
  | [] => 0
  | x :: r => uptoBulkEntry x + uptoBulkEntries r
def uptoBulkEntry {H : Type} : Lit × DataW H → Nat
  | (.string bytes, d) => bytes.length + uptoBulk d + 1
  | (_, d) => uptoBulk d + 1
 end
def uptoSmall : (H : Type) → List (DataW H) → Bool := fun _ ds => decide (uptoBulkAll ds ≤ 1048576)
def OpenSpec.upto (s : _root_.Go.ChangeSpec) : _root_.Go.OpenSpec := { _root_.Go.OpenSpec.ofChange s with cond := some uptoSmall }

/-- 'millstreamlaw18.HistoryTells', WHERE WHAT IT READS IS OF BULK AT MOST 1048576: true; the input reads as it did. -/
def historyTellsUptoRow : OpenClaim := { program := "ytcokmmhkajmkhaa", sum := "3a90db2ab484639f145498459d6e980d10478a8ebfec970d9f12cb79630f2282", func := "millstream/millstreamlaw18.HistoryTells", spec := "historyTells", unfollowed := true, recurses := true, apart := false, narrowed := true }
def HistoryTellsUptoSaid : Prop := historyTellsUptoRow.holds Try.pinned (OpenSpec.upto historyTellsSpec)

/-- 'millstreamlaw18.HistoryRefused', WHERE WHAT IT READS IS OF BULK AT MOST 1048576: true; the input reads as it did. -/
def historyRefusedUptoRow : OpenClaim := { program := "ytcokmmhkajmkhaa", sum := "3a90db2ab484639f145498459d6e980d10478a8ebfec970d9f12cb79630f2282", func := "millstream/millstreamlaw18.HistoryRefused", spec := "historyRefused", unfollowed := true, recurses := true, apart := false, narrowed := true }
def HistoryRefusedUptoSaid : Prop := historyRefusedUptoRow.holds Try.pinned (OpenSpec.upto historyRefusedSpec)

/-- 'millstreamlaw18.HistoryParts', WHERE WHAT IT READS IS OF BULK AT MOST 1048576: true; the input reads as it did. -/
def historyPartsUptoRow : OpenClaim := { program := "ytcokmmhkajmkhaa", sum := "3a90db2ab484639f145498459d6e980d10478a8ebfec970d9f12cb79630f2282", func := "millstream/millstreamlaw18.HistoryParts", spec := "historyParts", unfollowed := true, recurses := true, apart := false, narrowed := true }
def HistoryPartsUptoSaid : Prop := historyPartsUptoRow.holds Try.pinned (OpenSpec.upto historyPartsSpec)

/-- 'millstreamlaw13.ClimbSteps', WHERE WHAT IT READS IS OF BULK AT MOST 1048576: true; the input reads as it did. -/
def climbStepsUptoRow : OpenClaim := { program := "ytcokmmhkajmkhaa", sum := "3a90db2ab484639f145498459d6e980d10478a8ebfec970d9f12cb79630f2282", func := "millstream/millstreamlaw13.ClimbSteps", spec := "climbSteps", unfollowed := true, recurses := true, apart := false, narrowed := true }
def ClimbStepsUptoSaid : Prop := climbStepsUptoRow.holds Try.pinned (OpenSpec.upto climbStepsSpec)

/-- 'millstreamlaw13.ClimbAlone', WHERE WHAT IT READS IS OF BULK AT MOST 1048576: true; the input reads as it did. -/
def climbAloneUptoRow : OpenClaim := { program := "ytcokmmhkajmkhaa", sum := "3a90db2ab484639f145498459d6e980d10478a8ebfec970d9f12cb79630f2282", func := "millstream/millstreamlaw13.ClimbAlone", spec := "climbAlone", unfollowed := true, recurses := true, apart := false, narrowed := true }
def ClimbAloneUptoSaid : Prop := climbAloneUptoRow.holds Try.pinned (OpenSpec.upto climbAloneSpec)

/-- 'millstreamlaw13.ClimbJoins', WHERE WHAT IT READS IS OF BULK AT MOST 1048576: true; the input reads as it did. -/
def climbJoinsUptoRow : OpenClaim := { program := "ytcokmmhkajmkhaa", sum := "3a90db2ab484639f145498459d6e980d10478a8ebfec970d9f12cb79630f2282", func := "millstream/millstreamlaw13.ClimbJoins", spec := "climbJoins", unfollowed := true, recurses := true, apart := false, narrowed := true }
def ClimbJoinsUptoSaid : Prop := climbJoinsUptoRow.holds Try.pinned (OpenSpec.upto climbJoinsSpec)

/-- 'millstreamlaw13.ClimbRace', WHERE WHAT IT READS IS OF BULK AT MOST 1048576: true; the input reads as it did. -/
def climbRaceUptoRow : OpenClaim := { program := "ytcokmmhkajmkhaa", sum := "3a90db2ab484639f145498459d6e980d10478a8ebfec970d9f12cb79630f2282", func := "millstream/millstreamlaw13.ClimbRace", spec := "climbRace", unfollowed := true, recurses := true, apart := false, narrowed := true }
def ClimbRaceUptoSaid : Prop := climbRaceUptoRow.holds Try.pinned (OpenSpec.upto climbRaceSpec)

/-- 'millstreamlaw13.ClimbDown', WHERE WHAT IT READS IS OF BULK AT MOST 1048576: true; the input reads as it did. -/
def climbDownUptoRow : OpenClaim := { program := "ytcokmmhkajmkhaa", sum := "3a90db2ab484639f145498459d6e980d10478a8ebfec970d9f12cb79630f2282", func := "millstream/millstreamlaw13.ClimbDown", spec := "climbDown", unfollowed := true, recurses := true, apart := false, narrowed := true }
def ClimbDownUptoSaid : Prop := climbDownUptoRow.holds Try.pinned (OpenSpec.upto climbDownSpec)

/-- 'millstreamlaw13.ClimbOther', WHERE WHAT IT READS IS OF BULK AT MOST 1048576: true; the input reads as it did. -/
def climbOtherUptoRow : OpenClaim := { program := "ytcokmmhkajmkhaa", sum := "3a90db2ab484639f145498459d6e980d10478a8ebfec970d9f12cb79630f2282", func := "millstream/millstreamlaw13.ClimbOther", spec := "climbOther", unfollowed := true, recurses := true, apart := false, narrowed := true }
def ClimbOtherUptoSaid : Prop := climbOtherUptoRow.holds Try.pinned (OpenSpec.upto climbOtherSpec)

/-- 'millstreamlaw18.HistoryLinear', WHERE WHAT IT READS IS OF BULK AT MOST 1048576: true; the input reads as it did. -/
def historyLinearUptoRow : OpenClaim := { program := "ytcokmmhkajmkhaa", sum := "3a90db2ab484639f145498459d6e980d10478a8ebfec970d9f12cb79630f2282", func := "millstream/millstreamlaw18.HistoryLinear", spec := "historyLinear", unfollowed := true, recurses := true, apart := false, narrowed := true }
def HistoryLinearUptoSaid : Prop := historyLinearUptoRow.holds Try.pinned (OpenSpec.upto historyLinearSpec)

/-- 'millstreamlaw14.GatherSteps', WHERE WHAT IT READS IS OF BULK AT MOST 1048576: true; the input reads as it did. -/
def gatherStepsUptoRow : OpenClaim := { program := "ytcokmmhkajmkhaa", sum := "3a90db2ab484639f145498459d6e980d10478a8ebfec970d9f12cb79630f2282", func := "millstream/millstreamlaw14.GatherSteps", spec := "gatherSteps", unfollowed := true, recurses := true, apart := false, narrowed := true }
def GatherStepsUptoSaid : Prop := gatherStepsUptoRow.holds Try.pinned (OpenSpec.upto gatherStepsSpec)

/-- 'millstreamlaw14.GatherAll', WHERE WHAT IT READS IS OF BULK AT MOST 1048576: true; the input reads as it did. -/
def gatherAllUptoRow : OpenClaim := { program := "ytcokmmhkajmkhaa", sum := "3a90db2ab484639f145498459d6e980d10478a8ebfec970d9f12cb79630f2282", func := "millstream/millstreamlaw14.GatherAll", spec := "gatherAll", unfollowed := true, recurses := true, apart := false, narrowed := true }
def GatherAllUptoSaid : Prop := gatherAllUptoRow.holds Try.pinned (OpenSpec.upto gatherAllSpec)

/-- 'millstreamlaw14.GatherLeaves', WHERE WHAT IT READS IS OF BULK AT MOST 1048576: true; the input reads as it did. -/
def gatherLeavesUptoRow : OpenClaim := { program := "ytcokmmhkajmkhaa", sum := "3a90db2ab484639f145498459d6e980d10478a8ebfec970d9f12cb79630f2282", func := "millstream/millstreamlaw14.GatherLeaves", spec := "gatherLeaves", unfollowed := true, recurses := true, apart := false, narrowed := true }
def GatherLeavesUptoSaid : Prop := gatherLeavesUptoRow.holds Try.pinned (OpenSpec.upto gatherLeavesSpec)

/-- 'millstreamlaw14.GatherWaits', WHERE WHAT IT READS IS OF BULK AT MOST 1048576: true; the input reads as it did. -/
def gatherWaitsUptoRow : OpenClaim := { program := "ytcokmmhkajmkhaa", sum := "3a90db2ab484639f145498459d6e980d10478a8ebfec970d9f12cb79630f2282", func := "millstream/millstreamlaw14.GatherWaits", spec := "gatherWaits", unfollowed := true, recurses := true, apart := false, narrowed := true }
def GatherWaitsUptoSaid : Prop := gatherWaitsUptoRow.holds Try.pinned (OpenSpec.upto gatherWaitsSpec)

/-- 'millstreamlaw14.GatherRace', WHERE WHAT IT READS IS OF BULK AT MOST 1048576: true; the input reads as it did. -/
def gatherRaceUptoRow : OpenClaim := { program := "ytcokmmhkajmkhaa", sum := "3a90db2ab484639f145498459d6e980d10478a8ebfec970d9f12cb79630f2282", func := "millstream/millstreamlaw14.GatherRace", spec := "gatherRace", unfollowed := true, recurses := true, apart := false, narrowed := true }
def GatherRaceUptoSaid : Prop := gatherRaceUptoRow.holds Try.pinned (OpenSpec.upto gatherRaceSpec)

/-- 'millstreamlaw15.CollideSteps', WHERE WHAT IT READS IS OF BULK AT MOST 1048576: true; the input reads as it did. -/
def collideStepsUptoRow : OpenClaim := { program := "ytcokmmhkajmkhaa", sum := "3a90db2ab484639f145498459d6e980d10478a8ebfec970d9f12cb79630f2282", func := "millstream/millstreamlaw15.CollideSteps", spec := "collideSteps", unfollowed := true, recurses := true, apart := false, narrowed := true }
def CollideStepsUptoSaid : Prop := collideStepsUptoRow.holds Try.pinned (OpenSpec.upto collideStepsSpec)

/-- 'millstreamlaw15.CollideAlone', WHERE WHAT IT READS IS OF BULK AT MOST 1048576: true; the input reads as it did. -/
def collideAloneUptoRow : OpenClaim := { program := "ytcokmmhkajmkhaa", sum := "3a90db2ab484639f145498459d6e980d10478a8ebfec970d9f12cb79630f2282", func := "millstream/millstreamlaw15.CollideAlone", spec := "collideAlone", unfollowed := true, recurses := true, apart := false, narrowed := true }
def CollideAloneUptoSaid : Prop := collideAloneUptoRow.holds Try.pinned (OpenSpec.upto collideAloneSpec)

/-- 'millstreamlaw15.CollideMeets', WHERE WHAT IT READS IS OF BULK AT MOST 1048576: true; the input reads as it did. -/
def collideMeetsUptoRow : OpenClaim := { program := "ytcokmmhkajmkhaa", sum := "3a90db2ab484639f145498459d6e980d10478a8ebfec970d9f12cb79630f2282", func := "millstream/millstreamlaw15.CollideMeets", spec := "collideMeets", unfollowed := true, recurses := true, apart := false, narrowed := true }
def CollideMeetsUptoSaid : Prop := collideMeetsUptoRow.holds Try.pinned (OpenSpec.upto collideMeetsSpec)

/-- 'millstreamlaw15.CollideCaught', WHERE WHAT IT READS IS OF BULK AT MOST 1048576: true; the input reads as it did. -/
def collideCaughtUptoRow : OpenClaim := { program := "ytcokmmhkajmkhaa", sum := "3a90db2ab484639f145498459d6e980d10478a8ebfec970d9f12cb79630f2282", func := "millstream/millstreamlaw15.CollideCaught", spec := "collideCaught", unfollowed := true, recurses := true, apart := false, narrowed := true }
def CollideCaughtUptoSaid : Prop := collideCaughtUptoRow.holds Try.pinned (OpenSpec.upto collideCaughtSpec)

/-- 'millstreamlaw15.CollideSelf', WHERE WHAT IT READS IS OF BULK AT MOST 1048576: true; the input reads as it did. -/
def collideSelfUptoRow : OpenClaim := { program := "ytcokmmhkajmkhaa", sum := "3a90db2ab484639f145498459d6e980d10478a8ebfec970d9f12cb79630f2282", func := "millstream/millstreamlaw15.CollideSelf", spec := "collideSelf", unfollowed := true, recurses := true, apart := false, narrowed := true }
def CollideSelfUptoSaid : Prop := collideSelfUptoRow.holds Try.pinned (OpenSpec.upto collideSelfSpec)

/-- 'millstreamlaw15.CollideSpins', WHERE WHAT IT READS IS OF BULK AT MOST 1048576: true; the input reads as it did. -/
def collideSpinsUptoRow : OpenClaim := { program := "ytcokmmhkajmkhaa", sum := "3a90db2ab484639f145498459d6e980d10478a8ebfec970d9f12cb79630f2282", func := "millstream/millstreamlaw15.CollideSpins", spec := "collideSpins", unfollowed := true, recurses := true, apart := false, narrowed := true }
def CollideSpinsUptoSaid : Prop := collideSpinsUptoRow.holds Try.pinned (OpenSpec.upto collideSpinsSpec)

/-- 'millstreamlaw15.CollideOther', WHERE WHAT IT READS IS OF BULK AT MOST 1048576: true; the input reads as it did. -/
def collideOtherUptoRow : OpenClaim := { program := "ytcokmmhkajmkhaa", sum := "3a90db2ab484639f145498459d6e980d10478a8ebfec970d9f12cb79630f2282", func := "millstream/millstreamlaw15.CollideOther", spec := "collideOther", unfollowed := true, recurses := true, apart := false, narrowed := true }
def CollideOtherUptoSaid : Prop := collideOtherUptoRow.holds Try.pinned (OpenSpec.upto collideOtherSpec)

end Rows
end Go.Proofs.Ytcokmmhkajmkhaa
