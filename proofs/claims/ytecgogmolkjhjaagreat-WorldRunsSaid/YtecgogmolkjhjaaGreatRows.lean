/-
  No cell of these rows narrows 'for every input' (looked for: loops, veiled, ifaces, maps, wideKeys, modest, calm, conditions, laid).
  DERIVED. THE GIVEN ROWS OF THIS SEAT. 13 by the template 'for every input the law returns true; each argument reads behind the call as it read before'; 0 by the template 'total and deterministic' (their statements: YtecgogmolkjhjaaGreatTotals.lean).
  GIVEN WITH THE SEED: the statements are not yours to turn. If you find one false, say at which input.
  Laid BY PROGRAM, IN A SANDBOX (cutbox-rows.mjs): the forced cells as the released guide's own fill.sh prints them over the translation 5683db4ce4bc04e9… (all of the seat's roots in one cut). By AI agents, Wed Nov 11 2026. No macro, syntax, notation, axiom, sorry.
-/
import Derived.Test.YtecgogmolkjhjaaGreatChecked
import GoSem.Claim
import GoSem.ClaimJoined
import GoSem.ClaimMapViews
import Derived.JoinedTies
import Derived.KernelRfl
namespace Go.Proofs.YtecgogmolkjhjaaGreat
/- THE CELL 'sum', in the pinned program and in every row, IS THE sha256 OF THE DUMP (.gsa) THAT YtecgogmolkjhjaaGreatProg.lean LOADS. Nothing in Lean hashes anything: it is a label: what it is worth is what the hold of that sum in a sandbox is worth. -/
noncomputable def Tryz.pinned : Pinned := { name := "ytecgogmolkjhjaagreat", sum := "5683db4ce4bc04e9b12f7063c4c2865682bf78d364504c8213b816dffe6d0437", checked := Tryz.checked }
namespace Rows
def none {H : Type} : Left H := { results := [], args := [] }

/-- 'millstreamlaw16.MachineIdle': WHATEVER THE INPUT: true; the input reads as it did. -/
def machineIdleSpec : ChangeSpec := { name := "machineIdle", fn := fun _ => fun
  | [d1, d2] => { results := [.lit (.bool true)], args := [d1, d2] }
  | _ => none }
def machineIdleRow : OpenClaim := { program := "ytecgogmolkjhjaagreat", sum := "5683db4ce4bc04e9b12f7063c4c2865682bf78d364504c8213b816dffe6d0437", func := "millstream/millstreamlaw16.MachineIdle", spec := "machineIdle", unfollowed := true, recurses := true, apart := false }
def MachineIdleSaid : Prop := machineIdleRow.holds Tryz.pinned (OpenSpec.ofChange machineIdleSpec)

/-- ITS FALSE NEIGHBOUR: 'it returns false'. Refute it at one input. -/
def machineIdleWrong : ChangeSpec := { name := "machineIdle", fn := fun _ => fun
  | [d1, d2] => { results := [.lit (.bool false)], args := [d1, d2] }
  | _ => none }
def MachineIdleWrongFalsely : Prop := machineIdleRow.holds Tryz.pinned (OpenSpec.ofChange machineIdleWrong)

/-- 'millstreamlaw16.MachineCell': WHATEVER THE INPUT: true; the input reads as it did. -/
def machineCellSpec : ChangeSpec := { name := "machineCell", fn := fun _ => fun
  | [d1, d2, d3, d4] => { results := [.lit (.bool true)], args := [d1, d2, d3, d4] }
  | _ => none }
def machineCellRow : OpenClaim := { program := "ytecgogmolkjhjaagreat", sum := "5683db4ce4bc04e9b12f7063c4c2865682bf78d364504c8213b816dffe6d0437", func := "millstream/millstreamlaw16.MachineCell", spec := "machineCell", unfollowed := true, recurses := true, apart := false }
def MachineCellSaid : Prop := machineCellRow.holds Tryz.pinned (OpenSpec.ofChange machineCellSpec)

/-- ITS FALSE NEIGHBOUR: 'it returns false'. Refute it at one input. -/
def machineCellWrong : ChangeSpec := { name := "machineCell", fn := fun _ => fun
  | [d1, d2, d3, d4] => { results := [.lit (.bool false)], args := [d1, d2, d3, d4] }
  | _ => none }
def MachineCellWrongFalsely : Prop := machineCellRow.holds Tryz.pinned (OpenSpec.ofChange machineCellWrong)

/-- 'millstreamlaw16.MachineLogs': WHATEVER THE INPUT: true; the input reads as it did. -/
def machineLogsSpec : ChangeSpec := { name := "machineLogs", fn := fun _ => fun
  | [d] => { results := [.lit (.bool true)], args := [d] }
  | _ => none }
def machineLogsRow : OpenClaim := { program := "ytecgogmolkjhjaagreat", sum := "5683db4ce4bc04e9b12f7063c4c2865682bf78d364504c8213b816dffe6d0437", func := "millstream/millstreamlaw16.MachineLogs", spec := "machineLogs", unfollowed := true, recurses := true, apart := false }
def MachineLogsSaid : Prop := machineLogsRow.holds Tryz.pinned (OpenSpec.ofChange machineLogsSpec)

/-- ITS FALSE NEIGHBOUR: 'it returns false'. Refute it at one input. -/
def machineLogsWrong : ChangeSpec := { name := "machineLogs", fn := fun _ => fun
  | [d] => { results := [.lit (.bool false)], args := [d] }
  | _ => none }
def MachineLogsWrongFalsely : Prop := machineLogsRow.holds Tryz.pinned (OpenSpec.ofChange machineLogsWrong)

/-- 'millstreamlaw16.MachineOne': WHATEVER THE INPUT: true; the input reads as it did. -/
def machineOneSpec : ChangeSpec := { name := "machineOne", fn := fun _ => fun
  | [d] => { results := [.lit (.bool true)], args := [d] }
  | _ => none }
def machineOneRow : OpenClaim := { program := "ytecgogmolkjhjaagreat", sum := "5683db4ce4bc04e9b12f7063c4c2865682bf78d364504c8213b816dffe6d0437", func := "millstream/millstreamlaw16.MachineOne", spec := "machineOne", unfollowed := true, recurses := true, apart := false }
def MachineOneSaid : Prop := machineOneRow.holds Tryz.pinned (OpenSpec.ofChange machineOneSpec)

/-- ITS FALSE NEIGHBOUR: 'it returns false'. Refute it at one input. -/
def machineOneWrong : ChangeSpec := { name := "machineOne", fn := fun _ => fun
  | [d] => { results := [.lit (.bool false)], args := [d] }
  | _ => none }
def MachineOneWrongFalsely : Prop := machineOneRow.holds Tryz.pinned (OpenSpec.ofChange machineOneWrong)

/-- 'millstreamlaw16.MachineAlone': WHATEVER THE INPUT: true; the input reads as it did. -/
def machineAloneSpec : ChangeSpec := { name := "machineAlone", fn := fun _ => fun
  | [d1, d2, d3, d4, d5] => { results := [.lit (.bool true)], args := [d1, d2, d3, d4, d5] }
  | _ => none }
def machineAloneRow : OpenClaim := { program := "ytecgogmolkjhjaagreat", sum := "5683db4ce4bc04e9b12f7063c4c2865682bf78d364504c8213b816dffe6d0437", func := "millstream/millstreamlaw16.MachineAlone", spec := "machineAlone", unfollowed := true, recurses := true, apart := false }
def MachineAloneSaid : Prop := machineAloneRow.holds Tryz.pinned (OpenSpec.ofChange machineAloneSpec)

/-- ITS FALSE NEIGHBOUR: 'it returns false'. Refute it at one input. -/
def machineAloneWrong : ChangeSpec := { name := "machineAlone", fn := fun _ => fun
  | [d1, d2, d3, d4, d5] => { results := [.lit (.bool false)], args := [d1, d2, d3, d4, d5] }
  | _ => none }
def MachineAloneWrongFalsely : Prop := machineAloneRow.holds Tryz.pinned (OpenSpec.ofChange machineAloneWrong)

/-- 'millstreamlaw17.WorldRuns': WHATEVER THE INPUT: true; the input reads as it did. -/
def worldRunsSpec : ChangeSpec := { name := "worldRuns", fn := fun _ => fun
  | [d1, d2, d3] => { results := [.lit (.bool true)], args := [d1, d2, d3] }
  | _ => none }
def worldRunsRow : OpenClaim := { program := "ytecgogmolkjhjaagreat", sum := "5683db4ce4bc04e9b12f7063c4c2865682bf78d364504c8213b816dffe6d0437", func := "millstream/millstreamlaw17.WorldRuns", spec := "worldRuns", unfollowed := true, recurses := true, apart := false }
def WorldRunsSaid : Prop := worldRunsRow.holds Tryz.pinned (OpenSpec.ofChange worldRunsSpec)

/-- ITS FALSE NEIGHBOUR: 'it returns false'. Refute it at one input. -/
def worldRunsWrong : ChangeSpec := { name := "worldRuns", fn := fun _ => fun
  | [d1, d2, d3] => { results := [.lit (.bool false)], args := [d1, d2, d3] }
  | _ => none }
def WorldRunsWrongFalsely : Prop := worldRunsRow.holds Tryz.pinned (OpenSpec.ofChange worldRunsWrong)

/-- 'millstreamlaw17.WorldLinear': WHATEVER THE INPUT: true; the input reads as it did. -/
def worldLinearSpec : ChangeSpec := { name := "worldLinear", fn := fun _ => fun
  | [d1, d2, d3] => { results := [.lit (.bool true)], args := [d1, d2, d3] }
  | _ => none }
def worldLinearRow : OpenClaim := { program := "ytecgogmolkjhjaagreat", sum := "5683db4ce4bc04e9b12f7063c4c2865682bf78d364504c8213b816dffe6d0437", func := "millstream/millstreamlaw17.WorldLinear", spec := "worldLinear", unfollowed := true, recurses := true, apart := false }
def WorldLinearSaid : Prop := worldLinearRow.holds Tryz.pinned (OpenSpec.ofChange worldLinearSpec)

/-- ITS FALSE NEIGHBOUR: 'it returns false'. Refute it at one input. -/
def worldLinearWrong : ChangeSpec := { name := "worldLinear", fn := fun _ => fun
  | [d1, d2, d3] => { results := [.lit (.bool false)], args := [d1, d2, d3] }
  | _ => none }
def WorldLinearWrongFalsely : Prop := worldLinearRow.holds Tryz.pinned (OpenSpec.ofChange worldLinearWrong)

/-- 'millstreamlaw17.WorldTicks': WHATEVER THE INPUT: true; the input reads as it did. -/
def worldTicksSpec : ChangeSpec := { name := "worldTicks", fn := fun _ => fun
  | [d1, d2, d3, d4] => { results := [.lit (.bool true)], args := [d1, d2, d3, d4] }
  | _ => none }
def worldTicksRow : OpenClaim := { program := "ytecgogmolkjhjaagreat", sum := "5683db4ce4bc04e9b12f7063c4c2865682bf78d364504c8213b816dffe6d0437", func := "millstream/millstreamlaw17.WorldTicks", spec := "worldTicks", unfollowed := true, recurses := true, apart := false }
def WorldTicksSaid : Prop := worldTicksRow.holds Tryz.pinned (OpenSpec.ofChange worldTicksSpec)

/-- ITS FALSE NEIGHBOUR: 'it returns false'. Refute it at one input. -/
def worldTicksWrong : ChangeSpec := { name := "worldTicks", fn := fun _ => fun
  | [d1, d2, d3, d4] => { results := [.lit (.bool false)], args := [d1, d2, d3, d4] }
  | _ => none }
def WorldTicksWrongFalsely : Prop := worldTicksRow.holds Tryz.pinned (OpenSpec.ofChange worldTicksWrong)

/-- 'millstreamlaw17.WorldAsked': WHATEVER THE INPUT: true; the input reads as it did. -/
def worldAskedSpec : ChangeSpec := { name := "worldAsked", fn := fun _ => fun
  | [d1, d2, d3] => { results := [.lit (.bool true)], args := [d1, d2, d3] }
  | _ => none }
def worldAskedRow : OpenClaim := { program := "ytecgogmolkjhjaagreat", sum := "5683db4ce4bc04e9b12f7063c4c2865682bf78d364504c8213b816dffe6d0437", func := "millstream/millstreamlaw17.WorldAsked", spec := "worldAsked", unfollowed := true, recurses := true, apart := false }
def WorldAskedSaid : Prop := worldAskedRow.holds Tryz.pinned (OpenSpec.ofChange worldAskedSpec)

/-- ITS FALSE NEIGHBOUR: 'it returns false'. Refute it at one input. -/
def worldAskedWrong : ChangeSpec := { name := "worldAsked", fn := fun _ => fun
  | [d1, d2, d3] => { results := [.lit (.bool false)], args := [d1, d2, d3] }
  | _ => none }
def WorldAskedWrongFalsely : Prop := worldAskedRow.holds Tryz.pinned (OpenSpec.ofChange worldAskedWrong)

/-- 'millstreamlaw17.WorldSteps': WHATEVER THE INPUT: true; the input reads as it did. -/
def worldStepsSpec : ChangeSpec := { name := "worldSteps", fn := fun _ => fun
  | [d1, d2, d3] => { results := [.lit (.bool true)], args := [d1, d2, d3] }
  | _ => none }
def worldStepsRow : OpenClaim := { program := "ytecgogmolkjhjaagreat", sum := "5683db4ce4bc04e9b12f7063c4c2865682bf78d364504c8213b816dffe6d0437", func := "millstream/millstreamlaw17.WorldSteps", spec := "worldSteps", unfollowed := true, recurses := true, apart := false }
def WorldStepsSaid : Prop := worldStepsRow.holds Tryz.pinned (OpenSpec.ofChange worldStepsSpec)

/-- ITS FALSE NEIGHBOUR: 'it returns false'. Refute it at one input. -/
def worldStepsWrong : ChangeSpec := { name := "worldSteps", fn := fun _ => fun
  | [d1, d2, d3] => { results := [.lit (.bool false)], args := [d1, d2, d3] }
  | _ => none }
def WorldStepsWrongFalsely : Prop := worldStepsRow.holds Tryz.pinned (OpenSpec.ofChange worldStepsWrong)

/-- 'millstreamlaw17.WorldGoesOn': WHATEVER THE INPUT: true; the input reads as it did. -/
def worldGoesOnSpec : ChangeSpec := { name := "worldGoesOn", fn := fun _ => fun
  | [d1, d2, d3, d4] => { results := [.lit (.bool true)], args := [d1, d2, d3, d4] }
  | _ => none }
def worldGoesOnRow : OpenClaim := { program := "ytecgogmolkjhjaagreat", sum := "5683db4ce4bc04e9b12f7063c4c2865682bf78d364504c8213b816dffe6d0437", func := "millstream/millstreamlaw17.WorldGoesOn", spec := "worldGoesOn", unfollowed := true, recurses := true, apart := false }
def WorldGoesOnSaid : Prop := worldGoesOnRow.holds Tryz.pinned (OpenSpec.ofChange worldGoesOnSpec)

/-- ITS FALSE NEIGHBOUR: 'it returns false'. Refute it at one input. -/
def worldGoesOnWrong : ChangeSpec := { name := "worldGoesOn", fn := fun _ => fun
  | [d1, d2, d3, d4] => { results := [.lit (.bool false)], args := [d1, d2, d3, d4] }
  | _ => none }
def WorldGoesOnWrongFalsely : Prop := worldGoesOnRow.holds Tryz.pinned (OpenSpec.ofChange worldGoesOnWrong)

/-- 'millstreamlaw17.WorldNothing': WHATEVER THE INPUT: true; the input reads as it did. -/
def worldNothingSpec : ChangeSpec := { name := "worldNothing", fn := fun _ => fun
  | [d1, d2, d3, d4, d5, d6] => { results := [.lit (.bool true)], args := [d1, d2, d3, d4, d5, d6] }
  | _ => none }
def worldNothingRow : OpenClaim := { program := "ytecgogmolkjhjaagreat", sum := "5683db4ce4bc04e9b12f7063c4c2865682bf78d364504c8213b816dffe6d0437", func := "millstream/millstreamlaw17.WorldNothing", spec := "worldNothing", unfollowed := true, recurses := true, apart := false }
def WorldNothingSaid : Prop := worldNothingRow.holds Tryz.pinned (OpenSpec.ofChange worldNothingSpec)

/-- ITS FALSE NEIGHBOUR: 'it returns false'. Refute it at one input. -/
def worldNothingWrong : ChangeSpec := { name := "worldNothing", fn := fun _ => fun
  | [d1, d2, d3, d4, d5, d6] => { results := [.lit (.bool false)], args := [d1, d2, d3, d4, d5, d6] }
  | _ => none }
def WorldNothingWrongFalsely : Prop := worldNothingRow.holds Tryz.pinned (OpenSpec.ofChange worldNothingWrong)

/-- 'millstreamlaw17.WorldRefuses': WHATEVER THE INPUT: true; the input reads as it did. -/
def worldRefusesSpec : ChangeSpec := { name := "worldRefuses", fn := fun _ => fun
  | [d1, d2, d3, d4, d5] => { results := [.lit (.bool true)], args := [d1, d2, d3, d4, d5] }
  | _ => none }
def worldRefusesRow : OpenClaim := { program := "ytecgogmolkjhjaagreat", sum := "5683db4ce4bc04e9b12f7063c4c2865682bf78d364504c8213b816dffe6d0437", func := "millstream/millstreamlaw17.WorldRefuses", spec := "worldRefuses", unfollowed := true, recurses := true, apart := false }
def WorldRefusesSaid : Prop := worldRefusesRow.holds Tryz.pinned (OpenSpec.ofChange worldRefusesSpec)

/-- ITS FALSE NEIGHBOUR: 'it returns false'. Refute it at one input. -/
def worldRefusesWrong : ChangeSpec := { name := "worldRefuses", fn := fun _ => fun
  | [d1, d2, d3, d4, d5] => { results := [.lit (.bool false)], args := [d1, d2, d3, d4, d5] }
  | _ => none }
def WorldRefusesWrongFalsely : Prop := worldRefusesRow.holds Tryz.pinned (OpenSpec.ofChange worldRefusesWrong)

/- THE SECOND FORM. 'bulk': how many values and letters a reading holds, each counted each time it is reached (what is shared counts as often as it is met; a slice's spare places count too). A statement '..UptoSaid' is the law's where the arguments, and the package variables that the reading takes, are together of bulk at most 1048576: NARROWER than '..Said'. Prove '..Said' where nothing that the law and all that it calls make is longer than what came in: it says more and counts as full. Else prove '..UptoSaid'. A law counts once. -/
mutual
def uptoBulk {H : Type} : DataW H → Nat
  | .lit (.string bytes) => bytes.length + 1
  | .lit _ => 1
  | .nil => 1
  | .ptr d => uptoBulk d + 1
  | .slice elems spare => uptoBulkAll elems + uptoBulkAll spare + 1
  | .agg parts => uptoBulkAll parts + 1
  | .iface _ d => uptoBulk d + 1
  | .map entries => uptoBulkEntries entries + 1
  | .held _ => 1
def uptoBulkAll {H : Type} : List (DataW H) → Nat
  | [] => 0
  | d :: r => uptoBulk d + uptoBulkAll r
def uptoBulkEntries {H : Type} : List (Lit × DataW H) → Nat
  | [] => 0
  | x :: r => uptoBulkEntry x + uptoBulkEntries r
def uptoBulkEntry {H : Type} : Lit × DataW H → Nat
  | (.string bytes, d) => bytes.length + uptoBulk d + 1
  | (_, d) => uptoBulk d + 1
 end
def uptoSmall : (H : Type) → List (DataW H) → Bool := fun _ ds => decide (uptoBulkAll ds ≤ 1048576)
def OpenSpec.upto (s : _root_.Go.ChangeSpec) : _root_.Go.OpenSpec := { _root_.Go.OpenSpec.ofChange s with cond := some uptoSmall }

/-- 'millstreamlaw16.MachineIdle', WHERE WHAT IT READS IS OF BULK AT MOST 1048576: true; the input reads as it did. -/
def machineIdleUptoRow : OpenClaim := { program := "ytecgogmolkjhjaagreat", sum := "5683db4ce4bc04e9b12f7063c4c2865682bf78d364504c8213b816dffe6d0437", func := "millstream/millstreamlaw16.MachineIdle", spec := "machineIdle", unfollowed := true, recurses := true, apart := false, narrowed := true }
def MachineIdleUptoSaid : Prop := machineIdleUptoRow.holds Tryz.pinned (OpenSpec.upto machineIdleSpec)

/-- 'millstreamlaw16.MachineCell', WHERE WHAT IT READS IS OF BULK AT MOST 1048576: true; the input reads as it did. -/
def machineCellUptoRow : OpenClaim := { program := "ytecgogmolkjhjaagreat", sum := "5683db4ce4bc04e9b12f7063c4c2865682bf78d364504c8213b816dffe6d0437", func := "millstream/millstreamlaw16.MachineCell", spec := "machineCell", unfollowed := true, recurses := true, apart := false, narrowed := true }
def MachineCellUptoSaid : Prop := machineCellUptoRow.holds Tryz.pinned (OpenSpec.upto machineCellSpec)

/-- 'millstreamlaw16.MachineLogs', WHERE WHAT IT READS IS OF BULK AT MOST 1048576: true; the input reads as it did. -/
def machineLogsUptoRow : OpenClaim := { program := "ytecgogmolkjhjaagreat", sum := "5683db4ce4bc04e9b12f7063c4c2865682bf78d364504c8213b816dffe6d0437", func := "millstream/millstreamlaw16.MachineLogs", spec := "machineLogs", unfollowed := true, recurses := true, apart := false, narrowed := true }
def MachineLogsUptoSaid : Prop := machineLogsUptoRow.holds Tryz.pinned (OpenSpec.upto machineLogsSpec)

/-- 'millstreamlaw16.MachineOne', WHERE WHAT IT READS IS OF BULK AT MOST 1048576: true; the input reads as it did. -/
def machineOneUptoRow : OpenClaim := { program := "ytecgogmolkjhjaagreat", sum := "5683db4ce4bc04e9b12f7063c4c2865682bf78d364504c8213b816dffe6d0437", func := "millstream/millstreamlaw16.MachineOne", spec := "machineOne", unfollowed := true, recurses := true, apart := false, narrowed := true }
def MachineOneUptoSaid : Prop := machineOneUptoRow.holds Tryz.pinned (OpenSpec.upto machineOneSpec)

/-- 'millstreamlaw16.MachineAlone', WHERE WHAT IT READS IS OF BULK AT MOST 1048576: true; the input reads as it did. -/
def machineAloneUptoRow : OpenClaim := { program := "ytecgogmolkjhjaagreat", sum := "5683db4ce4bc04e9b12f7063c4c2865682bf78d364504c8213b816dffe6d0437", func := "millstream/millstreamlaw16.MachineAlone", spec := "machineAlone", unfollowed := true, recurses := true, apart := false, narrowed := true }
def MachineAloneUptoSaid : Prop := machineAloneUptoRow.holds Tryz.pinned (OpenSpec.upto machineAloneSpec)

/-- 'millstreamlaw17.WorldRuns', WHERE WHAT IT READS IS OF BULK AT MOST 1048576: true; the input reads as it did. -/
def worldRunsUptoRow : OpenClaim := { program := "ytecgogmolkjhjaagreat", sum := "5683db4ce4bc04e9b12f7063c4c2865682bf78d364504c8213b816dffe6d0437", func := "millstream/millstreamlaw17.WorldRuns", spec := "worldRuns", unfollowed := true, recurses := true, apart := false, narrowed := true }
def WorldRunsUptoSaid : Prop := worldRunsUptoRow.holds Tryz.pinned (OpenSpec.upto worldRunsSpec)

/-- 'millstreamlaw17.WorldLinear', WHERE WHAT IT READS IS OF BULK AT MOST 1048576: true; the input reads as it did. -/
def worldLinearUptoRow : OpenClaim := { program := "ytecgogmolkjhjaagreat", sum := "5683db4ce4bc04e9b12f7063c4c2865682bf78d364504c8213b816dffe6d0437", func := "millstream/millstreamlaw17.WorldLinear", spec := "worldLinear", unfollowed := true, recurses := true, apart := false, narrowed := true }
def WorldLinearUptoSaid : Prop := worldLinearUptoRow.holds Tryz.pinned (OpenSpec.upto worldLinearSpec)

/-- 'millstreamlaw17.WorldTicks', WHERE WHAT IT READS IS OF BULK AT MOST 1048576: true; the input reads as it did. -/
def worldTicksUptoRow : OpenClaim := { program := "ytecgogmolkjhjaagreat", sum := "5683db4ce4bc04e9b12f7063c4c2865682bf78d364504c8213b816dffe6d0437", func := "millstream/millstreamlaw17.WorldTicks", spec := "worldTicks", unfollowed := true, recurses := true, apart := false, narrowed := true }
def WorldTicksUptoSaid : Prop := worldTicksUptoRow.holds Tryz.pinned (OpenSpec.upto worldTicksSpec)

/-- 'millstreamlaw17.WorldAsked', WHERE WHAT IT READS IS OF BULK AT MOST 1048576: true; the input reads as it did. -/
def worldAskedUptoRow : OpenClaim := { program := "ytecgogmolkjhjaagreat", sum := "5683db4ce4bc04e9b12f7063c4c2865682bf78d364504c8213b816dffe6d0437", func := "millstream/millstreamlaw17.WorldAsked", spec := "worldAsked", unfollowed := true, recurses := true, apart := false, narrowed := true }
def WorldAskedUptoSaid : Prop := worldAskedUptoRow.holds Tryz.pinned (OpenSpec.upto worldAskedSpec)

/-- 'millstreamlaw17.WorldSteps', WHERE WHAT IT READS IS OF BULK AT MOST 1048576: true; the input reads as it did. -/
def worldStepsUptoRow : OpenClaim := { program := "ytecgogmolkjhjaagreat", sum := "5683db4ce4bc04e9b12f7063c4c2865682bf78d364504c8213b816dffe6d0437", func := "millstream/millstreamlaw17.WorldSteps", spec := "worldSteps", unfollowed := true, recurses := true, apart := false, narrowed := true }
def WorldStepsUptoSaid : Prop := worldStepsUptoRow.holds Tryz.pinned (OpenSpec.upto worldStepsSpec)

/-- 'millstreamlaw17.WorldGoesOn', WHERE WHAT IT READS IS OF BULK AT MOST 1048576: true; the input reads as it did. -/
def worldGoesOnUptoRow : OpenClaim := { program := "ytecgogmolkjhjaagreat", sum := "5683db4ce4bc04e9b12f7063c4c2865682bf78d364504c8213b816dffe6d0437", func := "millstream/millstreamlaw17.WorldGoesOn", spec := "worldGoesOn", unfollowed := true, recurses := true, apart := false, narrowed := true }
def WorldGoesOnUptoSaid : Prop := worldGoesOnUptoRow.holds Tryz.pinned (OpenSpec.upto worldGoesOnSpec)

/-- 'millstreamlaw17.WorldNothing', WHERE WHAT IT READS IS OF BULK AT MOST 1048576: true; the input reads as it did. -/
def worldNothingUptoRow : OpenClaim := { program := "ytecgogmolkjhjaagreat", sum := "5683db4ce4bc04e9b12f7063c4c2865682bf78d364504c8213b816dffe6d0437", func := "millstream/millstreamlaw17.WorldNothing", spec := "worldNothing", unfollowed := true, recurses := true, apart := false, narrowed := true }
def WorldNothingUptoSaid : Prop := worldNothingUptoRow.holds Tryz.pinned (OpenSpec.upto worldNothingSpec)

/-- 'millstreamlaw17.WorldRefuses', WHERE WHAT IT READS IS OF BULK AT MOST 1048576: true; the input reads as it did. -/
def worldRefusesUptoRow : OpenClaim := { program := "ytecgogmolkjhjaagreat", sum := "5683db4ce4bc04e9b12f7063c4c2865682bf78d364504c8213b816dffe6d0437", func := "millstream/millstreamlaw17.WorldRefuses", spec := "worldRefuses", unfollowed := true, recurses := true, apart := false, narrowed := true }
def WorldRefusesUptoSaid : Prop := worldRefusesUptoRow.holds Tryz.pinned (OpenSpec.upto worldRefusesSpec)

end Rows
end Go.Proofs.YtecgogmolkjhjaaGreat
