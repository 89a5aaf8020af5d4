/-
  No cell of these rows narrows 'for every input' (looked for: loops, veiled, ifaces, maps, wideKeys, modest, calm, conditions, laid).
  DERIVED. THE GIVEN ROWS OF THIS SEAT. 11 by the template 'for every input the law returns true; each argument reads behind the call as it read before'; 0 by the template 'total and deterministic' (their statements: YtaopdopnecognaaGreatTotals.lean).
  GIVEN WITH THE SEED: the statements are not yours to turn. If you find one false, say at which input.
  Laid BY PROGRAM, IN A SANDBOX (cutbox-rows.mjs): the forced cells as the released guide's own fill.sh prints them over the translation 932886e0d72af386… (all of the seat's roots in one cut). By AI agents, Wed Nov 11 2026. No macro, syntax, notation, axiom, sorry.
-/
import Derived.Test.YtaopdopnecognaaGreatChecked
import GoSem.Claim
import GoSem.ClaimJoined
import GoSem.ClaimMapViews
import Derived.JoinedTies
import Derived.KernelRfl
namespace Go.Proofs.YtaopdopnecognaaGreat
/- THE CELL 'sum', in the pinned program and in every row, IS THE sha256 OF THE DUMP (.gsa) THAT YtaopdopnecognaaGreatProg.lean LOADS. Nothing in Lean hashes anything: it is a label: what it is worth is what the hold of that sum in a sandbox is worth. -/
noncomputable def Tryz.pinned : Pinned := { name := "ytaopdopnecognaagreat", sum := "932886e0d72af386933ca4d4ce31f4589dc423797d37048e659da34a08bd97df", checked := Tryz.checked }
namespace Rows
def none {H : Type} : Left H := { results := [], args := [] }

/-- 'millstreamtop.TopQuiet': WHATEVER THE INPUT: true; the input reads as it did. -/
def topQuietSpec : ChangeSpec := { name := "topQuiet", fn := fun _ => fun
  | [d1, d2, d3] => { results := [.lit (.bool true)], args := [d1, d2, d3] }
  | _ => none }
def topQuietRow : OpenClaim := { program := "ytaopdopnecognaagreat", sum := "932886e0d72af386933ca4d4ce31f4589dc423797d37048e659da34a08bd97df", func := "millstream/millstreamtop.TopQuiet", spec := "topQuiet", unfollowed := true, recurses := true, apart := false }
def TopQuietSaid : Prop := topQuietRow.holds Tryz.pinned (OpenSpec.ofChange topQuietSpec)

/-- ITS FALSE NEIGHBOUR: 'it returns false'. Refute it at one input. -/
def topQuietWrong : ChangeSpec := { name := "topQuiet", fn := fun _ => fun
  | [d1, d2, d3] => { results := [.lit (.bool false)], args := [d1, d2, d3] }
  | _ => none }
def TopQuietWrongFalsely : Prop := topQuietRow.holds Tryz.pinned (OpenSpec.ofChange topQuietWrong)

/-- 'millstreamtop.TopRefused': WHATEVER THE INPUT: true; the input reads as it did. -/
def topRefusedSpec : ChangeSpec := { name := "topRefused", fn := fun _ => fun
  | [d1, d2, d3] => { results := [.lit (.bool true)], args := [d1, d2, d3] }
  | _ => none }
def topRefusedRow : OpenClaim := { program := "ytaopdopnecognaagreat", sum := "932886e0d72af386933ca4d4ce31f4589dc423797d37048e659da34a08bd97df", func := "millstream/millstreamtop.TopRefused", spec := "topRefused", unfollowed := true, recurses := true, apart := false }
def TopRefusedSaid : Prop := topRefusedRow.holds Tryz.pinned (OpenSpec.ofChange topRefusedSpec)

/-- ITS FALSE NEIGHBOUR: 'it returns false'. Refute it at one input. -/
def topRefusedWrong : ChangeSpec := { name := "topRefused", fn := fun _ => fun
  | [d1, d2, d3] => { results := [.lit (.bool false)], args := [d1, d2, d3] }
  | _ => none }
def TopRefusedWrongFalsely : Prop := topRefusedRow.holds Tryz.pinned (OpenSpec.ofChange topRefusedWrong)

/-- 'millstreamtop.TopLinear': WHATEVER THE INPUT: true; the input reads as it did. -/
def topLinearSpec : ChangeSpec := { name := "topLinear", fn := fun _ => fun
  | [d1, d2, d3] => { results := [.lit (.bool true)], args := [d1, d2, d3] }
  | _ => none }
def topLinearRow : OpenClaim := { program := "ytaopdopnecognaagreat", sum := "932886e0d72af386933ca4d4ce31f4589dc423797d37048e659da34a08bd97df", func := "millstream/millstreamtop.TopLinear", spec := "topLinear", unfollowed := true, recurses := true, apart := false }
def TopLinearSaid : Prop := topLinearRow.holds Tryz.pinned (OpenSpec.ofChange topLinearSpec)

/-- ITS FALSE NEIGHBOUR: 'it returns false'. Refute it at one input. -/
def topLinearWrong : ChangeSpec := { name := "topLinear", fn := fun _ => fun
  | [d1, d2, d3] => { results := [.lit (.bool false)], args := [d1, d2, d3] }
  | _ => none }
def TopLinearWrongFalsely : Prop := topLinearRow.holds Tryz.pinned (OpenSpec.ofChange topLinearWrong)

/-- 'millstreamlaw19.FairTells': WHATEVER THE INPUT: true; the input reads as it did. -/
def fairTellsSpec : ChangeSpec := { name := "fairTells", fn := fun _ => fun
  | [d1, d2, d3] => { results := [.lit (.bool true)], args := [d1, d2, d3] }
  | _ => none }
def fairTellsRow : OpenClaim := { program := "ytaopdopnecognaagreat", sum := "932886e0d72af386933ca4d4ce31f4589dc423797d37048e659da34a08bd97df", func := "millstream/millstreamlaw19.FairTells", spec := "fairTells", unfollowed := true, recurses := true, apart := false }
def FairTellsSaid : Prop := fairTellsRow.holds Tryz.pinned (OpenSpec.ofChange fairTellsSpec)

/-- ITS FALSE NEIGHBOUR: 'it returns false'. Refute it at one input. -/
def fairTellsWrong : ChangeSpec := { name := "fairTells", fn := fun _ => fun
  | [d1, d2, d3] => { results := [.lit (.bool false)], args := [d1, d2, d3] }
  | _ => none }
def FairTellsWrongFalsely : Prop := fairTellsRow.holds Tryz.pinned (OpenSpec.ofChange fairTellsWrong)

/-- 'millstreamlaw19.FairSuffix': WHATEVER THE INPUT: true; the input reads as it did. -/
def fairSuffixSpec : ChangeSpec := { name := "fairSuffix", fn := fun _ => fun
  | [d1, d2, d3, d4, d5] => { results := [.lit (.bool true)], args := [d1, d2, d3, d4, d5] }
  | _ => none }
def fairSuffixRow : OpenClaim := { program := "ytaopdopnecognaagreat", sum := "932886e0d72af386933ca4d4ce31f4589dc423797d37048e659da34a08bd97df", func := "millstream/millstreamlaw19.FairSuffix", spec := "fairSuffix", unfollowed := true, recurses := true, apart := false }
def FairSuffixSaid : Prop := fairSuffixRow.holds Tryz.pinned (OpenSpec.ofChange fairSuffixSpec)

/-- ITS FALSE NEIGHBOUR: 'it returns false'. Refute it at one input. -/
def fairSuffixWrong : ChangeSpec := { name := "fairSuffix", fn := fun _ => fun
  | [d1, d2, d3, d4, d5] => { results := [.lit (.bool false)], args := [d1, d2, d3, d4, d5] }
  | _ => none }
def FairSuffixWrongFalsely : Prop := fairSuffixRow.holds Tryz.pinned (OpenSpec.ofChange fairSuffixWrong)

/-- 'millstreamlaw19.FairSolo': WHATEVER THE INPUT: true; the input reads as it did. -/
def fairSoloSpec : ChangeSpec := { name := "fairSolo", fn := fun _ => fun
  | [d1, d2, d3, d4, d5] => { results := [.lit (.bool true)], args := [d1, d2, d3, d4, d5] }
  | _ => none }
def fairSoloRow : OpenClaim := { program := "ytaopdopnecognaagreat", sum := "932886e0d72af386933ca4d4ce31f4589dc423797d37048e659da34a08bd97df", func := "millstream/millstreamlaw19.FairSolo", spec := "fairSolo", unfollowed := true, recurses := true, apart := false }
def FairSoloSaid : Prop := fairSoloRow.holds Tryz.pinned (OpenSpec.ofChange fairSoloSpec)

/-- ITS FALSE NEIGHBOUR: 'it returns false'. Refute it at one input. -/
def fairSoloWrong : ChangeSpec := { name := "fairSolo", fn := fun _ => fun
  | [d1, d2, d3, d4, d5] => { results := [.lit (.bool false)], args := [d1, d2, d3, d4, d5] }
  | _ => none }
def FairSoloWrongFalsely : Prop := fairSoloRow.holds Tryz.pinned (OpenSpec.ofChange fairSoloWrong)

/-- 'millstreamlaw19.FairMore': WHATEVER THE INPUT: true; the input reads as it did. -/
def fairMoreSpec : ChangeSpec := { name := "fairMore", fn := fun _ => fun
  | [d1, d2, d3] => { results := [.lit (.bool true)], args := [d1, d2, d3] }
  | _ => none }
def fairMoreRow : OpenClaim := { program := "ytaopdopnecognaagreat", sum := "932886e0d72af386933ca4d4ce31f4589dc423797d37048e659da34a08bd97df", func := "millstream/millstreamlaw19.FairMore", spec := "fairMore", unfollowed := true, recurses := true, apart := false }
def FairMoreSaid : Prop := fairMoreRow.holds Tryz.pinned (OpenSpec.ofChange fairMoreSpec)

/-- ITS FALSE NEIGHBOUR: 'it returns false'. Refute it at one input. -/
def fairMoreWrong : ChangeSpec := { name := "fairMore", fn := fun _ => fun
  | [d1, d2, d3] => { results := [.lit (.bool false)], args := [d1, d2, d3] }
  | _ => none }
def FairMoreWrongFalsely : Prop := fairMoreRow.holds Tryz.pinned (OpenSpec.ofChange fairMoreWrong)

/-- 'millstreamlaw18.HistoryForged': WHATEVER THE INPUT: true; the input reads as it did. -/
def historyForgedSpec : ChangeSpec := { name := "historyForged", fn := fun _ => fun
  | [d1, d2, d3, d4, d5] => { results := [.lit (.bool true)], args := [d1, d2, d3, d4, d5] }
  | _ => none }
def historyForgedRow : OpenClaim := { program := "ytaopdopnecognaagreat", sum := "932886e0d72af386933ca4d4ce31f4589dc423797d37048e659da34a08bd97df", func := "millstream/millstreamlaw18.HistoryForged", spec := "historyForged", unfollowed := true, recurses := true, apart := false }
def HistoryForgedSaid : Prop := historyForgedRow.holds Tryz.pinned (OpenSpec.ofChange historyForgedSpec)

/-- ITS FALSE NEIGHBOUR: 'it returns false'. Refute it at one input. -/
def historyForgedWrong : ChangeSpec := { name := "historyForged", fn := fun _ => fun
  | [d1, d2, d3, d4, d5] => { results := [.lit (.bool false)], args := [d1, d2, d3, d4, d5] }
  | _ => none }
def HistoryForgedWrongFalsely : Prop := historyForgedRow.holds Tryz.pinned (OpenSpec.ofChange historyForgedWrong)

/-- 'millstreamlaw18.HistoryDropped': WHATEVER THE INPUT: true; the input reads as it did. -/
def historyDroppedSpec : ChangeSpec := { name := "historyDropped", fn := fun _ => fun
  | [d1, d2, d3] => { results := [.lit (.bool true)], args := [d1, d2, d3] }
  | _ => none }
def historyDroppedRow : OpenClaim := { program := "ytaopdopnecognaagreat", sum := "932886e0d72af386933ca4d4ce31f4589dc423797d37048e659da34a08bd97df", func := "millstream/millstreamlaw18.HistoryDropped", spec := "historyDropped", unfollowed := true, recurses := true, apart := false }
def HistoryDroppedSaid : Prop := historyDroppedRow.holds Tryz.pinned (OpenSpec.ofChange historyDroppedSpec)

/-- ITS FALSE NEIGHBOUR: 'it returns false'. Refute it at one input. -/
def historyDroppedWrong : ChangeSpec := { name := "historyDropped", fn := fun _ => fun
  | [d1, d2, d3] => { results := [.lit (.bool false)], args := [d1, d2, d3] }
  | _ => none }
def HistoryDroppedWrongFalsely : Prop := historyDroppedRow.holds Tryz.pinned (OpenSpec.ofChange historyDroppedWrong)

/-- 'millstreamlaw18.HistoryRuns': WHATEVER THE INPUT: true; the input reads as it did. -/
def historyRunsSpec : ChangeSpec := { name := "historyRuns", fn := fun _ => fun
  | [d1, d2, d3] => { results := [.lit (.bool true)], args := [d1, d2, d3] }
  | _ => none }
def historyRunsRow : OpenClaim := { program := "ytaopdopnecognaagreat", sum := "932886e0d72af386933ca4d4ce31f4589dc423797d37048e659da34a08bd97df", func := "millstream/millstreamlaw18.HistoryRuns", spec := "historyRuns", unfollowed := true, recurses := true, apart := false }
def HistoryRunsSaid : Prop := historyRunsRow.holds Tryz.pinned (OpenSpec.ofChange historyRunsSpec)

/-- ITS FALSE NEIGHBOUR: 'it returns false'. Refute it at one input. -/
def historyRunsWrong : ChangeSpec := { name := "historyRuns", fn := fun _ => fun
  | [d1, d2, d3] => { results := [.lit (.bool false)], args := [d1, d2, d3] }
  | _ => none }
def HistoryRunsWrongFalsely : Prop := historyRunsRow.holds Tryz.pinned (OpenSpec.ofChange historyRunsWrong)

/-- 'millstreamlaw19.FairEnds': WHATEVER THE INPUT: true; the input reads as it did. -/
def fairEndsSpec : ChangeSpec := { name := "fairEnds", fn := fun _ => fun
  | [d1, d2, d3] => { results := [.lit (.bool true)], args := [d1, d2, d3] }
  | _ => none }
def fairEndsRow : OpenClaim := { program := "ytaopdopnecognaagreat", sum := "932886e0d72af386933ca4d4ce31f4589dc423797d37048e659da34a08bd97df", func := "millstream/millstreamlaw19.FairEnds", spec := "fairEnds", unfollowed := true, recurses := true, apart := false }
def FairEndsSaid : Prop := fairEndsRow.holds Tryz.pinned (OpenSpec.ofChange fairEndsSpec)

/-- ITS FALSE NEIGHBOUR: 'it returns false'. Refute it at one input. -/
def fairEndsWrong : ChangeSpec := { name := "fairEnds", fn := fun _ => fun
  | [d1, d2, d3] => { results := [.lit (.bool false)], args := [d1, d2, d3] }
  | _ => none }
def FairEndsWrongFalsely : Prop := fairEndsRow.holds Tryz.pinned (OpenSpec.ofChange fairEndsWrong)

/- THE SECOND FORM. 'bulk': how many values and letters a reading holds, each counted each time it is reached (what is shared counts as often as it is met; a slice's spare places count too). A statement '..UptoSaid' is the law's where the arguments, and the package variables that the reading takes, are together of bulk at most 1048576: NARROWER than '..Said'. Prove '..Said' where nothing that the law and all that it calls make is longer than what came in: it says more and counts as full. Else prove '..UptoSaid'. A law counts once. -/
mutual
def uptoBulk {H : Type} : DataW H → Nat
  | .lit (.string bytes) => bytes.length + 1
  | .lit _ => 1
  | .nil => 1
  | .ptr d => uptoBulk d + 1
  | .slice elems spare => uptoBulkAll elems + uptoBulkAll spare + 1
  | .agg parts => uptoBulkAll parts + 1
  | .iface _ d => uptoBulk d + 1
  | .map entries => uptoBulkEntries entries + 1
  | .held _ => 1
def uptoBulkAll {H : Type} : List (DataW H) → Nat
  | [] => 0
  | d :: r => uptoBulk d + uptoBulkAll r
def uptoBulkEntries {H : Type} : List (Lit × DataW H) → Nat
  | [] => 0
  | x :: r => uptoBulkEntry x + uptoBulkEntries r
def uptoBulkEntry {H : Type} : Lit × DataW H → Nat
  | (.string bytes, d) => bytes.length + uptoBulk d + 1
  | (_, d) => uptoBulk d + 1
 end
def uptoSmall : (H : Type) → List (DataW H) → Bool := fun _ ds => decide (uptoBulkAll ds ≤ 1048576)
def OpenSpec.upto (s : _root_.Go.ChangeSpec) : _root_.Go.OpenSpec := { _root_.Go.OpenSpec.ofChange s with cond := some uptoSmall }

/-- 'millstreamtop.TopQuiet', WHERE WHAT IT READS IS OF BULK AT MOST 1048576: true; the input reads as it did. -/
def topQuietUptoRow : OpenClaim := { program := "ytaopdopnecognaagreat", sum := "932886e0d72af386933ca4d4ce31f4589dc423797d37048e659da34a08bd97df", func := "millstream/millstreamtop.TopQuiet", spec := "topQuiet", unfollowed := true, recurses := true, apart := false, narrowed := true }
def TopQuietUptoSaid : Prop := topQuietUptoRow.holds Tryz.pinned (OpenSpec.upto topQuietSpec)

/-- 'millstreamtop.TopRefused', WHERE WHAT IT READS IS OF BULK AT MOST 1048576: true; the input reads as it did. -/
def topRefusedUptoRow : OpenClaim := { program := "ytaopdopnecognaagreat", sum := "932886e0d72af386933ca4d4ce31f4589dc423797d37048e659da34a08bd97df", func := "millstream/millstreamtop.TopRefused", spec := "topRefused", unfollowed := true, recurses := true, apart := false, narrowed := true }
def TopRefusedUptoSaid : Prop := topRefusedUptoRow.holds Tryz.pinned (OpenSpec.upto topRefusedSpec)

/-- 'millstreamtop.TopLinear', WHERE WHAT IT READS IS OF BULK AT MOST 1048576: true; the input reads as it did. -/
def topLinearUptoRow : OpenClaim := { program := "ytaopdopnecognaagreat", sum := "932886e0d72af386933ca4d4ce31f4589dc423797d37048e659da34a08bd97df", func := "millstream/millstreamtop.TopLinear", spec := "topLinear", unfollowed := true, recurses := true, apart := false, narrowed := true }
def TopLinearUptoSaid : Prop := topLinearUptoRow.holds Tryz.pinned (OpenSpec.upto topLinearSpec)

/-- 'millstreamlaw19.FairTells', WHERE WHAT IT READS IS OF BULK AT MOST 1048576: true; the input reads as it did. -/
def fairTellsUptoRow : OpenClaim := { program := "ytaopdopnecognaagreat", sum := "932886e0d72af386933ca4d4ce31f4589dc423797d37048e659da34a08bd97df", func := "millstream/millstreamlaw19.FairTells", spec := "fairTells", unfollowed := true, recurses := true, apart := false, narrowed := true }
def FairTellsUptoSaid : Prop := fairTellsUptoRow.holds Tryz.pinned (OpenSpec.upto fairTellsSpec)

/-- 'millstreamlaw19.FairSuffix', WHERE WHAT IT READS IS OF BULK AT MOST 1048576: true; the input reads as it did. -/
def fairSuffixUptoRow : OpenClaim := { program := "ytaopdopnecognaagreat", sum := "932886e0d72af386933ca4d4ce31f4589dc423797d37048e659da34a08bd97df", func := "millstream/millstreamlaw19.FairSuffix", spec := "fairSuffix", unfollowed := true, recurses := true, apart := false, narrowed := true }
def FairSuffixUptoSaid : Prop := fairSuffixUptoRow.holds Tryz.pinned (OpenSpec.upto fairSuffixSpec)

/-- 'millstreamlaw19.FairSolo', WHERE WHAT IT READS IS OF BULK AT MOST 1048576: true; the input reads as it did. -/
def fairSoloUptoRow : OpenClaim := { program := "ytaopdopnecognaagreat", sum := "932886e0d72af386933ca4d4ce31f4589dc423797d37048e659da34a08bd97df", func := "millstream/millstreamlaw19.FairSolo", spec := "fairSolo", unfollowed := true, recurses := true, apart := false, narrowed := true }
def FairSoloUptoSaid : Prop := fairSoloUptoRow.holds Tryz.pinned (OpenSpec.upto fairSoloSpec)

/-- 'millstreamlaw19.FairMore', WHERE WHAT IT READS IS OF BULK AT MOST 1048576: true; the input reads as it did. -/
def fairMoreUptoRow : OpenClaim := { program := "ytaopdopnecognaagreat", sum := "932886e0d72af386933ca4d4ce31f4589dc423797d37048e659da34a08bd97df", func := "millstream/millstreamlaw19.FairMore", spec := "fairMore", unfollowed := true, recurses := true, apart := false, narrowed := true }
def FairMoreUptoSaid : Prop := fairMoreUptoRow.holds Tryz.pinned (OpenSpec.upto fairMoreSpec)

/-- 'millstreamlaw18.HistoryForged', WHERE WHAT IT READS IS OF BULK AT MOST 1048576: true; the input reads as it did. -/
def historyForgedUptoRow : OpenClaim := { program := "ytaopdopnecognaagreat", sum := "932886e0d72af386933ca4d4ce31f4589dc423797d37048e659da34a08bd97df", func := "millstream/millstreamlaw18.HistoryForged", spec := "historyForged", unfollowed := true, recurses := true, apart := false, narrowed := true }
def HistoryForgedUptoSaid : Prop := historyForgedUptoRow.holds Tryz.pinned (OpenSpec.upto historyForgedSpec)

/-- 'millstreamlaw18.HistoryDropped', WHERE WHAT IT READS IS OF BULK AT MOST 1048576: true; the input reads as it did. -/
def historyDroppedUptoRow : OpenClaim := { program := "ytaopdopnecognaagreat", sum := "932886e0d72af386933ca4d4ce31f4589dc423797d37048e659da34a08bd97df", func := "millstream/millstreamlaw18.HistoryDropped", spec := "historyDropped", unfollowed := true, recurses := true, apart := false, narrowed := true }
def HistoryDroppedUptoSaid : Prop := historyDroppedUptoRow.holds Tryz.pinned (OpenSpec.upto historyDroppedSpec)

/-- 'millstreamlaw18.HistoryRuns', WHERE WHAT IT READS IS OF BULK AT MOST 1048576: true; the input reads as it did. -/
def historyRunsUptoRow : OpenClaim := { program := "ytaopdopnecognaagreat", sum := "932886e0d72af386933ca4d4ce31f4589dc423797d37048e659da34a08bd97df", func := "millstream/millstreamlaw18.HistoryRuns", spec := "historyRuns", unfollowed := true, recurses := true, apart := false, narrowed := true }
def HistoryRunsUptoSaid : Prop := historyRunsUptoRow.holds Tryz.pinned (OpenSpec.upto historyRunsSpec)

/-- 'millstreamlaw19.FairEnds', WHERE WHAT IT READS IS OF BULK AT MOST 1048576: true; the input reads as it did. -/
def fairEndsUptoRow : OpenClaim := { program := "ytaopdopnecognaagreat", sum := "932886e0d72af386933ca4d4ce31f4589dc423797d37048e659da34a08bd97df", func := "millstream/millstreamlaw19.FairEnds", spec := "fairEnds", unfollowed := true, recurses := true, apart := false, narrowed := true }
def FairEndsUptoSaid : Prop := fairEndsUptoRow.holds Tryz.pinned (OpenSpec.upto fairEndsSpec)

end Rows
end Go.Proofs.YtaopdopnecognaaGreat
