/- Turns, and whether two of them are alike. -/
import Derived.Test.YtaopdopnecognaaGreatMillP0
import Derived.Test.YtaopdopnecognaaGreatMillQCfg
set_option linter.all false
namespace Go.Proofs.Mill

/-- No list of a turn is longer. -/
structure Sm (n : Nat) (u : Turn) : Prop where
  words : u.m.words.length ≤ n
  boxes : u.m.boxes.length ≤ n
  box : ∀ b ∈ u.m.boxes, b.length ≤ n
  batch : u.th.batch.length ≤ n
  kids : u.th.kids.length ≤ n
  held : u.th.held.length ≤ n
  tape : u.tape.l.length ≤ n
  log : u.log.length ≤ n

/-! its: a turn as the references have it is the same turn (law16). -/
end Go.Proofs.Mill
