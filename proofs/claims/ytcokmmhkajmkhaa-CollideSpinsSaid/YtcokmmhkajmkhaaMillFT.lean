/- What tape.Left and tape.Next compute. -/
import Derived.Test.YtcokmmhkajmkhaaMillAll3
namespace Go.Proofs.Mill
set_option linter.all false
/- millstream/tape.Left -/
noncomputable def F_tape_Left (x0 : Tape) : Option (Int) :=
  bif decide (x0.at_ < (0 : Int)) then
    some ((0 : Int))
  else
    some (if wrapA IntKind.i64 ((↑x0.l.length : Int) - x0.at_) > (0 : Int) then wrapA IntKind.i64 ((↑x0.l.length : Int) - x0.at_) else (0 : Int))
noncomputable def C_tape_Left (x : Tape) : Option (Int) := F_tape_Left x

/- millstream/tape.Next -/
noncomputable def F_tape_Next (x0 : Tape) : Option (Int × Tape) :=
  match C_tape_Left x0 with
  | some y1 =>
    bif decide (y1 > (0 : Int)) then
      bif decide ((0 : Int) ≤ x0.at_) then
        bif decide (x0.at_ < (↑x0.l.length : Int)) then
          some (x0.l.getD x0.at_.toNat (0 : Int), { x0 with at_ := wrapA IntKind.i64 (x0.at_ + (1 : Int)) })
        else
          none
      else
        none
    else
      some ((0 : Int), x0)
  | none => none
noncomputable def C_tape_Next (x : Tape) : Option (Int × Tape) := F_tape_Next x

end Go.Proofs.Mill
