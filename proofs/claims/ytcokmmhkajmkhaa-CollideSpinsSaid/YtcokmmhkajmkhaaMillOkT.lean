/- tape.Left computes this. -/
import Derived.Test.YtcokmmhkajmkhaaMillSeat1
import Derived.Test.YtcokmmhkajmkhaaMillFT
namespace Go.Proofs.Mill
set_option linter.all false
/- millstream/tape.Left -/
noncomputable def e220 : Env := env1 []
theorem g220 : GoodEnv e220 := goodEnv mix1 ent1 goods_nil
noncomputable def s220 : Spec := mkSpec (valsOne (valSt celTape)) (resOne (valInt .i64)) C_tape_Left
set_option maxRecDepth 100000 in
theorem ok220 : SpecOK Try.prog 220 s220 :=
  mkSpec_ok (V := e220) (L := nL) (rounds := 20) (depth := 6) g220 loops_none (fun x => by kernel_rfl)

end Go.Proofs.Mill
