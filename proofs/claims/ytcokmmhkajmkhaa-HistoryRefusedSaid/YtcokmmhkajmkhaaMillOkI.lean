/- The functions that choose compute this. -/
import Derived.Test.YtcokmmhkajmkhaaMillAll4
import Derived.Test.YtcokmmhkajmkhaaMillSeat1
import Derived.Test.YtcokmmhkajmkhaaMillFI
namespace Go.Proofs.Mill
set_option linter.all false
/- millstream/history.Replay$1 -/
noncomputable def e83 : Env := env1 []
theorem g83 : GoodEnv e83 := goodEnv mix1 ent1 goods_nil
noncomputable def s83 : Spec := mkSpecL (valsCons (valSt celMark) (valsOne (valPtr (celInt .i64)))) (resOne (valBool)) C_history_Replay_1
set_option maxRecDepth 100000 in
theorem ok83 : SpecOK Try.prog 83 s83 :=
  mkSpecL_ok (V := e83) (L := nL) (rounds := 20) (depth := 6) g83 loops_none (fun x => by kernel_rfl)

/- millstream/history.Answers$1 -/
noncomputable def e89 : Env := env1 []
theorem g89 : GoodEnv e89 := goodEnv mix1 ent1 goods_nil
noncomputable def s89 : Spec := mkSpecL (valsCons (valSt celMark) (valsOne (valPtr (celInt .i64)))) (resOne (valBool)) C_history_Answers_1
set_option maxRecDepth 100000 in
theorem ok89 : SpecOK Try.prog 89 s89 :=
  mkSpecL_ok (V := e89) (L := nL) (rounds := 20) (depth := 6) g89 loops_none (fun x => by kernel_rfl)

/- millstream/history.events$1 -/
noncomputable def e159 : Env := env1 []
theorem g159 : GoodEnv e159 := goodEnv mix1 ent1 goods_nil
noncomputable def s159 : Spec := mkSpecL (valsCons (valSt celEvent) (valsOne (valPtr (celInt .i64)))) (resOne (valBool)) C_history_events_1
set_option maxRecDepth 100000 in
theorem ok159 : SpecOK Try.prog 159 s159 :=
  mkSpecL_ok (V := e159) (L := nL) (rounds := 20) (depth := 6) g159 loops_none (fun x => by kernel_rfl)

end Go.Proofs.Mill
