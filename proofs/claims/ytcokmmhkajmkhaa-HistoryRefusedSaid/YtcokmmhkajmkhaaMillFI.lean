/- What the functions compute that choose. -/
import Derived.Test.YtcokmmhkajmkhaaMillAll4
import Derived.Test.YtcokmmhkajmkhaaMillAll4
namespace Go.Proofs.Mill
set_option linter.all false
/- millstream/history.Replay$1 -/
noncomputable def F_history_Replay_1 (x0 : Mark) (x1 : Int) : Option (Bool) :=
 some (x0.item == x1)
noncomputable def C_history_Replay_1 (x : Mark × Int) : Option (Bool) := F_history_Replay_1 x.1 x.2

/- millstream/history.Answers$1 -/
noncomputable def F_history_Answers_1 (x0 : Mark) (x1 : Int) : Option (Bool) :=
 some (x0.t == x1)
noncomputable def C_history_Answers_1 (x : Mark × Int) : Option (Bool) := F_history_Answers_1 x.1 x.2

/- millstream/history.events$1 -/
noncomputable def F_history_events_1 (x0 : Event) (x1 : Int) : Option (Bool) :=
 bif x0.t == x1 then
  some (x0.kind != (3 : Int))
 else
  some (false)
noncomputable def C_history_events_1 (x : Event × Int) : Option (Bool) := F_history_events_1 x.1 x.2

/- What the program's own iterators hand over. -/
noncomputable def itReplay : ItV := itOnly .mark 155 83 (fun k (x : Mark) => x.item == k) (fun _ => rfl)
noncomputable def itOwn : ItV := itOnly .mark 155 89 (fun k (x : Mark) => x.t == k) (fun _ => rfl)
noncomputable def itEvents : ItV := itOnly .event 194 159 (fun k (x : Event) => x.t == k && x.kind != 3) (fun _ => rfl)

end Go.Proofs.Mill
