/- A machine that is shown; one that is idle. -/
import Derived.Test.YtaopdopnecognaaGreatMillQClimb
import Derived.KernelRfl
namespace Go.Proofs.Mill
set_option linter.all false
theorem step_idle {u : Turn} (h : u.th.phase = 0) : F_machine_Step u = some u := by
  simp only [F_machine_Step, C_thread_Busy, F_thread_Busy, h]
  rfl

end Go.Proofs.Mill
