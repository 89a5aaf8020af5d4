/- A machine that is shown; one that is idle. -/
import Derived.Test.YtecgogmolkjhjaaGreatMillPClimb
import Derived.KernelRfl
namespace Go.Proofs.Mill
set_option linter.all false
theorem law16_shown : F_law16_shown = some true := by kernel_rfl

theorem step_idle {u : Turn} (h : u.th.phase = 0) : F_machine_Step u = some u := by
  simp only [F_machine_Step, C_thread_Busy, F_thread_Busy, h]
  rfl

theorem solo_idle {u : Turn} (h : u.th.phase = 0) (n : Int) : F_machine_Solo u n = some u := by
  unfold F_machine_Solo W_machine_Solo_1
  rw [whileM_for (step := T_machine_Solo_1) (fun _ => (n, u, _)) 0 (y := (u, _)) (fun i hi => absurd hi (Nat.not_lt_zero i)) ?_]
  show S_machine_Solo_1 n u _ = _
  unfold S_machine_Solo_1
  simp only [C_thread_Busy, F_thread_Busy, h]
  cases decide (n > 0) <;> rfl
end Go.Proofs.Mill
