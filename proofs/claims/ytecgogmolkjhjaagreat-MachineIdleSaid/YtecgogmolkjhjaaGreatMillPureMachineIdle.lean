/- The plain law of MachineIdle. -/
import Derived.Test.YtecgogmolkjhjaaGreatMillPMachine
set_option linter.all false
namespace Go.Proofs.Mill

theorem pure_MachineIdle (u : Turn) (n : Int) (o : (valSt celTurn).Ok u) (o1 : (valInt .i64).Ok n) : F_law16_MachineIdle u n = some true := by
  obtain ⟨b, hb, hbig⟩ := law16_big u
  obtain ⟨m, hm, hmay⟩ := law16_may u
  simp only [F_law16_MachineIdle, C_law16_big, hb, C_law16_shown, law16_shown, C_law16_may, hm]
  cases b with
  | true => rfl
  | false =>
  cases m with
  | false => rfl
  | true =>
  have hB := hbig rfl
  have hs : Sm 4294967296 { u with th := { u.th with phase := (0 : Int) } } := by
    have h := hB.sm (n := 4294967296) (by omega)
    exact ⟨h.words, h.boxes, h.box, h.batch, h.kids, h.held, h.tape, h.log⟩
  simp only [Bool.not_true, cond_false, cond_dec, C_machine_Step, step_idle (u := { u with th := { u.th with phase := (0 : Int) } }) rfl, C_machine_Solo, solo_idle (u := { u with th := { u.th with phase := (0 : Int) } }) rfl, C_law16_its, law16_its _ hs, C_ref10_Alike, alike_refl _ hs, cond_true]
  split <;> rfl
end Go.Proofs.Mill
