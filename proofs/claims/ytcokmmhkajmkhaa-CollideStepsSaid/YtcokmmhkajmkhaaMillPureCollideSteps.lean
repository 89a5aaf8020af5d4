/- The plain laws of CollideSteps and CollideCaught. -/
import Derived.Test.YtcokmmhkajmkhaaMillPCollide2
set_option linter.all false
namespace Go.Proofs.Mill

theorem pure_CollideSteps (u : Turn) (o : (valSt celTurn).Ok u) : F_law15_CollideSteps u = some true := by
  obtain ⟨b, hb, hbig⟩ := law15_big u
  obtain ⟨m, hm, hmay⟩ := law15_layered u
  simp only [F_law15_CollideSteps, C_law15_big, hb, C_law15_shown, law15_shown, C_law15_layered, hm]
  cases b with
  | true => rfl
  | false =>
  cases m with
  | false => rfl
  | true =>
  have hB := hbig rfl
  obtain ⟨hM, hL⟩ := hmay.1 rfl
  have hF := hM.fitC hB o hL
  have hS := hB.sm (n := 4294967296) (by omega)
  have hG := collideT_sm hF hB
  simp only [Bool.not_true, cond_false, C_collide_Step, collide_step hF, C_law15_its, law15_its _ hS, C_ref15_Step, ref15_step hF, beq_self_eq_true, cond_true, law15_its _ hG, C_ref10_Alike, alike_refl _ hG]

end Go.Proofs.Mill
