/- The plain law of GatherSteps. -/
import Derived.Test.YtcokmmhkajmkhaaMillPGather2
set_option linter.all false
namespace Go.Proofs.Mill

theorem pure_GatherSteps (u : Turn) (x1 : Int) (x2 : List Entry) (o : (valSt celTurn).Ok u) (_o1 : (valInt .i64).Ok x1) (_o2 : (valLst .entry).Ok x2) : F_law14_GatherSteps u x1 x2 = some true := by
  obtain ⟨b, hb, hbig⟩ := law14_big u
  obtain ⟨m, hm, hmay⟩ := law14_may u
  simp only [F_law14_GatherSteps, C_law14_big, hb, C_law14_shown, law14_shown, C_law14_may, hm]
  cases b with
  | true => rfl
  | false =>
  cases m with
  | false => rfl
  | true =>
  have hB := hbig rfl
  have hM := hmay.1 rfl
  have hF := hM.fitG hB o
  have hS := hB.sm (n := 4294967296) (by omega)
  have hG := gatherT_sm hF hB
  have h1 := hB.batch
  have h2 := hB.kids
  simp only [Bool.not_true, cond_false, cond_dec]
  by_cases hx : (x2.length : Int) > 20
  · rw [if_pos hx]
  rw [if_neg hx]
  have hT := takeT_sm (who := x1) (b := x2) hS (by omega) (by omega)
  simp only [C_gather_Step, gather_step hF, C_law14_its, law14_its _ hS, C_ref14_Step, ref14_step hF, beq_self_eq_true, cond_true, law14_its _ hG, C_ref10_Alike, alike_refl _ hG,
    C_gather_Take, gather_take (u := u) (who := x1) (b := x2) (by omega) (by omega), law14_its _ hT, C_law14_entries, law14_entries x2 (by omega), C_ref14_Take, ref14_take (u := u) (who := x1) (b := x2) (by omega) (by omega), alike_refl _ hT]

end Go.Proofs.Mill
