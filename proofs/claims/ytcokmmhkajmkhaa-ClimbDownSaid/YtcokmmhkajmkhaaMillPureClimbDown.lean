/- The plain law of ClimbDown. -/
import Derived.Test.YtcokmmhkajmkhaaMillPureClimbSteps
namespace Go.Proofs.Mill

theorem pure_ClimbDown (u : Turn) (o : (valSt celTurn).Ok u) : F_law13_ClimbDown u = some true := by
  obtain ⟨b, hb, hbig⟩ := law13_big u
  obtain ⟨m, hm, hmay⟩ := law13_may u
  simp only [F_law13_ClimbDown, C_law13_big, hb, C_law13_shown, law13_shown, C_law13_may, hm]
  cases b with
  | true => rfl
  | false =>
  cases m with
  | false => rfl
  | true =>
  have hB := hbig rfl
  have hS := hB.sm (n := 4294967296) (by omega)
  have e : ({ downT u with th := { (downT u).th with phase := u.th.phase } } : Turn) = u := rfl
  simp only [Bool.not_true, cond_false, C_climb_Down, climb_down, e, C_law13_its, law13_its _ hS, C_ref10_Alike, alike_refl _ hS, cond_true, cond_dec]
  have ph : (downT u).th.phase = if 0 ≤ u.th.at_ ∧ u.th.at_ < (u.th.held.length : Int) then 7 else if u.th.stop > 0 then 11 else 2 := rfl
  simp only [ph]
  by_cases h1 : u.th.at_ ≥ 0
  · have h1' : 0 ≤ u.th.at_ := h1
    by_cases h2 : u.th.at_ < (u.th.held.length : Int)
    · simp [h1', h2]
    · by_cases h3 : 0 < u.th.stop
      · have h4 : ¬ u.th.stop ≤ 0 := by omega
        simp [h1', h2, h3, h4]
      · have h4 : u.th.stop ≤ 0 := by omega
        simp [h1', h2, h3, h4]
  · have h1' : ¬ 0 ≤ u.th.at_ := h1
    by_cases h3 : 0 < u.th.stop
    · have h4 : ¬ u.th.stop ≤ 0 := by omega
      simp [h1', h3, h4]
    · have h4 : u.th.stop ≤ 0 := by omega
      simp [h1', h3, h4]

end Go.Proofs.Mill
