/- The plain law of ClimbSteps. -/
import Derived.Test.YtcokmmhkajmkhaaMillPClimb
import Derived.KernelRfl
set_option linter.all false
namespace Go.Proofs.Mill

theorem law13_shown : F_law13_shown = some true := by kernel_rfl

theorem May.fit {u : Turn} (h : May u) (b : Big u) (o : (valSt celTurn).Ok u) : Fit u := ⟨h.cfg, h.t, h.words, turn_words o, by have := b.held; omega⟩

theorem downT_sm {u : Turn} {n : Nat} (h : Sm n u) : Sm n (downT u) := ⟨h.words, h.boxes, h.box, h.batch, h.kids, h.held, h.tape, h.log⟩

theorem climbT_sm {u : Turn} {n : Nat} (h : Sm n u) (hh : u.th.held.length + 1 ≤ n) : Sm n (climbT u).1 := by
  have o : ∀ {v : Turn}, Sm n v → Sm n (overT v) := fun {v} h => downT_sm (u := { v with th := { v.th with at_ := 0 } }) ⟨h.words, h.boxes, h.box, h.batch, h.kids, h.held, h.tape, h.log⟩
  unfold climbT
  by_cases p4 : u.th.phase = 4
  · rw [if_pos p4]
    show Sm n (if nodeOf u = -1 then u else lookT u _)
    by_cases hn : nodeOf u = -1
    · rw [if_pos hn]; exact h
    rw [if_neg hn]
    unfold lookT
    split
    · exact ⟨h.words, h.boxes, h.box, h.batch, h.kids, h.held, h.tape, h.log⟩
    split
    · exact ⟨h.words, h.boxes, h.box, h.batch, h.kids, h.held, h.tape, h.log⟩
    split
    · exact o h
    · exact h
  rw [if_neg p4]
  by_cases p5 : u.th.phase = 5
  · rw [if_pos p5]
    show Sm n (if nodeOf u = -1 then u else if wordAt u (nodeOf u) = 0 then takenT _ else _)
    by_cases hn : nodeOf u = -1
    · rw [if_pos hn]; exact h
    rw [if_neg hn]
    split
    · unfold takenT
      have hw : (u.m.words.set (nodeOf u).toNat (8 * (u.t + 1) + 1)).length ≤ n := by rw [List.length_set]; exact h.words
      have hd : (u.th.held ++ [u.th.node]).length ≤ n := by simpa using hh
      split
      · exact ⟨hw, h.boxes, h.box, h.batch, h.kids, hd, h.tape, h.log⟩
      · exact o ⟨hw, h.boxes, h.box, h.batch, h.kids, hd, h.tape, h.log⟩
    · exact ⟨h.words, h.boxes, h.box, h.batch, h.kids, h.held, h.tape, h.log⟩
  rw [if_neg p5]
  by_cases p6 : u.th.phase = 6
  · rw [if_pos p6]
    show Sm n (if nodeOf u = -1 then u else if wordAt u (nodeOf u) = u.th.x then joinedT _ else _)
    by_cases hn : nodeOf u = -1
    · rw [if_pos hn]; exact h
    rw [if_neg hn]
    split
    · have hw : (u.m.words.set (nodeOf u).toNat (8 * (u.t + 1) + 2)).length ≤ n := by rw [List.length_set]; exact h.words
      exact o ⟨hw, h.boxes, h.box, h.batch, h.kids, h.held, h.tape, h.log⟩
    · exact ⟨h.words, h.boxes, h.box, h.batch, h.kids, h.held, h.tape, h.log⟩
  rw [if_neg p6]
  exact h

theorem pure_ClimbSteps (u : Turn) (o : (valSt celTurn).Ok u) : F_law13_ClimbSteps u = some true := by
  obtain ⟨b, hb, hbig⟩ := law13_big u
  obtain ⟨m, hm, hmay⟩ := law13_may u
  simp only [F_law13_ClimbSteps, C_law13_big, hb, C_law13_shown, law13_shown, C_law13_may, hm]
  cases b with
  | true => rfl
  | false =>
  cases m with
  | false => rfl
  | true =>
  have hB := hbig rfl
  have hM := hmay.1 rfl
  have hF := hM.fit hB o
  have hS := hB.sm (n := 4294967296) (by omega)
  have hC := climbT_sm hS (by have := hB.held; omega)
  simp only [Bool.not_true, cond_false, C_climb_Step, climb_step hF, C_law13_its, law13_its _ hS, C_ref13_Step, ref13_step hF, beq_self_eq_true, cond_true, law13_its _ hC, C_ref10_Alike, alike_refl _ hC,
    C_climb_Down, climb_down, law13_its _ (downT_sm hS), C_ref13_Down, ref13_down, alike_refl _ (downT_sm hS)]

end Go.Proofs.Mill
