/- The plain law of MachineLogs. -/
import Derived.Test.YtecgogmolkjhjaaGreatMillPureMachineOne
namespace Go.Proofs.Mill
set_option linter.all false

/-- It logs nothing; and it is done at its end alone. -/
def Quiet (u v : Turn) : Prop := v.log = u.log ∧ (v.done = u.done ∨ v.th.phase = 0)
theorem Quiet.refl (u : Turn) : Quiet u u := ⟨rfl, .inl rfl⟩

theorem settleT_quiet (u : Turn) : (settleT u).log = u.log ∧ ((settleT u).done = u.done ∧ (settleT u).th.phase = 15 ∨ (settleT u).th.phase = 0) := by
  unfold settleT
  split
  · exact ⟨rfl, .inr rfl⟩
  · exact ⟨rfl, .inl ⟨rfl, rfl⟩⟩
theorem settleT_q {u v : Turn} (h : u.log = v.log) (h2 : u.done = v.done) : Quiet v (settleT u) := by
  obtain ⟨h3, h4⟩ := settleT_quiet u
  exact ⟨h3.trans h, h4.elim (fun h => .inl (h.1.trans h2)) .inr⟩

theorem startT_q {u v : Turn} (h : u.log = v.log) (h2 : u.done = v.done) : Quiet v (startT u) := by
  unfold startT
  repeat' split
  all_goals exact ⟨h, .inl h2⟩
theorem lookT_q {u : Turn} (w : Int) : Quiet u (lookT u w) := by
  unfold lookT
  repeat' split
  all_goals exact ⟨rfl, .inl rfl⟩
theorem takenT_q {u v : Turn} (h : u.log = v.log) (h2 : u.done = v.done) : Quiet v (takenT u) := by
  unfold takenT
  split <;> exact ⟨h, .inl h2⟩
theorem onwardT_q {u v : Turn} (h : u.log = v.log) (h2 : u.done = v.done) : Quiet v (onwardT u) := by
  unfold onwardT
  split <;> exact ⟨h, .inl h2⟩

theorem clearT_q (u : Turn) : Quiet u (clearT u).1 := by
  unfold clearT
  split
  · exact startT_q rfl rfl
  · exact Quiet.refl _

theorem shareT_q (u : Turn) : Quiet u (shareT u).1 := by
  unfold shareT
  split
  · show Quiet u (if _ then _ else _ : Turn)
    split
    · exact ⟨rfl, .inl rfl⟩
    · exact Quiet.refl _
  split
  · exact settleT_q rfl rfl
  split
  · show Quiet u (if _ then _ else _ : Turn)
    split
    · exact Quiet.refl _
    · split
      · exact Quiet.refl _
      · exact ⟨rfl, .inl rfl⟩
  split
  · show Quiet u (if _ then _ else _ : Turn)
    split
    · exact Quiet.refl _
    · split
      · exact Quiet.refl _
      · exact settleT_q rfl rfl
  exact Quiet.refl _

theorem climbT_q (u : Turn) : Quiet u (climbT u).1 := by
  unfold climbT
  split
  · show Quiet u (if _ then _ else _ : Turn)
    split
    · exact Quiet.refl _
    · exact lookT_q _
  split
  · show Quiet u (if _ then _ else _ : Turn)
    split
    · exact Quiet.refl _
    · split
      · exact takenT_q rfl rfl
      · exact ⟨rfl, .inl rfl⟩
  split
  · show Quiet u (if _ then _ else _ : Turn)
    split
    · exact Quiet.refl _
    · split
      · exact ⟨rfl, .inl rfl⟩
      · exact ⟨rfl, .inl rfl⟩
  exact Quiet.refl _

theorem gatherT_q (u : Turn) : Quiet u (gatherT u).1 := by
  unfold gatherT
  repeat' split
  all_goals exact ⟨rfl, .inl rfl⟩

theorem collideT_q (u : Turn) : Quiet u (collideT u).1 := by
  unfold collideT
  split
  · exact ⟨rfl, .inl rfl⟩
  split
  · exact ⟨rfl, .inl rfl⟩
  split
  · show Quiet u (swapT u)
    unfold swapT
    repeat' split
    all_goals exact ⟨rfl, .inl rfl⟩
  split
  · show Quiet u (comparedT u u.t 21 13)
    unfold comparedT
    repeat' split
    all_goals exact ⟨rfl, .inl rfl⟩
  split
  · show Quiet u (comparedT u u.th.who 22 24)
    unfold comparedT
    repeat' split
    all_goals exact ⟨rfl, .inl rfl⟩
  split
  · show Quiet u (absorbT u)
    unfold absorbT
    split <;> exact ⟨rfl, .inl rfl⟩
  split
  · show Quiet u (spinT u)
    unfold spinT
    repeat' split
    all_goals exact ⟨rfl, .inl rfl⟩
  split
  · exact ⟨rfl, .inl rfl⟩
  split
  · show Quiet u (leaveT u)
    unfold leaveT
    split
    · exact onwardT_q rfl rfl
    · exact ⟨rfl, .inl rfl⟩
  exact Quiet.refl _

/-- What a thread at a cell logs. -/
theorem commitS_log (u : Turn) (hl : u.log = []) (hd : u.done = false) (h : (commitS u).2 = true) :
    (((commitS u).1.log.length = u.th.batch.length ∧ ((commitS u).1.th.phase = 15 ∨ (commitS u).1.th.phase = 0)) ∨ ((commitS u).1.log = [] ∧ (commitS u).1.th.phase ≠ 15 ∧ (commitS u).1.th.phase ≠ 0)) ∧ ((commitS u).1.done = true → (commitS u).1.th.phase = 0) := by
  have com : ∀ {v : Turn} {x : Int}, v.log = [] → v.done = false → ((commitT v x).log.length = v.th.batch.length ∧ ((commitT v x).th.phase = 15 ∨ (commitT v x).th.phase = 0)) ∧ ((commitT v x).done = true → (commitT v x).th.phase = 0) := by
    intro v x h1 h2
    unfold commitT
    obtain ⟨h3, h4⟩ := settleT_quiet { v with th := { v.th with at_ := 0, x := x }, log := v.log ++ marksT v x }
    refine ⟨⟨?_, h4.imp (·.2) id⟩, fun h => ?_⟩
    · rw [h3]
      simp [h1, marksT_length]
    · rcases h4 with h4 | h4
      · have h5 := h4.1
        rw [h5] at h
        have : v.done = true := h
        rw [h2] at this
        cases this
      · exact h4
  unfold commitS at h ⊢
  split at h
  · rename_i p
    rw [if_pos p]
    show ((((comparedU u).log.length = _ ∧ _) ∨ _) ∧ _)
    unfold comparedU
    split
    · obtain ⟨h1, h2⟩ := com (v := setW u (cellAt u.c u.th.item) u.th.y) (x := u.th.x) hl hd
      exact ⟨.inl h1, h2⟩
    · exact ⟨.inr ⟨hl, by simp, by simp⟩, fun h => by rw [show _ = u.done from rfl, hd] at h; cases h⟩
  · rename_i p
    rw [if_neg p]
    split at h
    · rename_i p2
      rw [if_pos p2]
      simp only
      split
      · obtain ⟨h1, h2⟩ := com (v := u) (x := wordAt u (cellAt u.c u.th.item)) hl hd
        exact ⟨.inl h1, h2⟩
      · split
        · have hq := onwardT_q (u := u) (v := u) rfl rfl
          refine ⟨.inr ⟨hq.1.trans hl, ?_⟩, fun h => ?_⟩
          · unfold onwardT
            split <;> exact ⟨by simp, by simp⟩
          · rcases hq.2 with e | e
            · rw [e, hd] at h; cases h
            · exact e
        · exact ⟨.inr ⟨hl, by simp, by simp⟩, fun h => by rw [show _ = u.done from rfl, hd] at h; cases h⟩
    · cases h

/-- What a step logs. -/
theorem machineT_log {u : Turn} (hp : u.th.phase ≠ 0) :
    ((machineT u).done = true → (machineT u).th.phase = 0) ∧
    (if u.th.phase = 2 ∨ u.th.phase = 3 ∨ u.th.phase = 25 then ((machineT u).log.length = u.th.batch.length ∧ ((machineT u).th.phase = 15 ∨ (machineT u).th.phase = 0)) ∨ ((machineT u).log = [] ∧ (machineT u).th.phase ≠ 15 ∧ (machineT u).th.phase ≠ 0)
     else (machineT u).log = []) := by
  have qt : ∀ {v : Turn}, Quiet (begT u) v → (v.done = true → v.th.phase = 0) ∧ v.log = [] := by
    intro v h
    refine ⟨fun hd => ?_, h.1⟩
    rcases h.2 with e | e
    · rw [e] at hd; cases hd
    · exact e
  have hc : (commitS (begT u)).2 = true ↔ (u.th.phase = 2 ∨ u.th.phase = 3 ∨ u.th.phase = 25) := by
    unfold commitS
    have e : (begT u).th.phase = u.th.phase := rfl
    rw [e]
    by_cases p3 : u.th.phase = 3
    · rw [if_pos p3]; simp [p3]
    · rw [if_neg p3]
      by_cases p2 : u.th.phase = 2 ∨ u.th.phase = 25
      · rw [if_pos p2]; simp only [true_iff]; rcases p2 with h | h <;> simp [h]
      · rw [if_neg p2]
        simp only [Bool.false_eq_true, false_iff]
        rintro (h | h | h)
        · exact p2 (.inl h)
        · exact p3 h
        · exact p2 (.inr h)
  have h1 : (clearT (begT u)).2 = true → u.th.phase = 1 := by
    unfold clearT
    split
    · rename_i h; exact fun _ => h
    · intro h; cases h
  have h2 : (shareT (begT u)).2 = true → 13 ≤ u.th.phase ∧ u.th.phase ≤ 16 := by
    have e : (begT u).th.phase = u.th.phase := rfl
    unfold shareT
    rw [e]
    repeat' split
    all_goals first | (intro h; cases h; done) | (intro _; omega)
  unfold machineT
  rw [if_neg hp]
  by_cases c1 : (clearT (begT u)).2 = true
  · rw [if_pos c1]
    obtain ⟨a, b⟩ := qt (clearT_q (begT u))
    have := h1 c1
    exact ⟨a, by rw [if_neg (by omega)]; exact b⟩
  rw [if_neg c1]
  by_cases c2 : (shareT (begT u)).2 = true
  · rw [if_pos c2]
    obtain ⟨a, b⟩ := qt (shareT_q (begT u))
    have := h2 c2
    exact ⟨a, by rw [if_neg (by omega)]; exact b⟩
  rw [if_neg c2]
  by_cases c3 : (commitS (begT u)).2 = true
  · rw [if_pos c3]
    obtain ⟨a, b⟩ := commitS_log (begT u) rfl rfl c3
    exact ⟨b, by rw [if_pos (hc.1 c3)]; exact a⟩
  rw [if_neg c3]
  have hn : ¬ (u.th.phase = 2 ∨ u.th.phase = 3 ∨ u.th.phase = 25) := fun h => c3 (hc.2 h)
  rw [if_neg hn]
  split
  · exact qt (climbT_q (begT u))
  split
  · exact qt (gatherT_q (begT u))
  split
  · exact qt (collideT_q (begT u))
  exact qt (Quiet.refl _)

theorem pure_MachineLogs (u : Turn) (o : (valSt celTurn).Ok u) : F_law16_MachineLogs u = some true := by
  obtain ⟨b, hb, hbig⟩ := law16_big u
  obtain ⟨m, hm, hmay⟩ := law16_layered u
  simp only [F_law16_MachineLogs, C_law16_big, hb, C_law16_shown, law16_shown, C_law16_layered, hm]
  cases b with
  | true => rfl
  | false =>
  cases m with
  | false => rfl
  | true =>
  have hB := hbig rfl
  obtain ⟨hM, hL⟩ := hmay.1 rfl
  have hF := hM.fitM hB o hL
  by_cases h0 : (u.th.batch.length : Int) = 0
  · rw [beq_t h0]; rfl
  rw [beq_f h0]
  simp only [Bool.not_true, cond_false, C_machine_Step, machine_step hF]
  by_cases p0 : u.th.phase = 0
  · have e : machineT u = u := by unfold machineT; rw [if_pos p0]
    rw [beq_t p0, e]
    simp
  rw [beq_f p0]
  simp only [cond_false]
  obtain ⟨hd, hlog⟩ := machineT_log p0
  obtain ⟨v, hv⟩ : ∃ v, v = machineT u := ⟨_, rfl⟩
  rw [← hv] at hd hlog ⊢
  have hB0 : (u.th.batch.length : Int) > 0 := by omega
  -- the end of it
  have hdone : (bif !v.done then some true else some (v.th.phase == (0 : Int))) = some true := by
    cases h : v.done with
    | false => rfl
    | true => rw [beq_t (hd h)]; rfl
  have t1 : ∀ {q : Bool}, decide ((v.log.length : Int) > 0) = q → (v.log = [] ∨ (v.log.length : Int) = (u.th.batch.length : Int)) →
      (bif decide ((v.log.length : Int) > (0 : Int)) == q then
        bif (v.log.length : Int) == (0 : Int) then (bif !v.done then some true else some (v.th.phase == (0 : Int)))
        else bif (v.log.length : Int) == (u.th.batch.length : Int) then (bif !v.done then some true else some (v.th.phase == (0 : Int))) else some false
      else some false) = some true := by
    intro q hq hl
    rw [hq, beq_self_eq_true, hdone]
    rcases hl with h | h
    · rw [h]; rfl
    · rw [beq_t h, beq_f (show (v.log.length : Int) ≠ 0 by omega)]; rfl
  have sorted : ∀ {q : Bool}, decide ((v.log.length : Int) > 0) = q → (v.log = [] ∨ (v.log.length : Int) = (u.th.batch.length : Int)) → True := fun _ _ => trivial
  by_cases hc : u.th.phase = 2 ∨ u.th.phase = 3 ∨ u.th.phase = 25
  · rw [if_pos hc] at hlog
    have hl : v.log = [] ∨ (v.log.length : Int) = (u.th.batch.length : Int) := hlog.elim (fun h => .inr (by omega)) (fun h => .inl h.1)
    have h15 : (bif v.th.phase == (15 : Int) then
        (bif decide ((v.log.length : Int) > (0 : Int)) == true then
          bif (v.log.length : Int) == (0 : Int) then (bif !v.done then some true else some (v.th.phase == (0 : Int)))
          else bif (v.log.length : Int) == (u.th.batch.length : Int) then (bif !v.done then some true else some (v.th.phase == (0 : Int))) else some false
        else some false)
      else
        (bif decide ((v.log.length : Int) > (0 : Int)) == (v.th.phase == (0 : Int)) then
          bif (v.log.length : Int) == (0 : Int) then (bif !v.done then some true else some (v.th.phase == (0 : Int)))
          else bif (v.log.length : Int) == (u.th.batch.length : Int) then (bif !v.done then some true else some (v.th.phase == (0 : Int))) else some false
        else some false)) = some true := by
      rcases hlog with ⟨h1, h2⟩ | ⟨h1, h2, h3⟩
      · have hpos : decide ((v.log.length : Int) > 0) = true := decide_eq_true (by omega)
        by_cases p15 : v.th.phase = 15
        · rw [beq_t p15]; exact t1 hpos hl
        · have p0 : v.th.phase = 0 := h2.resolve_left p15
          rw [beq_f p15]
          exact t1 (hpos.trans (beq_t p0).symm) hl
      · have hz : decide ((v.log.length : Int) > 0) = false := by rw [h1]; rfl
        rw [beq_f h2]
        exact t1 (hz.trans (beq_f h3).symm) hl
    rcases hc with p | p | p
    · rw [beq_t p]; exact h15
    · rw [beq_f (show u.th.phase ≠ 2 by omega), beq_t p]; exact h15
    · rw [beq_f (show u.th.phase ≠ 2 by omega), beq_f (show u.th.phase ≠ 3 by omega), beq_t p]; exact h15
  · rw [if_neg hc] at hlog
    have hz : decide ((v.log.length : Int) > 0) = false := by rw [hlog]; rfl
    rw [beq_f (show u.th.phase ≠ 2 from fun h => hc (.inl h)), beq_f (show u.th.phase ≠ 3 from fun h => hc (.inr (.inl h))), beq_f (show u.th.phase ≠ 25 from fun h => hc (.inr (.inr h)))]
    simp only [cond_false]
    cases v.th.phase == (15 : Int) <;> exact t1 hz (.inl hlog)
end Go.Proofs.Mill
