/- The plain law of MachineLogs. -/
import Derived.Test.YtaopdopnecognaaGreatMillQMOne
namespace Go.Proofs.Mill
set_option linter.all false

/-- It logs nothing; and it is done at its end alone. -/
def Quiet (u v : Turn) : Prop := v.log = u.log ∧ (v.done = u.done ∨ v.th.phase = 0)
theorem Quiet.refl (u : Turn) : Quiet u u := ⟨rfl, .inl rfl⟩

theorem settleT_quiet (u : Turn) : (settleT u).log = u.log ∧ ((settleT u).done = u.done ∧ (settleT u).th.phase = 15 ∨ (settleT u).th.phase = 0) := by
  unfold settleT
  split
  · exact ⟨rfl, .inr rfl⟩
  · exact ⟨rfl, .inl ⟨rfl, rfl⟩⟩
theorem settleT_q {u v : Turn} (h : u.log = v.log) (h2 : u.done = v.done) : Quiet v (settleT u) := by
  obtain ⟨h3, h4⟩ := settleT_quiet u
  exact ⟨h3.trans h, h4.elim (fun h => .inl (h.1.trans h2)) .inr⟩

theorem startT_q {u v : Turn} (h : u.log = v.log) (h2 : u.done = v.done) : Quiet v (startT u) := by
  unfold startT
  repeat' split
  all_goals exact ⟨h, .inl h2⟩
theorem lookT_q {u : Turn} (w : Int) : Quiet u (lookT u w) := by
  unfold lookT
  repeat' split
  all_goals exact ⟨rfl, .inl rfl⟩
theorem takenT_q {u v : Turn} (h : u.log = v.log) (h2 : u.done = v.done) : Quiet v (takenT u) := by
  unfold takenT
  split <;> exact ⟨h, .inl h2⟩
theorem onwardT_q {u v : Turn} (h : u.log = v.log) (h2 : u.done = v.done) : Quiet v (onwardT u) := by
  unfold onwardT
  split <;> exact ⟨h, .inl h2⟩

theorem clearT_q (u : Turn) : Quiet u (clearT u).1 := by
  unfold clearT
  split
  · exact startT_q rfl rfl
  · exact Quiet.refl _

theorem shareT_q (u : Turn) : Quiet u (shareT u).1 := by
  unfold shareT
  split
  · show Quiet u (if _ then _ else _ : Turn)
    split
    · exact ⟨rfl, .inl rfl⟩
    · exact Quiet.refl _
  split
  · exact settleT_q rfl rfl
  split
  · show Quiet u (if _ then _ else _ : Turn)
    split
    · exact Quiet.refl _
    · split
      · exact Quiet.refl _
      · exact ⟨rfl, .inl rfl⟩
  split
  · show Quiet u (if _ then _ else _ : Turn)
    split
    · exact Quiet.refl _
    · split
      · exact Quiet.refl _
      · exact settleT_q rfl rfl
  exact Quiet.refl _

theorem climbT_q (u : Turn) : Quiet u (climbT u).1 := by
  unfold climbT
  split
  · show Quiet u (if _ then _ else _ : Turn)
    split
    · exact Quiet.refl _
    · exact lookT_q _
  split
  · show Quiet u (if _ then _ else _ : Turn)
    split
    · exact Quiet.refl _
    · split
      · exact takenT_q rfl rfl
      · exact ⟨rfl, .inl rfl⟩
  split
  · show Quiet u (if _ then _ else _ : Turn)
    split
    · exact Quiet.refl _
    · split
      · exact ⟨rfl, .inl rfl⟩
      · exact ⟨rfl, .inl rfl⟩
  exact Quiet.refl _

theorem gatherT_q (u : Turn) : Quiet u (gatherT u).1 := by
  unfold gatherT
  repeat' split
  all_goals exact ⟨rfl, .inl rfl⟩

theorem collideT_q (u : Turn) : Quiet u (collideT u).1 := by
  unfold collideT
  split
  · exact ⟨rfl, .inl rfl⟩
  split
  · exact ⟨rfl, .inl rfl⟩
  split
  · show Quiet u (swapT u)
    unfold swapT
    repeat' split
    all_goals exact ⟨rfl, .inl rfl⟩
  split
  · show Quiet u (comparedT u u.t 21 13)
    unfold comparedT
    repeat' split
    all_goals exact ⟨rfl, .inl rfl⟩
  split
  · show Quiet u (comparedT u u.th.who 22 24)
    unfold comparedT
    repeat' split
    all_goals exact ⟨rfl, .inl rfl⟩
  split
  · show Quiet u (absorbT u)
    unfold absorbT
    split <;> exact ⟨rfl, .inl rfl⟩
  split
  · show Quiet u (spinT u)
    unfold spinT
    repeat' split
    all_goals exact ⟨rfl, .inl rfl⟩
  split
  · exact ⟨rfl, .inl rfl⟩
  split
  · show Quiet u (leaveT u)
    unfold leaveT
    split
    · exact onwardT_q rfl rfl
    · exact ⟨rfl, .inl rfl⟩
  exact Quiet.refl _

/-- What a thread at a cell logs. -/
theorem commitS_log (u : Turn) (hl : u.log = []) (hd : u.done = false) (h : (commitS u).2 = true) :
    (((commitS u).1.log.length = u.th.batch.length ∧ ((commitS u).1.th.phase = 15 ∨ (commitS u).1.th.phase = 0)) ∨ ((commitS u).1.log = [] ∧ (commitS u).1.th.phase ≠ 15 ∧ (commitS u).1.th.phase ≠ 0)) ∧ ((commitS u).1.done = true → (commitS u).1.th.phase = 0) := by
  have com : ∀ {v : Turn} {x : Int}, v.log = [] → v.done = false → ((commitT v x).log.length = v.th.batch.length ∧ ((commitT v x).th.phase = 15 ∨ (commitT v x).th.phase = 0)) ∧ ((commitT v x).done = true → (commitT v x).th.phase = 0) := by
    intro v x h1 h2
    unfold commitT
    obtain ⟨h3, h4⟩ := settleT_quiet { v with th := { v.th with at_ := 0, x := x }, log := v.log ++ marksT v x }
    refine ⟨⟨?_, h4.imp (·.2) id⟩, fun h => ?_⟩
    · rw [h3]
      simp [h1, marksT_length]
    · rcases h4 with h4 | h4
      · have h5 := h4.1
        rw [h5] at h
        have : v.done = true := h
        rw [h2] at this
        cases this
      · exact h4
  unfold commitS at h ⊢
  split at h
  · rename_i p
    rw [if_pos p]
    show ((((comparedU u).log.length = _ ∧ _) ∨ _) ∧ _)
    unfold comparedU
    split
    · obtain ⟨h1, h2⟩ := com (v := setW u (cellAt u.c u.th.item) u.th.y) (x := u.th.x) hl hd
      exact ⟨.inl h1, h2⟩
    · exact ⟨.inr ⟨hl, by simp, by simp⟩, fun h => by rw [show _ = u.done from rfl, hd] at h; cases h⟩
  · rename_i p
    rw [if_neg p]
    split at h
    · rename_i p2
      rw [if_pos p2]
      simp only
      split
      · obtain ⟨h1, h2⟩ := com (v := u) (x := wordAt u (cellAt u.c u.th.item)) hl hd
        exact ⟨.inl h1, h2⟩
      · split
        · have hq := onwardT_q (u := u) (v := u) rfl rfl
          refine ⟨.inr ⟨hq.1.trans hl, ?_⟩, fun h => ?_⟩
          · unfold onwardT
            split <;> exact ⟨by simp, by simp⟩
          · rcases hq.2 with e | e
            · rw [e, hd] at h; cases h
            · exact e
        · exact ⟨.inr ⟨hl, by simp, by simp⟩, fun h => by rw [show _ = u.done from rfl, hd] at h; cases h⟩
    · cases h

/-- What a step logs. -/
theorem machineT_log {u : Turn} (hp : u.th.phase ≠ 0) :
    ((machineT u).done = true → (machineT u).th.phase = 0) ∧
    (if u.th.phase = 2 ∨ u.th.phase = 3 ∨ u.th.phase = 25 then ((machineT u).log.length = u.th.batch.length ∧ ((machineT u).th.phase = 15 ∨ (machineT u).th.phase = 0)) ∨ ((machineT u).log = [] ∧ (machineT u).th.phase ≠ 15 ∧ (machineT u).th.phase ≠ 0)
     else (machineT u).log = []) := by
  have qt : ∀ {v : Turn}, Quiet (begT u) v → (v.done = true → v.th.phase = 0) ∧ v.log = [] := by
    intro v h
    refine ⟨fun hd => ?_, h.1⟩
    rcases h.2 with e | e
    · rw [e] at hd; cases hd
    · exact e
  have hc : (commitS (begT u)).2 = true ↔ (u.th.phase = 2 ∨ u.th.phase = 3 ∨ u.th.phase = 25) := by
    unfold commitS
    have e : (begT u).th.phase = u.th.phase := rfl
    rw [e]
    by_cases p3 : u.th.phase = 3
    · rw [if_pos p3]; simp [p3]
    · rw [if_neg p3]
      by_cases p2 : u.th.phase = 2 ∨ u.th.phase = 25
      · rw [if_pos p2]; simp only [true_iff]; rcases p2 with h | h <;> simp [h]
      · rw [if_neg p2]
        simp only [Bool.false_eq_true, false_iff]
        rintro (h | h | h)
        · exact p2 (.inl h)
        · exact p3 h
        · exact p2 (.inr h)
  have h1 : (clearT (begT u)).2 = true → u.th.phase = 1 := by
    unfold clearT
    split
    · rename_i h; exact fun _ => h
    · intro h; cases h
  have h2 : (shareT (begT u)).2 = true → 13 ≤ u.th.phase ∧ u.th.phase ≤ 16 := by
    have e : (begT u).th.phase = u.th.phase := rfl
    unfold shareT
    rw [e]
    repeat' split
    all_goals first | (intro h; cases h; done) | (intro _; omega)
  unfold machineT
  rw [if_neg hp]
  by_cases c1 : (clearT (begT u)).2 = true
  · rw [if_pos c1]
    obtain ⟨a, b⟩ := qt (clearT_q (begT u))
    have := h1 c1
    exact ⟨a, by rw [if_neg (by omega)]; exact b⟩
  rw [if_neg c1]
  by_cases c2 : (shareT (begT u)).2 = true
  · rw [if_pos c2]
    obtain ⟨a, b⟩ := qt (shareT_q (begT u))
    have := h2 c2
    exact ⟨a, by rw [if_neg (by omega)]; exact b⟩
  rw [if_neg c2]
  by_cases c3 : (commitS (begT u)).2 = true
  · rw [if_pos c3]
    obtain ⟨a, b⟩ := commitS_log (begT u) rfl rfl c3
    exact ⟨b, by rw [if_pos (hc.1 c3)]; exact a⟩
  rw [if_neg c3]
  have hn : ¬ (u.th.phase = 2 ∨ u.th.phase = 3 ∨ u.th.phase = 25) := fun h => c3 (hc.2 h)
  rw [if_neg hn]
  split
  · exact qt (climbT_q (begT u))
  split
  · exact qt (gatherT_q (begT u))
  split
  · exact qt (collideT_q (begT u))
  exact qt (Quiet.refl _)

end Go.Proofs.Mill
