/- Rounds, and how many of them a script ends with. -/
import Derived.Test.YtaopdopnecognaaGreatMillQCfg
namespace Go.Proofs.Mill
set_option linter.all false

def stepsOf (c : Config) : Int := 20 + 8 * c.depth + c.layers * (20 + 2 * c.spin)
def roundsOf (c : Config) : Int := 20 + 4 * stepsOf c * c.threads

theorem may_ok {c : Config} : ∃ b, F_law19_may c = some b ∧ (b = true ↔ CfgOK c) := by
  obtain ⟨e, he, h⟩ := check_some c
  refine ⟨e == 0, ?_, ?_⟩
  · unfold F_law19_may
    simp only [C_ref05_Check, he]
  · rw [← h]; simp

theorem steps_bounds {c : Config} (h : CfgOK c) : 20 ≤ stepsOf c ∧ stepsOf c ≤ 232 := by
  have h1 := h.depth
  have h2 := h.layers
  have h3 := h.spin
  have h4 : 0 ≤ c.layers * (20 + 2 * c.spin) := Int.mul_nonneg (by omega) (by omega)
  have h5 : c.layers * (20 + 2 * c.spin) ≤ 3 * 60 := Int.mul_le_mul (by omega) (by omega) (by omega) (by omega)
  unfold stepsOf
  omega

theorem rounds_bounds {c : Config} (h : CfgOK c) : 20 ≤ roundsOf c ∧ roundsOf c ≤ 14868 ∧ 0 ≤ 4 * stepsOf c * c.threads ∧ 4 * stepsOf c * c.threads ≤ 14848 := by
  have h1 := h.threads
  have h2 := steps_bounds h
  have h4 : 0 ≤ 4 * stepsOf c * c.threads := Int.mul_nonneg (by omega) (by omega)
  have h5 : 4 * stepsOf c * c.threads ≤ 928 * 16 := Int.mul_le_mul (by omega) (by omega) (by omega) (by omega)
  unfold roundsOf
  omega

theorem config_steps {c : Config} (h : CfgOK c) : F_config_Steps c = some (stepsOf c) := by
  have h1 := h.depth
  have h2 := h.layers
  have h3 := h.spin
  have h4 : 0 ≤ c.layers * (20 + 2 * c.spin) := Int.mul_nonneg (by omega) (by omega)
  have h5 : c.layers * (20 + 2 * c.spin) ≤ 3 * 60 := Int.mul_le_mul (by omega) (by omega) (by omega) (by omega)
  unfold F_config_Steps stepsOf
  rw [wrap_id (n := 2 * c.spin) (by omega) (by omega), wrap_id (n := 20 + 2 * c.spin) (by omega) (by omega), wrap_id (n := 8 * c.depth) (by omega) (by omega), wrap_id (n := 20 + 8 * c.depth) (by omega) (by omega), wrap_id (n := c.layers * (20 + 2 * c.spin)) (by omega) (by omega), wrap_id (by omega) (by omega)]

theorem fair_rounds {c : Config} (h : CfgOK c) : F_fair_Rounds c = some (roundsOf c) := by
  have h2 := steps_bounds h
  have h3 := rounds_bounds h
  unfold F_fair_Rounds
  simp only [C_config_Steps, config_steps h]
  rw [wrap_id (n := 4 * stepsOf c) (by omega) (by omega), wrap_id (n := 4 * stepsOf c * c.threads) (by omega) (by omega), wrap_id (by omega) (by omega)]
  rfl

theorem ref19_rounds {c : Config} (h : CfgOK c) : F_ref19_Rounds c = some (roundsOf c) := by
  have h1 := h.threads
  have h2 := steps_bounds h
  have h3 := rounds_bounds h
  have e : 4 * c.threads * stepsOf c = 4 * stepsOf c * c.threads := by rw [Int.mul_assoc, Int.mul_assoc, Int.mul_comm c.threads]
  have hs : F_ref05_Steps c = some (stepsOf c) := config_steps h
  unfold F_ref19_Rounds
  simp only [C_ref05_Steps, hs]
  rw [wrap_id (n := 4 * c.threads) (by omega) (by omega), wrap_id (n := 4 * c.threads * stepsOf c) (by omega) (by omega), e, wrap_id (by omega) (by omega)]
  unfold roundsOf
  rw [Int.add_comm]

/-! Picks. -/
def sE (t : Nat) : SEntry := ⟨2, t, 0, ⟨0, 0⟩⟩
def picks (T m : Nat) : List SEntry := (List.range m).map fun i => sE (i % T)
theorem picks_length {T m : Nat} : (picks T m).length = m := by simp [picks]
theorem picks_succ {T m : Nat} : picks T (m + 1) = picks T m ++ [sE (m % T)] := by simp [picks, List.range_succ]
theorem picks_zero {T : Nat} : picks T 0 = [] := rfl
theorem picks_get {T m i : Nat} (h : i < m) : (picks T m).getD i dSEntry = sE (i % T) := by
  simp [picks, List.getD_eq_getElem?_getD, h]

theorem fair_round {c : Config} (h : CfgOK c) : F_fair_Round c = some (picks c.threads.toNat c.threads.toNat) := by
  have h1 := h.threads
  have key : W_fair_Round_2 ([], c.threads, 0) = some (picks c.threads.toNat c.threads.toNat) := by
    refine whileM_for (step := T_fair_Round_2) (fun i => (picks c.threads.toNat i, c.threads, (i : Int))) c.threads.toNat (fun i hi => ?_) ?_
    · show S_fair_Round_2 (picks c.threads.toNat i) c.threads (i : Int) = some (.inl (picks c.threads.toNat (i + 1), c.threads, ((i + 1 : Nat) : Int)))
      unfold S_fair_Round_2
      rw [decide_eq_true (show (i : Int) < c.threads by omega), few_true (by rw [picks_length]; simp; omega), wrap_id (by omega) (by omega)]
      simp only [cond_true, picks_succ, sE, Nat.mod_eq_of_lt hi, Int.natCast_add, Int.natCast_one]
    · show S_fair_Round_2 (picks c.threads.toNat c.threads.toNat) c.threads (c.threads.toNat : Int) = _
      unfold S_fair_Round_2
      rw [decide_eq_false (show ¬ ((c.threads.toNat : Nat) : Int) < c.threads by omega)]
      rfl
  unfold F_fair_Round
  rw [key]

theorem mod_next {T r i : Nat} (hi : i < T) : (r * T + i) % T = i := by
  rw [Nat.mul_comm, Nat.mul_add_mod, Nat.mod_eq_of_lt hi]

/-- A round is put behind. -/
theorem suffix_round {c : Config} (h : CfgOK c) (n : Int) {r : Nat} (hr : r * c.threads.toNat ≤ 65536) : W_fair_Suffix_5 (n, picks c.threads.toNat (r * c.threads.toNat), picks c.threads.toNat c.threads.toNat, picks c.threads.toNat c.threads.toNat, ((picks c.threads.toNat c.threads.toNat).length : Int), 0) =
    if (r + 1) * c.threads.toNat ≤ 65536 then some (.inr (n, picks c.threads.toNat ((r + 1) * c.threads.toNat), picks c.threads.toNat c.threads.toNat)) else some (.inl (picks c.threads.toNat 65536)) := by
  have h1 := h.threads
  rw [picks_length]
  generalize hT : c.threads.toNat = T at *
  have hmul : (r + 1) * T = r * T + T := by rw [Nat.add_mul]; omega
  have hstep : ∀ i, i < T → r * T + i < 65536 → T_fair_Suffix_5 (n, picks T (r * T + i), picks T T, picks T T, (T : Int), (i : Int)) = some (.inl (n, picks T (r * T + (i + 1)), picks T T, picks T T, (T : Int), ((i + 1 : Nat) : Int))) := by
    intro i hi hlt
    show S_fair_Suffix_5 n (picks T (r * T + i)) (picks T T) (picks T T) (T : Int) (i : Int) = _
    unfold S_fair_Suffix_5
    rw [picks_length, picks_length, decide_eq_true (show (i : Int) < T by omega), decide_eq_true (show (0 : Int) ≤ i by omega), decide_eq_false (show ¬ ((r * T + i : Nat) : Int) ≥ 65536 by omega), few_true (by simp; omega), wrap_id (by omega) (by omega), Int.toNat_natCast, picks_get hi]
    simp only [cond_true, cond_false, ← Nat.add_assoc, picks_succ, mod_next hi, Nat.mod_eq_of_lt hi, Int.natCast_add, Int.natCast_one]
  by_cases hle : (r + 1) * T ≤ 65536
  · rw [if_pos hle]
    have := whileM_for (step := T_fair_Suffix_5) (fun i => (n, picks T (r * T + i), picks T T, picks T T, (T : Int), (i : Int))) T (y := .inr (n, picks T ((r + 1) * T), picks T T)) (fun i hi => hstep i hi (by omega)) (by
      show S_fair_Suffix_5 n (picks T (r * T + T)) (picks T T) (picks T T) (T : Int) (T : Int) = _
      unfold S_fair_Suffix_5
      rw [decide_eq_false (by omega), hmul]
      rfl)
    exact this
  · rw [if_neg hle]
    have := whileM_for (step := T_fair_Suffix_5) (fun i => (n, picks T (r * T + i), picks T T, picks T T, (T : Int), (i : Int))) (65536 - r * T) (y := .inl (picks T 65536)) (fun i hi => hstep i (by omega) (by omega)) (by
      show S_fair_Suffix_5 n (picks T (r * T + (65536 - r * T))) (picks T T) (picks T T) (T : Int) ((65536 - r * T : Nat) : Int) = _
      unfold S_fair_Suffix_5
      rw [picks_length, picks_length, decide_eq_true (show ((65536 - r * T : Nat) : Int) < T by omega), decide_eq_true (show (0 : Int) ≤ ((65536 - r * T : Nat) : Int) by omega), decide_eq_true (show ((r * T + (65536 - r * T) : Nat) : Int) ≥ 65536 by omega)]
      rw [show r * T + (65536 - r * T) = 65536 by omega]
      rfl)
    exact this

/-- **Some rounds.** -/
theorem fair_suffix {c : Config} (h : CfgOK c) (n : Int) (hn : n < 4000000000) : F_fair_Suffix c n = some (picks c.threads.toNat (min (n.toNat * c.threads.toNat) 65536)) := by
  have h1 := h.threads
  have key : ∀ (k r : Nat), r * c.threads.toNat ≤ 65536 → k < 4000000000 → W_fair_Suffix_2 ((k : Int), picks c.threads.toNat (r * c.threads.toNat), picks c.threads.toNat c.threads.toNat) = some (picks c.threads.toNat (min ((r + k) * c.threads.toNat) 65536)) := by
    intro k
    induction k with
    | zero =>
      intro r hr _
      unfold W_fair_Suffix_2
      rw [whileM_eq]
      have e : T_fair_Suffix_2 (((0 : Nat) : Int), picks c.threads.toNat (r * c.threads.toNat), picks c.threads.toNat c.threads.toNat) = some (.inr (picks c.threads.toNat (r * c.threads.toNat))) := rfl
      rw [e, Nat.add_zero, Nat.min_eq_left hr]
    | succ k ih =>
      intro r hr hk
      unfold W_fair_Suffix_2
      rw [whileM_eq]
      have e : T_fair_Suffix_2 (((k + 1 : Nat) : Int), picks c.threads.toNat (r * c.threads.toNat), picks c.threads.toNat c.threads.toNat) = S_fair_Suffix_2 ((k + 1 : Nat) : Int) (picks c.threads.toNat (r * c.threads.toNat)) (picks c.threads.toNat c.threads.toNat) := rfl
      rw [e]
      unfold S_fair_Suffix_2
      rw [decide_eq_true (show ((k + 1 : Nat) : Int) > 0 by omega), suffix_round h _ hr]
      by_cases hle : (r + 1) * c.threads.toNat ≤ 65536
      · rw [if_pos hle]
        simp only [cond_true]
        rw [show ((k + 1 : Nat) : Int) - 1 = k by omega, wrap_id (n := (k : Int)) (by omega) (by omega)]
        have := ih (r + 1) hle (by omega)
        unfold W_fair_Suffix_2 at this
        rw [this, show r + 1 + k = r + (k + 1) by omega]
      · rw [if_neg hle]
        simp only [cond_true]
        have : 65536 ≤ (r + (k + 1)) * c.threads.toNat := by
          have h5 : (r + 1) * c.threads.toNat ≤ (r + (k + 1)) * c.threads.toNat := Nat.mul_le_mul_right _ (by omega)
          omega
        rw [Nat.min_eq_right this]
  unfold F_fair_Suffix
  simp only [C_fair_Round, fair_round h]
  by_cases hneg : n ≤ 0
  · have : W_fair_Suffix_2 (n, [], picks c.threads.toNat c.threads.toNat) = some [] := by
      unfold W_fair_Suffix_2
      rw [whileM_eq]
      have e : T_fair_Suffix_2 (n, [], picks c.threads.toNat c.threads.toNat) = some (.inr []) := by
        show S_fair_Suffix_2 n [] (picks c.threads.toNat c.threads.toNat) = _
        unfold S_fair_Suffix_2
        rw [decide_eq_false (by omega)]
        rfl
      rw [e]
    rw [this, show n.toNat = 0 by omega]
    simp [picks_zero]
  · have := key n.toNat 0 (by omega) (by omega)
    rw [show ((n.toNat : Nat) : Int) = n by omega, Nat.zero_mul, picks_zero, Nat.zero_add] at this
    rw [this]

end Go.Proofs.Mill
