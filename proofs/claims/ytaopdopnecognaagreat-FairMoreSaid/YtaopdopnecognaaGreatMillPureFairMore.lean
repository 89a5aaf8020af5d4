/- FairMore: a round more is one more. -/
import Derived.Test.YtaopdopnecognaaGreatMillQRuns
namespace Go.Proofs.Mill
set_option linter.all false

theorem more_loop {c : Config} {l s : List SEntry} {k : Int} (hl : l.length ≤ 4000000000) :
    ((∀ e ∈ l, e.kind ≠ 1) ∧ W_law19_FairMore_6 (l, c, k, s, 0) = some (.inl (l, c, k, s))) ∨ W_law19_FairMore_6 (l, c, k, s, 0) = some (.inr true) := by
  by_cases h : ∃ j, j < l.length ∧ (l.getD j dSEntry).kind = 1
  · right
    have least : ∀ n, (∃ j, j < n ∧ j < l.length ∧ (l.getD j dSEntry).kind = 1) → ∃ j, j < l.length ∧ (l.getD j dSEntry).kind = 1 ∧ ∀ i, i < j → (l.getD i dSEntry).kind ≠ 1 := by
      intro n
      induction n with
      | zero => rintro ⟨j, hj, _⟩; omega
      | succ n ih =>
        rintro ⟨j, hj, hjl, hjk⟩
        by_cases hlow : ∃ j, j < n ∧ j < l.length ∧ (l.getD j dSEntry).kind = 1
        · exact ih hlow
        · exact ⟨j, hjl, hjk, fun i hi hk => hlow ⟨i, by omega, by omega, hk⟩⟩
    obtain ⟨j, hj, hk⟩ := h
    obtain ⟨j, hj, hk, hb⟩ := least l.length ⟨j, hj, hj, hk⟩
    refine whileM_for (step := T_law19_FairMore_6) (fun i => (l, c, k, s, (i : Int))) j (y := .inr true) (fun i hi => ?_) ?_
    · show S_law19_FairMore_6 l c k s (i : Int) = some (.inl (l, c, k, s, ((i + 1 : Nat) : Int)))
      unfold S_law19_FairMore_6
      rw [decide_eq_true (show (i : Int) < l.length by omega), decide_eq_true (show (0 : Int) ≤ (i : Int) by omega), Int.toNat_natCast, wrap_id (n := (i : Int) + 1) (by omega) (by omega), show ((l.getD i dSEntry).kind == (1 : Int)) = false by rw [beq_eq_false_iff_ne]; exact hb i hi]
      rfl
    · show S_law19_FairMore_6 l c k s (j : Int) = _
      unfold S_law19_FairMore_6
      rw [decide_eq_true (show (j : Int) < l.length by omega), decide_eq_true (show (0 : Int) ≤ (j : Int) by omega), Int.toNat_natCast, show ((l.getD j dSEntry).kind == (1 : Int)) = true by rw [beq_iff_eq]; exact hk]
      rfl
  · left
    have hb : ∀ j, j < l.length → (l.getD j dSEntry).kind ≠ 1 := fun j hj hk => h ⟨j, hj, hk⟩
    refine ⟨fun e he => ?_, ?_⟩
    · obtain ⟨i, hi, rfl⟩ := List.getElem_of_mem he
      have := hb i hi
      rw [List.getD_eq_getElem?_getD, List.getElem?_eq_getElem hi] at this
      exact this
    · refine whileM_for (step := T_law19_FairMore_6) (fun i => (l, c, k, s, (i : Int))) l.length (y := .inl (l, c, k, s)) (fun i hi => ?_) ?_
      · show S_law19_FairMore_6 l c k s (i : Int) = some (.inl (l, c, k, s, ((i + 1 : Nat) : Int)))
        unfold S_law19_FairMore_6
        rw [decide_eq_true (show (i : Int) < l.length by omega), decide_eq_true (show (0 : Int) ≤ (i : Int) by omega), Int.toNat_natCast, wrap_id (n := (i : Int) + 1) (by omega) (by omega), show ((l.getD i dSEntry).kind == (1 : Int)) = false by rw [beq_eq_false_iff_ne]; exact hb i hi]
        rfl
      · show S_law19_FairMore_6 l c k s (l.length : Int) = _
        unfold S_law19_FairMore_6
        rw [decide_eq_false (by omega)]
        rfl

theorem pure_FairMore (c : Config) (x1 : Int) (l : List SEntry) (o0 : (valSt celConfig).Ok c) (o1 : (valInt .u8).Ok x1) (o2 : (valLst .sentry).Ok l) : F_law19_FairMore c x1 l = some true := by
  obtain ⟨b, hb, hB⟩ := may_ok (c := c)
  obtain ⟨u1, u2, u3⟩ := u8_wrap o1
  unfold F_law19_FairMore
  simp only [C_law19_may, hb, C_law19_shown, law19_shown]
  cases b with
  | false => rfl
  | true =>
  have h := hB.1 rfl
  simp only [Bool.not_true, cond_false]
  rw [cond_dec]
  by_cases h1 : (l.length : Int) > 200
  · rw [if_pos h1]
  rw [if_neg h1, u1]
  obtain ⟨k, hk⟩ : ∃ k : Nat, x1.tmod 60 = k ∧ k < 60 := ⟨(x1.tmod 60).toNat, by rw [Int.tmod_eq_emod_of_nonneg u2]; omega, by rw [Int.tmod_eq_emod_of_nonneg u2]; omega⟩
  rw [hk.1]
  have hT := h.threads
  have hsuf := fair_suffix h (k : Int) (by omega)
  rw [Int.toNat_natCast] at hsuf
  generalize hTT : c.threads.toNat = T at *
  have hTp : 0 < T := by omega
  have hkT : k * T ≤ 59 * 16 := Nat.mul_le_mul (by omega) (by omega)
  rw [Nat.min_eq_left (by omega)] at hsuf
  simp only [C_fair_Suffix, hsuf]
  rcases more_loop (c := c) (l := l) (s := picks T (k * T)) (k := (k : Int)) (by omega) with ⟨hn, hw⟩ | hw
  · rw [hw]
    simp only
    have hround : F_fair_Round c = some (picks T T) := by have := fair_round h; rw [hTT] at this; exact this
    have hr := runs_picks (T := T) (k * T)
    have hnl : ∀ e ∈ picks T (k * T) ++ l, e.kind ≠ 1 := fun e he => (List.mem_append.1 he).elim (hr.1 e) (hn e)
    have hnr : ∀ e ∈ picks T (k * T) ++ picks T T, e.kind ≠ 1 := fun e he => (List.mem_append.1 he).elim (hr.1 e) ((runs_picks T).1 e)
    have w1 := whole_none h (l := picks T (k * T)) (by rw [picks_length]; omega) hr.1
    have w2 := whole_none h (l := picks T (k * T) ++ l) (by rw [List.length_append, picks_length]; omega) hnl
    have w3 := whole_none h (l := picks T (k * T) ++ picks T T) (by rw [List.length_append, picks_length, picks_length]; omega) hnr
    have w4 := whole_none h (l := l) (by omega) hn
    rw [hTT] at w1 w2 w3 w4
    have e0 := runP_shift T k l 0
    rw [Nat.add_zero] at e0
    have e1 : runP T (picks T T) (k * T) = k * T + T := by
      have := runP_shift T k (picks T T) 0
      rw [Nat.add_zero, (runs_picks T).all] at this
      exact this
    rw [hr.all, Nat.mul_div_cancel _ hTp] at w1
    rw [hr.2, e0, Nat.mul_comm k T, Nat.mul_add_div hTp] at w2
    rw [Nat.mul_comm T k] at w2
    rw [hr.2, e1, show k * T + T = (k + 1) * T by rw [Nat.add_mul]; omega, Nat.mul_div_cancel _ hTp] at w3
    have hb4 := runP_ge T l 0
    have hd4 : runP T l 0 / T ≤ runP T l 0 := Nat.div_le_self _ _
    generalize hq : runP T l 0 / T = q at *
    have hql : (q : Int) ≤ 200 := by omega
    simp only [C_fair_Whole, w1, w2, w3, w4, C_fair_Round, hround, List.length_append, picks_length]
    rw [few_true (by omega), few_true (by omega), few_true (by omega), wrap_id (n := (k : Int) + 1) (by omega) (by omega), wrap_id (n := (k : Int) + q) (by omega) (by omega)]
    simp only [beq_self_eq_true, cond_true]
    rw [show (((k + 1 : Nat) : Int) == (k : Int) + 1) = true by rw [beq_iff_eq]; omega, decide_eq_true (show ((k + q : Nat) : Int) ≥ (k : Int) by omega), show (((k + q : Nat) : Int) == (k : Int) + (q : Int)) = true by rw [beq_iff_eq]; omega]
    rfl
  · rw [hw]

end Go.Proofs.Mill
