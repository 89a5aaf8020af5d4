/- FairSuffix: which scripts are fair. -/
import Derived.Test.YtaopdopnecognaaGreatMillQRuns
namespace Go.Proofs.Mill
set_option linter.all false

theorem suffix_loop {c : Config} {l s a : List SEntry} {tk t n : Int} {T M : Nat} (hs : s.length ≤ 1000) (hM : M ≤ 100000) :
    ∃ d, W_law19_FairSuffix_12 (l, tk, c, t, s, n, picks T M, a, s, 0) = some (l, c, t, s, n, picks T M, a, s ++ d) ∧ Runs T d M ∧ d.length ≤ 2 * M := by
  obtain ⟨y, hy, d, rfl, h1, h2⟩ := whileM_ex (step := T_law19_FairSuffix_12) (fun st => ∃ i d, st = (l, tk, c, t, s, n, picks T M, a, s ++ d, ((i : Nat) : Int)) ∧ i ≤ M ∧ Runs T d i ∧ d.length ≤ 2 * i) (fun st => M - st.2.2.2.2.2.2.2.2.2.toNat)
    (fun y => ∃ d, y = (l, c, t, s, n, picks T M, a, s ++ d) ∧ Runs T d M ∧ d.length ≤ 2 * M) (fun st hst => by
      obtain ⟨i, d, rfl, hi, hr, hd⟩ := hst
      by_cases hlt : i < M
      · left
        have hsl : (s ++ d).length ≤ 300000 := by rw [List.length_append]; omega
        cases htk : ((i : Int).tmod (97 : Int) == IntKind.i64.wrap tk) with
        | true =>
          refine ⟨(l, tk, c, t, s, n, picks T M, a, s ++ (d ++ [⟨3, 0, 0, ⟨0, 0⟩⟩] ++ [sE (i % T)]), ((i + 1 : Nat) : Int)), ?_, ⟨i + 1, _, rfl, by omega, runs_pick (runs_tick hr), by simp; omega⟩, by
            show M - (((i + 1 : Nat) : Int)).toNat < M - ((i : Nat) : Int).toNat; omega⟩
          show S_law19_FairSuffix_12 l tk c t s n (picks T M) a (s ++ d) (i : Int) = _
          unfold S_law19_FairSuffix_12
          rw [htk, picks_length, decide_eq_true (show (i : Int) < M by omega), few_true (by simp only [List.length_cons, List.length_nil]; omega), decide_eq_true (show (0 : Int) ≤ (i : Int) by omega), few_true (by simp only [List.length_append, List.length_cons, List.length_nil] at hsl ⊢; omega), Int.toNat_natCast, picks_get hlt, wrap_id (n := (i : Int) + 1) (by omega) (by omega)]
          simp only [cond_true, List.append_assoc, Int.natCast_add, Int.natCast_one]
        | false =>
          refine ⟨(l, tk, c, t, s, n, picks T M, a, s ++ (d ++ [sE (i % T)]), ((i + 1 : Nat) : Int)), ?_, ⟨i + 1, _, rfl, by omega, runs_pick hr, by simp; omega⟩, by
            show M - (((i + 1 : Nat) : Int)).toNat < M - ((i : Nat) : Int).toNat; omega⟩
          show S_law19_FairSuffix_12 l tk c t s n (picks T M) a (s ++ d) (i : Int) = _
          unfold S_law19_FairSuffix_12
          rw [htk, picks_length, decide_eq_true (show (i : Int) < M by omega), decide_eq_true (show (0 : Int) ≤ (i : Int) by omega), Int.toNat_natCast, picks_get hlt, few_true (n := (s ++ d).length + [sE (i % T)].length) (by simp only [List.length_cons, List.length_nil]; omega), wrap_id (n := (i : Int) + 1) (by omega) (by omega)]
          simp only [cond_true, cond_false, List.append_assoc, Int.natCast_add, Int.natCast_one]
      · right
        have e : i = M := by omega
        subst e
        refine ⟨(l, c, t, s, n, picks T i, a, s ++ d), ?_, d, rfl, hr, hd⟩
        show S_law19_FairSuffix_12 l tk c t s n (picks T i) a (s ++ d) (i : Int) = _
        unfold S_law19_FairSuffix_12
        rw [picks_length, decide_eq_false (by omega)]
        rfl) ⟨0, [], by rw [List.append_nil], Nat.zero_le _, runs_nil, by simp⟩
  exact ⟨d, hy, h1, h2⟩

theorem picks_cons {T M : Nat} (h : 0 < M) : ∃ r, picks T M = sE 0 :: r := by
  obtain ⟨m, rfl⟩ : ∃ m, M = m + 1 := ⟨M - 1, by omega⟩
  refine ⟨(List.range m).map fun i => sE ((i + 1) % T), ?_⟩
  simp [picks, List.range_succ_eq_map, Function.comp_def]

/-- One pick more ahead. -/
theorem ahead_runs {T n : Nat} {t : Int} (hT : 0 < T) (hn : 0 < n) (ht : 0 ≤ t ∧ t < T) : runP T ([⟨2, t, 0, ⟨0, 0⟩⟩] ++ picks T (n * T)) 0 / T = if T = 1 then n + 1 else 0 := by
  have hnT : 0 < n * T := Nat.mul_pos hn hT
  show (if (2 : Int) ≠ 2 then _ else if t ≠ ((0 % T : Nat) : Int) then 0 else runP T (picks T (n * T)) (0 + 1)) / T = _
  rw [if_neg (fun h => h rfl), Nat.zero_mod]
  by_cases h1 : T = 1
  · subst h1
    rw [if_pos rfl, if_neg (fun h => h (by omega))]
    have := runP_shift 1 1 (picks 1 (n * 1)) 0
    rw [(runs_picks (n * 1)).all] at this
    rw [show 0 + 1 = 1 * 1 + 0 from rfl, this]
    omega
  · rw [if_neg h1]
    by_cases h0 : t = 0
    · rw [if_neg (fun h => h (by rw [h0]; rfl))]
      obtain ⟨r, hr⟩ := picks_cons (T := T) hnT
      rw [hr]
      have e1 : (0 + 1) % T = 1 := Nat.mod_eq_of_lt (by omega)
      show (if (2 : Int) ≠ 2 then _ else if ((0 : Nat) : Int) ≠ (((0 + 1) % T : Nat) : Int) then 0 + 1 else _) / T = _
      rw [if_neg (fun h => h rfl), e1, if_pos (by omega)]
      exact Nat.div_eq_of_lt (by omega)
    · rw [if_pos (by simpa using h0)]
      exact Nat.zero_div _

theorem pure_FairSuffix (c : Config) (l : List SEntry) (op : Op) (x3 x4 : Int) (o0 : (valSt celConfig).Ok c) (o1 : (valLst .sentry).Ok l) (o2 : (valSt celOp).Ok op) (o3 : (valInt .u8).Ok x3) (o4 : (valInt .u8).Ok x4) : F_law19_FairSuffix c l op x3 x4 = some true := by
  obtain ⟨b, hb, hB⟩ := may_ok (c := c)
  obtain ⟨u1, u2, u3⟩ := u8_wrap o3
  unfold F_law19_FairSuffix
  simp only [C_law19_may, hb, C_law19_shown, law19_shown]
  cases b with
  | false => rfl
  | true =>
  have h := hB.1 rfl
  simp only [Bool.not_true, cond_false]
  rw [cond_dec]
  by_cases h1 : (l.length : Int) > 200
  · rw [if_pos h1]
  rw [if_neg h1, cond_dec]
  by_cases h2 : c.threads > 6
  · rw [if_pos h2]
  rw [if_neg h2, cond_dec]
  by_cases h3 : c.depth > 3
  · rw [if_pos h3]
  rw [if_neg h3, cond_dec]
  by_cases h4 : c.layers > 2
  · rw [if_pos h4]
  rw [if_neg h4, cond_dec]
  by_cases h5 : c.spin > 5
  · rw [if_pos h5]
  rw [if_neg h5]
  have hT := h.threads
  rw [decide_eq_false (show ¬ c.threads = 0 by omega), u1]
  simp only [cond_false]
  have ht : 0 ≤ x3.tmod c.threads ∧ x3.tmod c.threads < c.threads := by
    rw [Int.tmod_eq_emod_of_nonneg u2]
    exact ⟨Int.emod_nonneg _ (by omega), Int.emod_lt_of_pos _ (by omega)⟩
  generalize x3.tmod c.threads = t at *
  obtain ⟨e0, he0⟩ : ∃ e0 : SEntry, e0 = SEntry.mk (1 : Int) t (0 : Int) op := ⟨_, rfl⟩
  rw [← he0]
  have he1 : e0.kind = 1 := by rw [he0]
  -- the rounds
  have hrb := rounds_bounds h
  have hst : stepsOf c ≤ 104 := by
    have k1 := h.depth
    have k2 := h.layers
    have k3 := h.spin
    have k5 : c.layers * (20 + 2 * c.spin) ≤ 2 * 30 := Int.mul_le_mul (by omega) (by omega) (by omega) (by omega)
    unfold stepsOf
    omega
  have hR : roundsOf c ≤ 2516 := by
    have k1 := steps_bounds h
    have k5 : 4 * stepsOf c * c.threads ≤ 416 * 6 := Int.mul_le_mul (by omega) (by omega) (by omega) (by omega)
    unfold roundsOf
    omega
  obtain ⟨n, hn⟩ : ∃ n : Nat, roundsOf c = n := ⟨(roundsOf c).toNat, by omega⟩
  have hsuf := fair_suffix h (roundsOf c) (by omega)
  have hfr := fair_rounds h
  rw [hn, Int.toNat_natCast] at hsuf
  rw [hn] at hfr
  generalize hTT : c.threads.toNat = T at *
  have hTc : c.threads = (T : Int) := by omega
  have hTp : 0 < T := by omega
  have hnT : n * T ≤ 2516 * 6 := Nat.mul_le_mul (by omega) (by omega)
  rw [Nat.min_eq_left (by omega)] at hsuf
  simp only [C_fair_Rounds, hfr, C_fair_Suffix, hsuf, picks_length, List.length_append, List.length_cons, List.length_nil]
  have hw : wrapA IntKind.i64 ((n : Int) * c.threads) = ((n * T : Nat) : Int) := by
    rw [hTc, show (n : Int) * (T : Int) = ((n * T : Nat) : Int) by rw [Int.natCast_mul], wrap_id (by omega) (by omega)]
  rw [hw, bne_self_eq_false]
  obtain ⟨d, hloop, hr, hdl⟩ := suffix_loop (c := c) (l := l) (s := l ++ [e0]) (a := l ++ [e0] ++ picks T (n * T)) (tk := x4) (t := t) (n := (n : Int)) (T := T) (M := n * T) (by simp; omega) (by omega)
  rw [hloop]
  rw [few_true (n := 0 + l.length) (by omega), few_true (n := l.length + (0 + 1)) (by omega), few_true (n := 0 + (l.length + (0 + 1))) (by omega), few_true (n := l.length + (0 + 1) + n * T) (by omega)]
  simp only [cond_true, cond_false, List.length_append, List.length_cons, List.length_nil, picks_length]
  rw [few_true (n := 0 + (l.length + (0 + 1))) (by omega), few_true (n := l.length + (0 + 1) + (0 + 1)) (by omega), few_true (n := l.length + (0 + 1) + (0 + 1) + n * T) (by omega)]
  simp only [cond_true]
  -- the scripts
  have wa : F_fair_Whole c (l ++ [e0] ++ picks T (n * T)) = some (n : Int) := by
    have := whole_behind h (l := l) (e := e0) (d := picks T (n * T)) (by simp [picks_length]; omega) he1 (runs_picks _).1
    rw [hTT, (runs_picks _).all, Nat.mul_div_cancel _ hTp] at this
    exact this
  have wb : F_fair_Whole c (l ++ [e0] ++ d) = some (n : Int) := by
    have := whole_behind h (l := l) (e := e0) (d := d) (by simp; omega) he1 hr.1
    rw [hTT, hr.all, Nat.mul_div_cancel _ hTp] at this
    exact this
  have wc : F_fair_Whole c (l ++ [e0] ++ picks T (n * T) ++ [e0]) = some 0 := by
    have := whole_behind h (l := l ++ [e0] ++ picks T (n * T)) (e := e0) (d := []) (by simp [picks_length]; omega) he1 (fun _ h => by cases h)
    rw [List.append_nil] at this
    rw [this]
    show some (((0 / c.threads.toNat : Nat)) : Int) = _
    rw [Nat.zero_div]; rfl
  have wd : F_fair_Whole c (l ++ [e0] ++ [⟨2, t, 0, ⟨0, 0⟩⟩] ++ picks T (n * T)) = some (((if T = 1 then n + 1 else 0 : Nat)) : Int) := by
    have := whole_behind h (l := l) (e := e0) (d := [⟨2, t, 0, ⟨0, 0⟩⟩] ++ picks T (n * T)) (by simp [picks_length]; omega) he1 (fun e he => by
      rcases List.mem_append.1 he with he | he
      · simp only [List.mem_singleton] at he
        subst he
        show (2 : Int) ≠ 1
        omega
      · exact (runs_picks _).1 e he)
    rw [hTT, ahead_runs hTp (by omega) (by omega), ← List.append_assoc] at this
    exact this
  have fa := fair_of h wa
  have fb := fair_of h wb
  have fc := fair_of h wc
  have fd := fair_of h wd
  rw [hn] at fa fb fc fd
  rw [decide_eq_true (Int.le_refl _)] at fa fb
  rw [decide_eq_false (show ¬ ((n : Int) ≤ 0) by omega)] at fc
  simp only [C_fair_Fair, fa, C_fair_Whole, wa, fb, cond_true, beq_self_eq_true]
  rw [few_true (by omega), decide_eq_true (show (l.length : Int) < ((l.length + (0 + 1) : Nat) : Int) by omega), few_true (by omega), Int.toNat_natCast]
  have hget : (l ++ [e0]).getD l.length dSEntry = e0 := by
    rw [List.getD_eq_getElem?_getD, List.getElem?_append_right (Nat.le_refl _), Nat.sub_self]; rfl
  rw [hget, fc, fd]
  simp only [cond_true, Bool.not_false]
  congr 1
  rw [beq_iff_eq]
  by_cases hT1 : T = 1
  · rw [if_pos hT1, decide_eq_true (by omega)]
    symm; rw [beq_iff_eq]; omega
  · rw [if_neg hT1, decide_eq_false (by omega)]
    symm; rw [beq_eq_false_iff_ne]; omega

end Go.Proofs.Mill
