/- The document's suffixes; how many whole rounds a script ends with. -/
import Derived.Test.YtaopdopnecognaaGreatMillQFair
namespace Go.Proofs.Mill
set_option linter.all false

theorem ref_round {c : Config} (h : CfgOK c) (n : Int) (k : Int) {r : Nat} (hr : r * c.threads.toNat ≤ 65536) : W_ref19_Suffix_6 (n, c, picks c.threads.toNat (r * c.threads.toNat), k, 0) =
    if (r + 1) * c.threads.toNat ≤ 65536 then some (.inl (n, c, picks c.threads.toNat ((r + 1) * c.threads.toNat), k)) else some (.inr (picks c.threads.toNat 65536)) := by
  have h1 := h.threads
  generalize hT : c.threads.toNat = T at *
  have hTc : c.threads = (T : Int) := by omega
  have hmul : (r + 1) * T = r * T + T := by rw [Nat.add_mul]; omega
  have hstep : ∀ i, i < T → r * T + i < 65536 → T_ref19_Suffix_6 (n, c, picks T (r * T + i), k, (i : Int)) = some (.inl (n, c, picks T (r * T + (i + 1)), k, ((i + 1 : Nat) : Int))) := by
    intro i hi hlt
    show S_ref19_Suffix_6 n c (picks T (r * T + i)) k (i : Int) = _
    unfold S_ref19_Suffix_6
    have hne : (((r * T + i : Nat) : Int) == (65536 : Int)) = false := by
      rw [beq_eq_false_iff_ne]; omega
    rw [picks_length, hTc, decide_eq_true (show (i : Int) < T by omega), hne, few_true (by simp; omega), wrap_id (by omega) (by omega)]
    simp only [cond_true, cond_false, ← Nat.add_assoc, picks_succ, mod_next hi, sE, Int.natCast_add, Int.natCast_one]
  by_cases hle : (r + 1) * T ≤ 65536
  · rw [if_pos hle]
    have := whileM_for (step := T_ref19_Suffix_6) (fun i => (n, c, picks T (r * T + i), k, (i : Int))) T (y := .inl (n, c, picks T ((r + 1) * T), k)) (fun i hi => hstep i hi (by omega)) (by
      show S_ref19_Suffix_6 n c (picks T (r * T + T)) k (T : Int) = _
      unfold S_ref19_Suffix_6
      rw [hTc, decide_eq_false (by omega), hmul]
      rfl)
    exact this
  · rw [if_neg hle]
    have := whileM_for (step := T_ref19_Suffix_6) (fun i => (n, c, picks T (r * T + i), k, (i : Int))) (65536 - r * T) (y := .inr (picks T 65536)) (fun i hi => hstep i (by omega) (by omega)) (by
      show S_ref19_Suffix_6 n c (picks T (r * T + (65536 - r * T))) k ((65536 - r * T : Nat) : Int) = _
      unfold S_ref19_Suffix_6
      rw [picks_length, hTc, decide_eq_true (show ((65536 - r * T : Nat) : Int) < T by omega), show r * T + (65536 - r * T) = 65536 by omega]
      rfl)
    exact this

theorem ref19_suffix {c : Config} (h : CfgOK c) (n : Int) (hn : n < 4000000000) : F_ref19_Suffix c n = some (picks c.threads.toNat (min (n.toNat * c.threads.toNat) 65536)) := by
  have h1 := h.threads
  have key : ∀ (k r : Nat), r * c.threads.toNat ≤ 65536 → ((r + k : Nat) : Int) = n → W_ref19_Suffix_3 (n, c, picks c.threads.toNat (r * c.threads.toNat), (r : Int)) = some (.inl (picks c.threads.toNat (min ((r + k) * c.threads.toNat) 65536))) ∨
      W_ref19_Suffix_3 (n, c, picks c.threads.toNat (r * c.threads.toNat), (r : Int)) = some (.inr (picks c.threads.toNat (min ((r + k) * c.threads.toNat) 65536))) := by
    intro k
    induction k with
    | zero =>
      intro r hr hk
      unfold W_ref19_Suffix_3
      rw [whileM_eq]
      have e : T_ref19_Suffix_3 (n, c, picks c.threads.toNat (r * c.threads.toNat), (r : Int)) = some (.inr (.inl (picks c.threads.toNat (r * c.threads.toNat)))) := by
        show S_ref19_Suffix_3 n c (picks c.threads.toNat (r * c.threads.toNat)) (r : Int) = _
        unfold S_ref19_Suffix_3
        rw [decide_eq_false (by omega)]
        rfl
      rw [e, Nat.add_zero, Nat.min_eq_left hr]
      exact .inl rfl
    | succ k ih =>
      intro r hr hk
      unfold W_ref19_Suffix_3
      rw [whileM_eq]
      have e : T_ref19_Suffix_3 (n, c, picks c.threads.toNat (r * c.threads.toNat), (r : Int)) = S_ref19_Suffix_3 n c (picks c.threads.toNat (r * c.threads.toNat)) (r : Int) := rfl
      rw [e]
      unfold S_ref19_Suffix_3
      rw [decide_eq_true (show (r : Int) < n by omega), ref_round h n r hr]
      by_cases hle : (r + 1) * c.threads.toNat ≤ 65536
      · rw [if_pos hle]
        simp only [cond_true]
        rw [wrap_id (n := (r : Int) + 1) (by omega) (by omega), show (r : Int) + 1 = ((r + 1 : Nat) : Int) by omega]
        have := ih (r + 1) hle (by omega)
        unfold W_ref19_Suffix_3 at this
        rw [show r + 1 + k = r + (k + 1) by omega] at this
        exact this
      · rw [if_neg hle]
        simp only [cond_true]
        have : 65536 ≤ (r + (k + 1)) * c.threads.toNat := by
          have h5 : (r + 1) * c.threads.toNat ≤ (r + (k + 1)) * c.threads.toNat := Nat.mul_le_mul_right _ (by omega)
          omega
        rw [Nat.min_eq_right this]
        exact .inr rfl
  unfold F_ref19_Suffix
  by_cases hneg : n < 0
  · have e : W_ref19_Suffix_3 (n, c, [], 0) = some (.inl []) := by
      unfold W_ref19_Suffix_3
      rw [whileM_eq]
      have e : T_ref19_Suffix_3 (n, c, [], 0) = some (.inr (.inl [])) := by
        show S_ref19_Suffix_3 n c [] 0 = _
        unfold S_ref19_Suffix_3
        rw [decide_eq_false (by omega)]
        rfl
      rw [e]
    rw [e, show n.toNat = 0 by omega]
    simp [picks_zero]
  · have := key n.toNat 0 (by omega) (by omega)
    rw [Nat.zero_mul, picks_zero, Nat.zero_add] at this
    rcases this with h | h
    · rw [show (([], ((0 : Nat) : Int)) : List SEntry × Int) = ([], 0) from rfl] at h
      rw [h]
    · rw [show (([], ((0 : Nat) : Int)) : List SEntry × Int) = ([], 0) from rfl] at h
      rw [h]

theorem ref19_round {c : Config} (h : CfgOK c) : F_ref19_Round c = some (picks c.threads.toNat c.threads.toNat) := by
  have h1 := h.threads
  unfold F_ref19_Round
  simp only [C_ref19_Suffix, ref19_suffix h 1 (by omega)]
  rw [show (1 : Int).toNat = 1 from rfl, Nat.one_mul, Nat.min_eq_left (by omega)]

theorem getD_eta (e : SEntry) : (⟨e.kind, e.t, e.item, ⟨e.op.tag, e.op.v⟩⟩ : SEntry) = e := rfl

/-- Entries as the reference has them. -/
theorem law19_its {l : List SEntry} (h : l.length ≤ 4000000000) : F_law19_its l = some l := by
  have key : W_law19_its_3 (l, [], 0) = some l := by
    have := whileM_for (step := T_law19_its_3) (fun i => (l, l.take i, (i : Int))) l.length (y := l) (fun i hi => ?_) ?_
    · rw [List.take_zero] at this; exact this
    · show S_law19_its_3 l (l.take i) (i : Int) = some (.inl (l, l.take (i + 1), ((i + 1 : Nat) : Int)))
      unfold S_law19_its_3
      rw [decide_eq_true (show (i : Int) < l.length by omega), decide_eq_true (show (0 : Int) ≤ i by omega), few_true (by simp; omega), wrap_id (by omega) (by omega), Int.toNat_natCast, take_next l dSEntry i hi]
      rfl
    · show S_law19_its_3 l (l.take l.length) (l.length : Int) = _
      unfold S_law19_its_3
      rw [decide_eq_false (by omega), List.take_length]
      rfl
  unfold F_law19_its
  rw [key]

theorem ref09_same {l : List SEntry} (h : l.length ≤ 4000000000) : F_ref09_Same l l = some true := by
  have key : W_ref09_Same_4 (l, l, 0) = some (.inl ()) := by
    refine whileM_for (step := T_ref09_Same_4) (fun i => (l, l, (i : Int))) l.length (y := .inl ()) (fun i hi => ?_) ?_
    · show S_ref09_Same_4 l l (i : Int) = some (.inl (l, l, ((i + 1 : Nat) : Int)))
      unfold S_ref09_Same_4
      rw [decide_eq_true (show (i : Int) < l.length by omega), decide_eq_true (show (0 : Int) ≤ i by omega), wrap_id (by omega) (by omega)]
      simp
    · show S_ref09_Same_4 l l (l.length : Int) = _
      unfold S_ref09_Same_4
      rw [decide_eq_false (by omega)]
      rfl
  unfold F_ref09_Same
  simp only [bne_self_eq_false, cond_false, key]

/-! Whole rounds. -/

/-- How many picks in the order of the threads come next. -/
def runP (T : Nat) : List SEntry → Nat → Nat
  | [], n => n
  | e :: r, n => if e.kind ≠ 2 then runP T r n else if e.t ≠ ((n % T : Nat) : Int) then n else runP T r (n + 1)

/-- The place behind the last op that is invoked. -/
structure IsLast (l : List SEntry) (k : Nat) : Prop where
  le : k ≤ l.length
  at_ : k = 0 ∨ (l.getD (k - 1) dSEntry).kind = 1
  none : ∀ j, k ≤ j → j < l.length → (l.getD j dSEntry).kind ≠ 1

theorem isLast_ex : ∀ (l : List SEntry) (n : Nat), n ≤ l.length → (∀ j, n ≤ j → j < l.length → (l.getD j dSEntry).kind ≠ 1) → ∃ k, IsLast l k
  | l, 0, _, h => ⟨0, Nat.zero_le _, .inl rfl, h⟩
  | l, n + 1, hn, h => by
    by_cases hk : (l.getD n dSEntry).kind = 1
    · exact ⟨n + 1, hn, .inr hk, h⟩
    · refine isLast_ex l n (by omega) fun j h1 h2 => ?_
      by_cases e : j = n
      · rw [e]; exact hk
      · exact h j (by omega) h2

theorem isLast_some (l : List SEntry) : ∃ k, IsLast l k := isLast_ex l l.length (Nat.le_refl _) fun j h1 h2 => by omega

theorem fair_behind {l : List SEntry} {k : Nat} (hl : l.length ≤ 4000000000) (h : IsLast l k) : F_fair_behind l = some (l.drop k) := by
  obtain ⟨hle, hat, hnone⟩ := h
  have hstep : ∀ i, i < l.length - k → T_fair_behind_2 (l, (l.length : Int), (i : Int)) = some (.inl (l, (l.length : Int), ((i + 1 : Nat) : Int))) := by
    intro i hi
    show S_fair_behind_2 l (l.length : Int) (i : Int) = _
    unfold S_fair_behind_2
    rw [wrap_id (n := (l.length : Int) - i) (by omega) (by omega), wrap_id (n := (l.length : Int) - i - 1) (by omega) (by omega), decide_eq_true (show (i : Int) < l.length by omega), decide_eq_true (show (0 : Int) ≤ (l.length : Int) - i - 1 by omega), decide_eq_true (show (l.length : Int) - i - 1 < l.length by omega),
      show ((l.length : Int) - i - 1).toNat = l.length - i - 1 by omega, wrap_id (n := (i : Int) + 1) (by omega) (by omega)]
    have := hnone (l.length - i - 1) (by omega) (by omega)
    have hb : ((l.getD (l.length - i - 1) dSEntry).kind == (1 : Int)) = false := by rw [beq_eq_false_iff_ne]; exact this
    rw [hb]
    rfl
  have key : W_fair_behind_2 (l, (l.length : Int), 0) = if k = 0 then some (.inl l) else some (.inr (l.drop k)) := by
    by_cases hk : k = 0
    · rw [if_pos hk]
      refine whileM_for (step := T_fair_behind_2) (fun i => (l, (l.length : Int), (i : Int))) (l.length - k) (y := .inl l) hstep ?_
      show S_fair_behind_2 l (l.length : Int) ((l.length - k : Nat) : Int) = _
      unfold S_fair_behind_2
      rw [decide_eq_false (by omega)]
      rfl
    · rw [if_neg hk]
      refine whileM_for (step := T_fair_behind_2) (fun i => (l, (l.length : Int), (i : Int))) (l.length - k) (y := .inr (l.drop k)) hstep ?_
      show S_fair_behind_2 l (l.length : Int) ((l.length - k : Nat) : Int) = _
      unfold S_fair_behind_2
      have e1 : (l.length : Int) - ((l.length - k : Nat) : Int) = k := by omega
      rw [e1, wrap_id (n := (k : Int)) (by omega) (by omega), wrap_id (n := (k : Int) - 1) (by omega) (by omega), decide_eq_true (show ((l.length - k : Nat) : Int) < l.length by omega), decide_eq_true (show (0 : Int) ≤ (k : Int) - 1 by omega), decide_eq_true (show (k : Int) - 1 < l.length by omega),
        show ((k : Int) - 1).toNat = k - 1 by omega, decide_eq_true (show (0 : Int) ≤ (k : Int) by omega), decide_eq_true (show (k : Int) ≤ l.length by omega), decide_eq_true (show (l.length : Int) ≤ l.length by omega)]
      have hb : ((l.getD (k - 1) dSEntry).kind == (1 : Int)) = true := by rcases hat with h | h; exact (hk h).elim; rw [beq_iff_eq]; exact h
      rw [hb]
      simp
  unfold F_fair_behind
  rw [key]
  by_cases hk : k = 0
  · rw [if_pos hk, hk]; rfl
  · rw [if_neg hk]

theorem fair_loop {c : Config} (h : CfgOK c) {l : List SEntry} (hl : l.length ≤ 4000000000) : ∀ (m i n : Nat), i + m = l.length → n ≤ i → W_fair_Whole_3 (c, ((n / c.threads.toNat : Nat) : Int), ((n % c.threads.toNat : Nat) : Int), l, (l.length : Int), (i : Int)) = some ((runP c.threads.toNat (l.drop i) n / c.threads.toNat : Nat) : Int) := by
  have h1 := h.threads
  generalize hT : c.threads.toNat = T at *
  have hTc : c.threads = (T : Int) := by omega
  have hTp : 0 < T := by omega
  intro m
  induction m with
  | zero =>
    intro i n hi hn
    unfold W_fair_Whole_3
    rw [whileM_eq]
    have e : T_fair_Whole_3 (c, ((n / T : Nat) : Int), ((n % T : Nat) : Int), l, (l.length : Int), (i : Int)) = some (.inr ((n / T : Nat) : Int)) := by
      show S_fair_Whole_3 c ((n / T : Nat) : Int) ((n % T : Nat) : Int) l (l.length : Int) (i : Int) = _
      unfold S_fair_Whole_3
      rw [decide_eq_false (by omega)]
      rfl
    rw [e, List.drop_eq_nil_of_le (by omega)]
    rfl
  | succ m ih =>
    intro i n hi hn
    have hlt : i < l.length := by omega
    have hdr : l.drop i = l.getD i dSEntry :: l.drop (i + 1) := by
      rw [List.drop_eq_getElem_cons hlt, List.getD_eq_getElem?_getD, List.getElem?_eq_getElem hlt]; rfl
    unfold W_fair_Whole_3
    rw [whileM_eq]
    have e : T_fair_Whole_3 (c, ((n / T : Nat) : Int), ((n % T : Nat) : Int), l, (l.length : Int), (i : Int)) = S_fair_Whole_3 c ((n / T : Nat) : Int) ((n % T : Nat) : Int) l (l.length : Int) (i : Int) := rfl
    rw [e]
    unfold S_fair_Whole_3
    have hdiv : n / T ≤ n := Nat.div_le_self _ _
    have hd0 : (0 : Int) ≤ ((n / T : Nat) : Int) := Int.natCast_nonneg _
    have hmod : n % T < T := Nat.mod_lt _ hTp
    rw [decide_eq_true (show (i : Int) < l.length by omega), decide_eq_true (show (0 : Int) ≤ (i : Int) by omega), Int.toNat_natCast, wrap_id (n := (i : Int) + 1) (by omega) (by omega), wrap_id (n := ((n % T : Nat) : Int) + 1) (by omega) (by omega), wrap_id (n := ((n / T : Nat) : Int) + 1) (by omega) (by omega), hTc,
      show (i : Int) + 1 = ((i + 1 : Nat) : Int) by omega]
    simp only [cond_true]
    rw [hdr]
    show _ = some (((if (l.getD i dSEntry).kind ≠ 2 then runP T (l.drop (i + 1)) n else if (l.getD i dSEntry).t ≠ ((n % T : Nat) : Int) then n else runP T (l.drop (i + 1)) (n + 1)) / T : Nat) : Int)
    by_cases hk : (l.getD i dSEntry).kind = 2
    · have hb : ((l.getD i dSEntry).kind != (2 : Int)) = false := by rw [hk]; rfl
      rw [hb, if_neg (fun h => h hk)]
      simp only [cond_false]
      by_cases ht : (l.getD i dSEntry).t = ((n % T : Nat) : Int)
      · have hb2 : ((l.getD i dSEntry).t != ((n % T : Nat) : Int)) = false := by rw [ht]; simp
        rw [hb2, if_neg (fun h => h ht)]
        simp only [cond_false]
        by_cases hw : n % T + 1 = T
        · have hb3 : (((n % T : Nat) : Int) + 1 == (T : Int)) = true := by rw [beq_iff_eq]; omega
          rw [hb3]
          simp only [cond_true]
          have := ih (i + 1) (n + 1) (by omega) (by omega)
          have e1 : (n + 1) / T = n / T + 1 := by
            have := Nat.div_add_mod n T
            have h3 : n + 1 = T * (n / T + 1) := by rw [Nat.mul_add]; omega
            rw [h3, Nat.mul_div_cancel_left _ hTp]
          have e2 : (n + 1) % T = 0 := by
            have := Nat.div_add_mod n T
            have h3 : n + 1 = T * (n / T + 1) := by rw [Nat.mul_add]; omega
            rw [h3, Nat.mul_mod_right]
          rw [e1, e2] at this
          unfold W_fair_Whole_3 at this
          exact this
        · have hb3 : (((n % T : Nat) : Int) + 1 == (T : Int)) = false := by rw [beq_eq_false_iff_ne]; omega
          rw [hb3]
          simp only [cond_false]
          have := ih (i + 1) (n + 1) (by omega) (by omega)
          have h3 : n + 1 = T * (n / T) + (n % T + 1) := by have := Nat.div_add_mod n T; omega
          have e1 : (n + 1) / T = n / T := by
            rw [h3, Nat.mul_add_div hTp, Nat.div_eq_of_lt (show n % T + 1 < T by omega), Nat.add_zero]
          have e2 : (n + 1) % T = n % T + 1 := by
            rw [h3, Nat.mul_add_mod, Nat.mod_eq_of_lt (show n % T + 1 < T by omega)]
          rw [e1, e2] at this
          unfold W_fair_Whole_3 at this
          exact this
      · have hb2 : ((l.getD i dSEntry).t != ((n % T : Nat) : Int)) = true := by simpa using ht
        rw [hb2, if_pos ht]
        rfl
    · have hb : ((l.getD i dSEntry).kind != (2 : Int)) = true := by simpa using hk
      rw [hb, if_pos hk]
      simp only [cond_true]
      have := ih (i + 1) n (by omega) (by omega)
      unfold W_fair_Whole_3 at this
      exact this

/-- **How many whole rounds.** -/
theorem fair_whole {c : Config} (h : CfgOK c) {l : List SEntry} {k : Nat} (hl : l.length ≤ 4000000000) (hk : IsLast l k) : F_fair_Whole c l = some ((runP c.threads.toNat (l.drop k) 0 / c.threads.toNat : Nat) : Int) := by
  unfold F_fair_Whole
  simp only [C_fair_behind, fair_behind hl hk]
  have := fair_loop h (l := l.drop k) (by simp; omega) (l.drop k).length 0 0 (by omega) (by omega)
  rw [Nat.zero_div, Nat.zero_mod, List.drop_zero] at this
  rw [show (((0 : Nat) : Int)) = 0 from rfl] at this
  rw [this]

theorem ref_last {c : Config} {l : List SEntry} {k : Nat} (hl : l.length ≤ 4000000000) (h : IsLast l k) : W_ref19_Whole_3 (l, c, 0, 0) = some (l, c, (k : Int)) := by
  obtain ⟨hle, hat, hnone⟩ := h
  have step : ∀ (i : Nat) (f : Int), i < l.length → T_ref19_Whole_3 (l, c, f, (i : Int)) = some (.inl (l, c, if (l.getD i dSEntry).kind = 1 then ((i + 1 : Nat) : Int) else f, ((i + 1 : Nat) : Int))) := by
    intro i f hi
    show S_ref19_Whole_3 l c f (i : Int) = _
    unfold S_ref19_Whole_3
    rw [decide_eq_true (show (i : Int) < l.length by omega), decide_eq_true (show (0 : Int) ≤ (i : Int) by omega), Int.toNat_natCast, wrap_id (n := (i : Int) + 1) (by omega) (by omega), show (i : Int) + 1 = ((i + 1 : Nat) : Int) by omega]
    simp only [cond_true]
    by_cases hb : (l.getD i dSEntry).kind = 1
    · rw [if_pos hb, show ((l.getD i dSEntry).kind == (1 : Int)) = true by rw [beq_iff_eq]; exact hb]; rfl
    · rw [if_neg hb, show ((l.getD i dSEntry).kind == (1 : Int)) = false by rw [beq_eq_false_iff_ne]; exact hb]; rfl
  have key : ∀ (m i : Nat) (f : Int), i + m = l.length → (i < k ∨ f = k) → W_ref19_Whole_3 (l, c, f, (i : Int)) = some (l, c, (k : Int)) := by
    intro m
    induction m with
    | zero =>
      intro i f hi hf
      unfold W_ref19_Whole_3
      rw [whileM_eq]
      have e : T_ref19_Whole_3 (l, c, f, (i : Int)) = some (.inr (l, c, f)) := by
        show S_ref19_Whole_3 l c f (i : Int) = _
        unfold S_ref19_Whole_3
        rw [decide_eq_false (by omega)]
        rfl
      rw [e]
      rcases hf with hf | hf
      · omega
      · rw [hf]
    | succ m ih =>
      intro i f hi hf
      unfold W_ref19_Whole_3
      rw [whileM_eq, step i f (by omega)]
      refine ih (i + 1) _ (by omega) ?_
      by_cases hik : i + 1 < k
      · exact .inl hik
      · right
        by_cases e : i + 1 = k
        · have hb : (l.getD i dSEntry).kind = 1 := by
            rcases hat with h | h
            · omega
            · rw [← e] at h; simpa using h
          rw [if_pos hb, e]
        · rw [if_neg (hnone i (by omega) (by omega))]
          rcases hf with hf | hf
          · omega
          · exact hf
  have := key l.length 0 0 (by omega) (by
    by_cases hk : k = 0
    · right; rw [hk]; rfl
    · left; omega)
  exact this

theorem runP_ge (T : Nat) : ∀ (l : List SEntry) (n : Nat), n ≤ runP T l n ∧ runP T l n ≤ n + l.length
  | [], n => ⟨Nat.le_refl _, Nat.le_refl _⟩
  | e :: r, n => by
    unfold runP
    have h1 := runP_ge T r n
    have h2 := runP_ge T r (n + 1)
    simp only [List.length_cons]
    split
    · omega
    · split <;> omega

theorem ref_loop {c : Config} (h : CfgOK c) {l : List SEntry} (hl : l.length ≤ 4000000000) : ∀ (m i n : Nat), i + m = l.length → n ≤ i → W_ref19_Whole_9 (l, c, (n : Int), (i : Int)) = some (c, (runP c.threads.toNat (l.drop i) n : Int)) := by
  have h1 := h.threads
  generalize hT : c.threads.toNat = T at *
  have hTc : c.threads = (T : Int) := by omega
  have hTp : 0 < T := by omega
  intro m
  induction m with
  | zero =>
    intro i n hi hn
    unfold W_ref19_Whole_9
    rw [whileM_eq]
    have e : T_ref19_Whole_9 (l, c, (n : Int), (i : Int)) = some (.inr (c, (n : Int))) := by
      show S_ref19_Whole_9 l c (n : Int) (i : Int) = _
      unfold S_ref19_Whole_9
      rw [decide_eq_false (by omega)]
      rfl
    rw [e, List.drop_eq_nil_of_le (by omega)]
    rfl
  | succ m ih =>
    intro i n hi hn
    have hlt : i < l.length := by omega
    have hdr : l.drop i = l.getD i dSEntry :: l.drop (i + 1) := by
      rw [List.drop_eq_getElem_cons hlt, List.getD_eq_getElem?_getD, List.getElem?_eq_getElem hlt]; rfl
    unfold W_ref19_Whole_9
    rw [whileM_eq]
    have e : T_ref19_Whole_9 (l, c, (n : Int), (i : Int)) = S_ref19_Whole_9 l c (n : Int) (i : Int) := rfl
    rw [e]
    unfold S_ref19_Whole_9
    have htm : (n : Int).tmod (T : Int) = ((n % T : Nat) : Int) := by
      rw [Int.tmod_eq_emod_of_nonneg (by omega)]; rfl
    rw [decide_eq_true (show (i : Int) < l.length by omega), decide_eq_true (show (0 : Int) ≤ (i : Int) by omega), Int.toNat_natCast, wrap_id (n := (i : Int) + 1) (by omega) (by omega), wrap_id (n := (n : Int) + 1) (by omega) (by omega), hTc, decide_eq_false (show ¬ ((T : Int) = 0) by omega), htm,
      show (i : Int) + 1 = ((i + 1 : Nat) : Int) by omega, show (n : Int) + 1 = ((n + 1 : Nat) : Int) by omega]
    simp only [cond_true, cond_false]
    rw [hdr]
    show _ = some (c, ((if (l.getD i dSEntry).kind ≠ 2 then runP T (l.drop (i + 1)) n else if (l.getD i dSEntry).t ≠ ((n % T : Nat) : Int) then n else runP T (l.drop (i + 1)) (n + 1) : Nat) : Int))
    by_cases hk : (l.getD i dSEntry).kind = 2
    · have hb : ((l.getD i dSEntry).kind != (2 : Int)) = false := by rw [hk]; rfl
      rw [hb, if_neg (fun h => h hk)]
      simp only [cond_false]
      by_cases ht : (l.getD i dSEntry).t = ((n % T : Nat) : Int)
      · have hb2 : ((l.getD i dSEntry).t != ((n % T : Nat) : Int)) = false := by rw [ht]; simp
        rw [hb2, if_neg (fun h => h ht)]
        have := ih (i + 1) (n + 1) (by omega) (by omega)
        unfold W_ref19_Whole_9 at this
        exact this
      · have hb2 : ((l.getD i dSEntry).t != ((n % T : Nat) : Int)) = true := by simpa using ht
        rw [hb2, if_pos ht]
        rfl
    · have hb : ((l.getD i dSEntry).kind != (2 : Int)) = true := by simpa using hk
      rw [hb, if_pos hk]
      have := ih (i + 1) n (by omega) (by omega)
      unfold W_ref19_Whole_9 at this
      exact this

theorem ref19_whole {c : Config} (h : CfgOK c) {l : List SEntry} {k : Nat} (hl : l.length ≤ 4000000000) (hk : IsLast l k) : F_ref19_Whole c l = some ((runP c.threads.toNat (l.drop k) 0 / c.threads.toNat : Nat) : Int) := by
  have h1 := h.threads
  unfold F_ref19_Whole
  have := ref_loop h hl (l.length - k) k 0 (by have := hk.le; omega) (by omega)
  rw [show (((0 : Nat) : Int)) = 0 from rfl] at this
  simp only [ref_last hl hk, this]
  rw [decide_eq_false (show ¬ c.threads = 0 by omega)]
  simp only [cond_false]
  have hb := runP_ge c.threads.toNat (l.drop k) 0
  have hlen : (l.drop k).length ≤ l.length := by simp
  generalize runP c.threads.toNat (l.drop k) 0 = n at *
  have e : Int.tdiv (n : Int) c.threads = ((n / c.threads.toNat : Nat) : Int) := by
    have hTc : c.threads = ((c.threads.toNat : Nat) : Int) := by omega
    rw [hTc, Int.tdiv_eq_ediv_of_nonneg (by omega)]; rfl
  rw [e]
  have hd : n / c.threads.toNat ≤ n := Nat.div_le_self _ _
  have hd0 : (0 : Int) ≤ ((n / c.threads.toNat : Nat) : Int) := Int.natCast_nonneg _
  rw [wrap_id (by omega) (by omega)]

end Go.Proofs.Mill
