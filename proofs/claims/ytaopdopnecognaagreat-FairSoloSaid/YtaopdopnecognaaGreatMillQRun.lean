/- Which scripts are run, and how. -/
import Derived.Test.YtaopdopnecognaaGreatMillQWorld
namespace Go.Proofs.Mill
set_option linter.all false

/-- Which ops there are. -/
def opMay (op : Op) (b : Bool) : Bool := bif b then (op.tag == 8 || (op.tag == 9 && decide (op.v ≥ 0))) else (decide (1 ≤ op.tag) && decide (op.tag ≤ 7))

theorem oper_may (op : Op) (b : Bool) : F_oper_May op b = some (opMay op b) := by
  unfold F_oper_May opMay
  cases b with
  | true =>
    simp only [Bool.not_true, cond_false, cond_true]
    by_cases h : op.tag = 9
    · rw [beq_t h, cond_true, beq_f (show ¬ op.tag = 8 by omega)]; rfl
    · rw [beq_f h, cond_false]
      cases op.tag == 8 <;> rfl
  | false =>
    simp only [Bool.not_false, cond_false, cond_true, C_oper_Known, F_oper_Known, cond_dec]
    by_cases h1 : 1 ≤ op.tag
    · rw [if_pos h1, decide_eq_true h1]
      by_cases h2 : op.tag ≤ 9
      · rw [decide_eq_true h2]
        simp only [cond_true, Bool.true_and]
        congr 1
        by_cases h3 : op.tag ≤ 7
        · rw [decide_eq_true h3, decide_eq_true (by omega)]
        · rw [decide_eq_false h3, decide_eq_false (by omega)]
      · rw [decide_eq_false h2, decide_eq_false (show ¬ op.tag ≤ 7 by omega)]; rfl
    · rw [if_neg h1, decide_eq_false h1]; rfl

theorem ref01_may_eq (op : Op) (b : Bool) : F_ref01_May op b = some (opMay op b) := by
  unfold F_ref01_May opMay
  cases b with
  | true =>
    simp only [cond_true]
    by_cases h : op.tag = 8
    · rw [beq_t h]; rfl
    · rw [beq_f h, cond_false]
      by_cases h9 : op.tag = 9
      · rw [beq_t h9]; rfl
      · rw [beq_f h9]; rfl
  | false =>
    simp only [cond_false, cond_dec]
    by_cases h1 : op.tag ≥ 1
    · rw [if_pos h1, decide_eq_true h1]; rfl
    · rw [if_neg h1, decide_eq_false h1]; rfl

/-- What an entry is refused for; 0: nothing. -/
def checkE (c : Config) (e : SEntry) : Int :=
  if e.kind < 1 ∨ e.kind > 3 then 90
  else if e.kind = 3 then 0
  else if e.t < 0 ∨ e.t ≥ c.threads then 91
  else if e.kind = 2 then 0
  else if e.item < 0 ∨ e.item ≥ c.items then 92
  else if opMay e.op c.bounded = true then 0 else 93

theorem within_eq (x n : Int) : C_script_within (x, n) = some (decide (0 ≤ x ∧ x < n)) := by
  show F_script_within x n = _
  unfold F_script_within
  rw [cond_dec]
  by_cases h : 0 ≤ x
  · rw [if_pos h]; simp [h]
  · rw [if_neg h]; simp [h]

theorem script_check (c : Config) (e : SEntry) : F_script_Check c e = some (checkE c e) := by
  unfold F_script_Check checkE
  simp only [within_eq, C_oper_May, oper_may]
  by_cases k1 : e.kind = 1
  · rw [beq_t k1, beq_f (show ¬ e.kind = 2 by omega), if_neg (show ¬ (e.kind < 1 ∨ e.kind > 3) by omega), if_neg (show ¬ e.kind = 3 by omega), if_neg (show ¬ e.kind = 2 by omega)]
    simp only [cond_true, cond_false]
    by_cases ht : 0 ≤ e.t ∧ e.t < c.threads
    · rw [decide_eq_true ht, if_neg (show ¬ (e.t < 0 ∨ e.t ≥ c.threads) by omega)]
      simp only [Bool.not_true, cond_false]
      by_cases hi : 0 ≤ e.item ∧ e.item < c.items
      · rw [decide_eq_true hi, if_neg (show ¬ (e.item < 0 ∨ e.item ≥ c.items) by omega)]
        simp only [Bool.not_true, cond_false]
        cases opMay e.op c.bounded <;> rfl
      · rw [decide_eq_false hi, if_pos (show e.item < 0 ∨ e.item ≥ c.items by omega)]; rfl
    · rw [decide_eq_false ht, if_pos (show e.t < 0 ∨ e.t ≥ c.threads by omega)]; rfl
  · rw [beq_f k1]
    by_cases k2 : e.kind = 2
    · rw [beq_t k2, if_neg (show ¬ (e.kind < 1 ∨ e.kind > 3) by omega), if_neg (show ¬ e.kind = 3 by omega), if_pos k2]
      simp only [cond_true, cond_false]
      by_cases ht : 0 ≤ e.t ∧ e.t < c.threads
      · rw [decide_eq_true ht, if_neg (show ¬ (e.t < 0 ∨ e.t ≥ c.threads) by omega)]; rfl
      · rw [decide_eq_false ht, if_pos (show e.t < 0 ∨ e.t ≥ c.threads by omega)]; rfl
    · rw [beq_f k2]
      by_cases k3 : e.kind = 3
      · rw [beq_t k3, if_neg (show ¬ (e.kind < 1 ∨ e.kind > 3) by omega), if_pos k3]; rfl
      · rw [beq_f k3, if_pos (show e.kind < 1 ∨ e.kind > 3 by omega)]; rfl

/-- The first entry that is refused. -/
def badAt (c : Config) : Nat → List SEntry → Option (Int × Int)
  | _, [] => none
  | i, e :: l => if checkE c e = 0 then badAt c (i + 1) l else some ((i : Int), checkE c e)

theorem badAt_none {c : Config} : ∀ {l : List SEntry} {i : Nat}, (∀ e ∈ l, checkE c e = 0) → badAt c i l = none
  | [], _, _ => rfl
  | e :: l, i, h => by
    unfold badAt
    rw [if_pos (h e (List.mem_cons_self ..))]
    exact badAt_none fun x hx => h x (List.mem_cons_of_mem _ hx)
theorem badAt_all {c : Config} : ∀ {l : List SEntry} {i : Nat}, badAt c i l = none → ∀ e ∈ l, checkE c e = 0
  | [], _, _ => fun _ h => by cases h
  | e :: l, i, h => by
    unfold badAt at h
    by_cases h0 : checkE c e = 0
    · rw [if_pos h0] at h
      intro x hx
      rcases List.mem_cons.1 hx with rfl | hx
      · exact h0
      · exact badAt_all h x hx
    · rw [if_neg h0] at h; cases h

theorem all_loop {c : Config} {l : List SEntry} (hl : l.length ≤ 4294967296) : ∀ (k i : Nat), i + k = l.length → W_script_All_7 (c, l, (l.length : Int), (i : Int)) = some (match badAt c i (l.drop i) with | none => .inl () | some y => .inr y)
  | 0, i, hk => by
    rw [List.drop_of_length_le (by omega)]
    refine whileM_some.2 (.done _ _ ?_)
    show S_script_All_7 _ _ _ _ = _
    unfold S_script_All_7
    simp only [cond_dec]
    rw [if_neg (by omega)]
    rfl
  | k + 1, i, hk => by
    have hi : i < l.length := by omega
    rw [List.drop_eq_getElem_cons hi]
    have e : l.getD i dSEntry = l[i] := by rw [List.getD_eq_getElem?_getD, List.getElem?_eq_getElem hi]; rfl
    unfold badAt
    have hs : T_script_All_7 (c, l, (l.length : Int), (i : Int)) = if checkE c l[i] = 0 then some (.inl (c, l, (l.length : Int), ((i + 1 : Nat) : Int))) else some (.inr (.inr ((i : Int), checkE c l[i]))) := by
      show S_script_All_7 _ _ _ _ = _
      unfold S_script_All_7
      simp only [cond_dec, C_script_Check, script_check, Int.toNat_natCast, e]
      rw [if_pos (show (i : Int) < (l.length : Int) by omega), if_pos (show (0 : Int) ≤ (i : Int) by omega), if_pos (show (i : Int) < (l.length : Int) by omega)]
      by_cases h0 : checkE c l[i] = 0
      · rw [if_pos h0, bne_f h0, wrap_id (by omega) (by omega)]; rfl
      · rw [if_neg h0, bne_t h0]; rfl
    by_cases h0 : checkE c l[i] = 0
    · rw [if_pos h0] at hs ⊢
      exact whileM_some.2 (.more _ _ _ hs (whileM_some.1 (all_loop hl k (i + 1) (by omega))))
    · rw [if_neg h0] at hs ⊢
      exact whileM_some.2 (.done _ _ hs)

/-- What a script is refused for. -/
noncomputable def allE (c : Config) (l : List SEntry) : Int × Int :=
  if (F_ref05_Check c).getD 0 ≠ 0 then (0, (F_ref05_Check c).getD 0) else if l.length > 65536 then (0, 2) else (badAt c 0 l).getD (0, 0)

theorem script_all (c : Config) (l : List SEntry) : F_script_All c l = some (allE c l) := by
  obtain ⟨e, he, hE⟩ := check_some c
  unfold F_script_All allE
  simp only [C_config_Check, config_check, he, Option.getD_some, cond_dec]
  by_cases h0 : e = 0
  · rw [bne_f h0, cond_false, if_neg (show ¬ e ≠ 0 from fun h => h h0)]
    by_cases h1 : l.length > 65536
    · rw [if_pos h1, if_pos (show (l.length : Int) > 65536 by omega)]
    · rw [if_neg h1, if_neg (show ¬ (l.length : Int) > 65536 by omega)]
      have := all_loop (c := c) (l := l) (by omega) l.length 0 (by omega)
      rw [List.drop_zero] at this
      rw [show W_script_All_7 (c, l, (l.length : Int), 0) = _ from this]
      cases badAt c 0 l <;> rfl
  · rw [bne_t h0, cond_true, if_pos h0]

theorem allE_ok {c : Config} (h : CfgOK c) {l : List SEntry} (hl : l.length ≤ 65536) (ho : ∀ e ∈ l, checkE c e = 0) : allE c l = (0, 0) := by
  obtain ⟨e, he, hE⟩ := check_some c
  have he0 := hE.2 h
  subst he0
  unfold allE
  rw [he, Option.getD_some, if_neg (fun h => h rfl), if_neg (by omega), badAt_none ho]
  rfl

/-- **A run.** -/
theorem world_run {c : Config} (h : CfgOK c) {l : List SEntry} {d : List Int} {w : Wld} (hl : l.length ≤ 65536) (ho : ∀ e ∈ l, checkE c e = 0) (hd : d.length ≤ 4294967296) (hw : entriesM (newW c d) l = some w) : F_world_Run c l d = some (w, 0, 0) := by
  unfold F_world_Run
  have e1 : C_script_All (c, l) = some (0, 0) := (script_all c l).trans (by rw [allE_ok h hl ho])
  have e2 : C_world_New (c, d) = some (newW c d, 0) := world_new h hd
  rw [e1]
  simp only [bne_self_eq_false, cond_false, e2]
  have e3 := run_loop (l := l) (by omega) l.length 0 (newW c d) w h (by omega) (by rw [List.drop_zero]; exact hw)
    (w0 := Wld.mk (Config.mk (0 : Int) (0 : Int) (0 : Int) (0 : Int) (0 : Int) (0 : Int) (0 : Int) (0 : Int) false (0 : Int) (0 : Int) (0 : Int)) (Memo.mk ([] : List Int) ([] : List (List Entry))) ([] : List Thread) (0 : Int) (0 : Int) (Tape.mk ([] : List Int) (0 : Int)) ([] : List Mark) ([] : List Event)) (x := 0)
  rw [show W_world_Run_6 (_, newW c d, 0, l, (l.length : Int), 0) = _ from e3]

/-! ### Who is busy -/
def busyN (l : List Thread) : Nat := (l.filter fun t => t.phase != 0).length
theorem busy_loop {l : List Thread} (hl : l.length ≤ 4294967296) : ∀ (k i : Nat) (n : Nat), i + k = l.length → n ≤ i → W_world_Busy_2 ((n : Int), l, (l.length : Int), (i : Int)) = some ((n + busyN (l.drop i) : Nat) : Int)
  | 0, i, n, hk, hn => by
    rw [List.drop_of_length_le (by omega)]
    refine whileM_some.2 (.done _ _ ?_)
    show S_world_Busy_2 _ _ _ _ = _
    unfold S_world_Busy_2
    simp only [cond_dec]
    rw [if_neg (by omega)]
    rfl
  | k + 1, i, n, hk, hn => by
    have hi : i < l.length := by omega
    rw [List.drop_eq_getElem_cons hi]
    have e : l.getD i dThread = l[i] := by rw [List.getD_eq_getElem?_getD, List.getElem?_eq_getElem hi]; rfl
    unfold busyN
    rw [List.filter_cons]
    have hs : T_world_Busy_2 ((n : Int), l, (l.length : Int), (i : Int)) = some (.inl ((((if l[i].phase != 0 then n + 1 else n) : Nat) : Int), l, (l.length : Int), ((i + 1 : Nat) : Int))) := by
      show S_world_Busy_2 _ _ _ _ = _
      unfold S_world_Busy_2
      simp only [cond_dec, C_thread_Busy, F_thread_Busy, Int.toNat_natCast, e]
      rw [if_pos (show (i : Int) < (l.length : Int) by omega), if_pos (show (0 : Int) ≤ (i : Int) by omega), if_pos (show (i : Int) < (l.length : Int) by omega), wrap_id (n := (i : Int) + 1) (by omega) (by omega), wrap_id (n := (n : Int) + 1) (by omega) (by omega)]
      cases l[i].phase != 0 <;> rfl
    have := busy_loop hl k (i + 1) (if l[i].phase != 0 then n + 1 else n) (by omega) (by split <;> omega)
    refine whileM_some.2 (.more _ _ _ hs ?_)
    have h2 := whileM_some.1 this
    unfold busyN at h2
    cases hb : (l[i].phase != 0) with
    | true =>
      rw [hb] at h2
      simp only [if_true] at h2 ⊢
      rw [List.length_cons, show n + ((l.drop (i + 1)).filter (fun t => t.phase != 0)).length.succ = n + 1 + ((l.drop (i + 1)).filter (fun t => t.phase != 0)).length by omega]
      exact h2
    | false =>
      rw [hb] at h2
      exact h2
theorem world_busy {w : Wld} (hl : w.t.length ≤ 4294967296) : F_world_Busy w = some (busyN w.t : Int) := by
  unfold F_world_Busy
  have := busy_loop hl w.t.length 0 0 (by omega) (Nat.le_refl _)
  rw [List.drop_zero, Nat.zero_add] at this
  rw [show W_world_Busy_2 (0, w.t, (w.t.length : Int), 0) = _ from this]
theorem busy_none {l : List Thread} (h : ∀ t ∈ l, t.phase = 0) : busyN l = 0 := by
  unfold busyN
  rw [List.length_eq_zero_iff, List.filter_eq_nil_iff]
  intro t ht
  rw [h t ht]
  decide
end Go.Proofs.Mill
