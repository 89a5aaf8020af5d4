/- A thread that gathers: what its step makes of a turn. -/
import Derived.Test.YtaopdopnecognaaGreatMillQMachine
set_option linter.all false
namespace Go.Proofs.Mill

theorem beq_n {a b : Nat} (h : a ≠ b) : (a == b) = false := by simpa using h

theorem max_few {n : Int} (h : n ≤ 4294967296) : n ≤ maxElems := by unfold maxElems; exact h

theorem grow_kid {n : Int} (h0 : 0 ≤ n) (h1 : n ≤ 4294967296) : F_slices_Grow_thread_Kid () n = some [] := by
  have e : wrapA IntKind.i64 (n - wrapA IntKind.i64 (0 - 0)) = n := by
    rw [wrap_id (n := 0 - 0) (by omega) (by omega), wrap_id (by omega) (by omega)]; omega
  simp only [F_slices_Grow_thread_Kid, cond_dec, e]
  rw [if_neg (by omega), if_pos h0, if_pos (max_few h1)]
  split <;> rfl
theorem grow_entry {n : Int} (h0 : 0 ≤ n) (h1 : n ≤ 4294967296) : F_slices_Grow_batch_Entry () n = some [] := by
  have e : wrapA IntKind.i64 (n - wrapA IntKind.i64 (0 - 0)) = n := by
    rw [wrap_id (n := 0 - 0) (by omega) (by omega), wrap_id (by omega) (by omega)]; omega
  simp only [F_slices_Grow_batch_Entry, cond_dec, e]
  rw [if_neg (by omega), if_pos h0, if_pos (max_few h1)]
  split <;> rfl

theorem concat_kid {a b : List Kid} (h : a.length + b.length ≤ 4294967296) : F_slices_Concat_thread_Kid (a :: b :: []) = some (a ++ b) := by
  have h3 : W_slices_Concat_thread_Kid_3 (a :: b :: [], 0, a :: b :: [], 2, 0) = some (a :: b :: [], (a.length : Int) + b.length) := by
    unfold W_slices_Concat_thread_Kid_3
    rw [whileM_eq]
    simp only [T_slices_Concat_thread_Kid_3, S_slices_Concat_thread_Kid_3, cond_dec, List.length_cons, List.length_nil]
    rw [if_pos (by omega), if_pos (by omega), if_pos (by omega), show ((0 : Int).toNat) = 0 from rfl, List.getD_cons_zero, wrap_id (n := 0 + (a.length : Int)) (by omega) (by omega), if_neg (by omega), wrap_id (n := 0 + 1) (by omega) (by omega)]
    simp only
    rw [whileM_eq]
    simp only [T_slices_Concat_thread_Kid_3, S_slices_Concat_thread_Kid_3, cond_dec, List.length_cons, List.length_nil]
    rw [if_pos (by omega), if_pos (by omega), if_pos (by omega), show ((0 + 1 : Int).toNat) = 1 from rfl, List.getD_cons_succ, List.getD_cons_zero, wrap_id (n := 0 + (a.length : Int) + (b.length : Int)) (by omega) (by omega), if_neg (by omega), wrap_id (n := 0 + 1 + 1) (by omega) (by omega)]
    simp only
    rw [whileM_eq]
    simp only [T_slices_Concat_thread_Kid_3, S_slices_Concat_thread_Kid_3, cond_dec, List.length_cons, List.length_nil]
    rw [if_neg (by omega), Int.zero_add]
  have h11 : W_slices_Concat_thread_Kid_11 ([], a :: b :: [], 2, 0) = some (a ++ b) := by
    unfold W_slices_Concat_thread_Kid_11
    rw [whileM_eq]
    simp only [T_slices_Concat_thread_Kid_11, S_slices_Concat_thread_Kid_11, cond_dec, List.length_cons, List.length_nil]
    rw [if_pos (by omega), if_pos (by omega), if_pos (by omega), show ((0 : Int).toNat) = 0 from rfl, List.getD_cons_zero, few_true (by omega), wrap_id (n := 0 + 1) (by omega) (by omega)]
    simp only [cond_true, List.nil_append]
    rw [whileM_eq]
    simp only [T_slices_Concat_thread_Kid_11, S_slices_Concat_thread_Kid_11, cond_dec, List.length_cons, List.length_nil]
    rw [if_pos (by omega), if_pos (by omega), if_pos (by omega), show ((0 + 1 : Int).toNat) = 1 from rfl, List.getD_cons_succ, List.getD_cons_zero, few_true (by omega), wrap_id (n := 0 + 1 + 1) (by omega) (by omega)]
    simp only [cond_true]
    rw [whileM_eq]
    simp only [T_slices_Concat_thread_Kid_11, S_slices_Concat_thread_Kid_11, cond_dec, List.length_cons, List.length_nil]
    rw [if_neg (by omega)]
  have e2 : (((a :: b :: ([] : List (List Kid))).length : Nat) : Int) = 2 := rfl
  simp only [F_slices_Concat_thread_Kid, e2, h3, C_slices_Grow_thread_Kid, grow_kid (n := (a.length : Int) + b.length) (by omega) (by omega), h11]

theorem concat_entry {a b : List Entry} (h : a.length + b.length ≤ 4294967296) : F_slices_Concat_batch_Entry (a :: b :: []) = some (a ++ b) := by
  have h3 : W_slices_Concat_batch_Entry_3 (a :: b :: [], 0, a :: b :: [], 2, 0) = some (a :: b :: [], (a.length : Int) + b.length) := by
    unfold W_slices_Concat_batch_Entry_3
    rw [whileM_eq]
    simp only [T_slices_Concat_batch_Entry_3, S_slices_Concat_batch_Entry_3, cond_dec, List.length_cons, List.length_nil]
    rw [if_pos (by omega), if_pos (by omega), if_pos (by omega), show ((0 : Int).toNat) = 0 from rfl, List.getD_cons_zero, wrap_id (n := 0 + (a.length : Int)) (by omega) (by omega), if_neg (by omega), wrap_id (n := 0 + 1) (by omega) (by omega)]
    simp only
    rw [whileM_eq]
    simp only [T_slices_Concat_batch_Entry_3, S_slices_Concat_batch_Entry_3, cond_dec, List.length_cons, List.length_nil]
    rw [if_pos (by omega), if_pos (by omega), if_pos (by omega), show ((0 + 1 : Int).toNat) = 1 from rfl, List.getD_cons_succ, List.getD_cons_zero, wrap_id (n := 0 + (a.length : Int) + (b.length : Int)) (by omega) (by omega), if_neg (by omega), wrap_id (n := 0 + 1 + 1) (by omega) (by omega)]
    simp only
    rw [whileM_eq]
    simp only [T_slices_Concat_batch_Entry_3, S_slices_Concat_batch_Entry_3, cond_dec, List.length_cons, List.length_nil]
    rw [if_neg (by omega), Int.zero_add]
  have h11 : W_slices_Concat_batch_Entry_11 ([], a :: b :: [], 2, 0) = some (a ++ b) := by
    unfold W_slices_Concat_batch_Entry_11
    rw [whileM_eq]
    simp only [T_slices_Concat_batch_Entry_11, S_slices_Concat_batch_Entry_11, cond_dec, List.length_cons, List.length_nil]
    rw [if_pos (by omega), if_pos (by omega), if_pos (by omega), show ((0 : Int).toNat) = 0 from rfl, List.getD_cons_zero, few_true (by omega), wrap_id (n := 0 + 1) (by omega) (by omega)]
    simp only [cond_true, List.nil_append]
    rw [whileM_eq]
    simp only [T_slices_Concat_batch_Entry_11, S_slices_Concat_batch_Entry_11, cond_dec, List.length_cons, List.length_nil]
    rw [if_pos (by omega), if_pos (by omega), if_pos (by omega), show ((0 + 1 : Int).toNat) = 1 from rfl, List.getD_cons_succ, List.getD_cons_zero, few_true (by omega), wrap_id (n := 0 + 1 + 1) (by omega) (by omega)]
    simp only [cond_true]
    rw [whileM_eq]
    simp only [T_slices_Concat_batch_Entry_11, S_slices_Concat_batch_Entry_11, cond_dec, List.length_cons, List.length_nil]
    rw [if_neg (by omega)]
  have e2 : (((a :: b :: ([] : List (List Entry))).length : Nat) : Int) = 2 := rfl
  simp only [F_slices_Concat_batch_Entry, e2, h3, C_slices_Grow_batch_Entry, grow_entry (n := (a.length : Int) + b.length) (by omega) (by omega), h11]

/-- A batch that is taken. -/
def takeT (u : Turn) (who : Int) (b : List Entry) : Turn := { u with th := { u.th with batch := u.th.batch ++ b, kids := u.th.kids ++ [⟨who, u.th.batch.length⟩] } }

theorem gather_take {u : Turn} {who : Int} {b : List Entry} (h1 : u.th.batch.length + b.length ≤ 4294967296) (h2 : u.th.kids.length + 1 ≤ 4294967296) : F_gather_Take u who b = some (takeT u who b) := by
  simp only [F_gather_Take, C_slices_Concat_thread_Kid, concat_kid (a := u.th.kids) (b := [⟨who, u.th.batch.length⟩]) (by simpa using h2), C_batch_Join, F_batch_Join, C_slices_Concat_batch_Entry, concat_entry h1]
  rfl
theorem who3 {w : Int} (h : Num w) (hk : kindOf w = 3) : F_code_Who w = some (w / 8 - 1) := by
  have hb : 1 ≤ w % 8 ∧ w % 8 ≤ 3 ∧ 0 ≤ w / 8 - 1 ∧ w / 8 - 1 < 16 := by
    unfold kindOf at hk
    split at hk
    · omega
    split at hk
    · omega
    split at hk
    · assumption
    · split at hk <;> omega
  have hs : saidOf w = ⟨w % 8, w / 8 - 1⟩ := by
    unfold saidOf
    rw [if_neg (by omega), if_pos hb]
  simp only [F_code_Who, C_code_of, code_of h.1 h.2, hs, cond_dec]
  rw [if_pos (by omega), if_pos (by omega)]

/-- The place of the held node; -1: there is none. -/
def heldAt (u : Turn) : Int := if u.th.at_ < 0 ∨ u.th.at_ ≥ (u.th.held.length : Int) then -1 else nodeAt u.c u.th.item (u.th.held.getD u.th.at_.toNat 0)

theorem gather_held {u : Turn} (h : CfgOK u.c) : F_gather_held u = some (heldAt u) := by
  simp only [F_gather_held, cond_dec, C_arena_Node, arena_node h, heldAt]
  by_cases h1 : u.th.at_ < 0
  · rw [if_pos h1, if_pos (.inl h1)]
  by_cases h2 : u.th.at_ ≥ (u.th.held.length : Int)
  · rw [if_neg h1, if_pos h2, if_pos (.inr h2)]
  rw [if_neg h1, if_neg h2, if_pos (by omega), if_pos (by omega), if_neg (by omega)]
/-- The next held node, or down. -/
def nextT (u : Turn) : Turn := downT { u with th := { u.th with at_ := wrapA IntKind.i64 (u.th.at_ + 1) } }
theorem gather_next (u : Turn) : F_gather_next u = some (nextT u) := by simp only [F_gather_next, C_climb_Down, climb_down, nextT]
/-- A turn whose word at a place is another one. -/
abbrev setW (u : Turn) (a w : Int) : Turn := { u with m := { u.m with words := u.m.words.set a.toNat w } }

/-- A step of a thread that gathers. -/
def gatherT (u : Turn) : Turn × Bool :=
  if u.th.phase = 7 then (if heldAt u = -1 then u else if wordAt u (heldAt u) = 8 * (u.t + 1) + 1 then { u with th := { u.th with phase := 8 } }
    else if kindOf (wordAt u (heldAt u)) = 3 then { u with th := { u.th with phase := 9, who := wordAt u (heldAt u) / 8 - 1 } } else u, true)
  else if u.th.phase = 8 then (if heldAt u = -1 then u else if wordAt u (heldAt u) = 8 * (u.t + 1) + 1 then nextT (setW u (heldAt u) 0) else { u with th := { u.th with phase := 7 } }, true)
  else if u.th.phase = 9 then (if u.th.who < 0 ∨ u.th.who ≥ (u.m.boxes.length : Int) then u
    else { takeT u u.th.who (u.m.boxes.getD u.th.who.toNat []) with th := { (takeT u u.th.who (u.m.boxes.getD u.th.who.toNat [])).th with phase := 10 } }, true)
  else if u.th.phase = 10 then (if heldAt u = -1 then u else nextT (setW u (heldAt u) 0), true)
  else if u.th.phase = 11 then ({ u with m := { u.m with boxes := u.m.boxes.set u.t.toNat u.th.batch }, th := { u.th with phase := 12 } }, true)
  else if u.th.phase = 12 then (if nodeAt u.c u.th.item u.th.stop = -1 then u else { setW u (nodeAt u.c u.th.item u.th.stop) (8 * (u.t + 1) + 3) with th := { u.th with phase := 13 } }, true)
  else (u, false)

/-- What a step asks of a turn. -/
structure FitG (u : Turn) : Prop where
  cfg : CfgOK u.c
  t : 0 ≤ u.t ∧ u.t < u.c.threads
  words : (u.m.words.length : Int) = sizeOf u.c
  boxes : (u.m.boxes.length : Int) = u.c.threads
  nums : ∀ n ∈ u.m.words, Num n
  batch : u.th.batch.length ≤ 1000000
  kids : u.th.kids.length ≤ 1000000
  box : ∀ b ∈ u.m.boxes, b.length ≤ 1000000

theorem FitG.node {u : Turn} (h : FitG u) {i n : Int} (h0 : nodeAt u.c i n ≠ -1) : 0 ≤ nodeAt u.c i n ∧ nodeAt u.c i n < (u.m.words.length : Int) := by
  obtain ⟨h1, h2, _⟩ := nodeAt_bounds h.cfg _ _ h0
  have h3 := h.words
  have h4 := h.cfg.threads
  unfold sizeOf at h3
  omega

theorem FitG.held {u : Turn} (h : FitG u) (h0 : heldAt u ≠ -1) : 0 ≤ heldAt u ∧ heldAt u < (u.m.words.length : Int) := by
  unfold heldAt at h0 ⊢
  split at h0
  · exact (h0 rfl).elim
  · rename_i hc
    rw [if_neg hc]
    exact h.node h0

theorem FitG.len {u : Turn} (h : FitG u) : u.m.words.length ≤ 192 := by
  have h1 := lines_bounds h.cfg
  have h2 := h.cfg.threads
  have h3 := h.words
  unfold sizeOf at h3
  omega

theorem FitG.word {u : Turn} (h : FitG u) {a : Int} (h1 : 0 ≤ a) (h2 : a < (u.m.words.length : Int)) : Num (wordAt u a) := by
  have hlt : a.toNat < u.m.words.length := by omega
  show Num (u.m.words.getD _ _)
  rw [List.getD_eq_getElem?_getD, List.getElem?_eq_getElem hlt, Option.getD_some]
  exact h.nums _ (List.getElem_mem hlt)

theorem FitG.boxLen {u : Turn} (h : FitG u) (i : Nat) : (u.m.boxes.getD i ([] : List Entry)).length ≤ 1000000 := by
  rw [List.getD_eq_getElem?_getD]
  cases hb : u.m.boxes[i]? with
  | none => simp
  | some b => exact h.box b (List.mem_of_getElem? hb)

theorem clone_entry {l : List Entry} (h : l.length ≤ 4294967296) : F_slices_Clone_batch_Entry l = some l := by
  simp only [F_slices_Clone_batch_Entry, Nat.zero_add, few_true h, cond_true]
theorem clone_boxes {l : List (List Entry)} (h : l.length ≤ 4294967296) : F_slices_Clone_lbatch_Entry l = some l := by
  simp only [F_slices_Clone_lbatch_Entry, Nat.zero_add, few_true h, cond_true]

theorem wmem_store_in {m : Memo} {a v : Int} (h0 : 0 ≤ a) (h1 : a < (m.words.length : Int)) (hl : m.words.length ≤ 4294967296) :
    F_wmem_Store m a v = some ({ m with words := m.words.set a.toNat v }, 0) := by
  simp only [F_wmem_Store, C_wmem_at_int, wmem_at_in h0 h1, bne_self_eq_false, cond_false, C_slices_Clone_int, clone_int hl, cond_dec, if_pos h0, if_pos h1]
theorem wmem_store_out {m : Memo} {a v : Int} (h : a < 0 ∨ a ≥ (m.words.length : Int)) : F_wmem_Store m a v = some (m, 30) := by
  simp only [F_wmem_Store, C_wmem_at_int, wmem_at_out h]
  rfl
theorem wmem_box_in {m : Memo} {a : Int} (h0 : 0 ≤ a) (h1 : a < (m.boxes.length : Int)) (hl : (m.boxes.getD a.toNat ([] : List Entry)).length ≤ 4294967296) :
    F_wmem_Box m a = some (m.boxes.getD a.toNat [], 0) := by
  simp only [F_wmem_Box, C_wmem_at_lbatch_Entry, F_wmem_at_lbatch_Entry, cond_dec]
  rw [if_neg (by omega), if_neg (by omega), if_pos h0, if_pos h1]
  simp only [C_slices_Clone_batch_Entry, clone_entry hl]
theorem wmem_box_out {m : Memo} {a : Int} (h : a < 0 ∨ a ≥ (m.boxes.length : Int)) : F_wmem_Box m a = some ([], 30) := by
  have e : F_wmem_at_lbatch_Entry m.boxes a = some ([], 30) := by
    simp only [F_wmem_at_lbatch_Entry, cond_dec]
    rcases h with h | h
    · rw [if_pos h]
    · by_cases h1 : a < 0
      · rw [if_pos h1]
      · rw [if_neg h1, if_pos h]
  simp only [F_wmem_Box, C_wmem_at_lbatch_Entry, e, C_slices_Clone_batch_Entry, clone_entry (l := []) (by simp)]
theorem wmem_put_in {m : Memo} {a : Int} {b : List Entry} (h0 : 0 ≤ a) (h1 : a < (m.boxes.length : Int)) (hl : m.boxes.length ≤ 4294967296) (hb : b.length ≤ 4294967296) :
    F_wmem_Put m a b = some ({ m with boxes := m.boxes.set a.toNat b }, 0) := by
  have e : F_wmem_at_lbatch_Entry m.boxes a = some (m.boxes.getD a.toNat [], 0) := by
    simp only [F_wmem_at_lbatch_Entry, cond_dec]
    rw [if_neg (by omega), if_neg (by omega), if_pos h0, if_pos h1]
  simp only [F_wmem_Put, C_wmem_at_lbatch_Entry, e, bne_self_eq_false, cond_false, C_slices_Clone_lbatch_Entry, clone_boxes hl, C_slices_Clone_batch_Entry, clone_entry hb, cond_dec, if_pos h0, if_pos h1]
theorem code_deposited {t : Int} (h0 : -1 ≤ t) (h1 : t ≤ 1000) : F_code_Deposited t = some (8 * (t + 1) + 3) := by
  simp only [F_code_Deposited, C_code_said_word, F_code_said_word]
  rw [wrap_id (n := t + 1) (by omega) (by omega), wrap_id (n := 8 * (t + 1)) (by omega) (by omega), wrap_id (by omega) (by omega)]

/-- The program's step. -/
theorem gather_step {u : Turn} (h : FitG u) : F_gather_Step u = some (gatherT u) := by
  have ht := h.cfg.threads
  have h1 := h.t
  have hl := h.len
  have hb := h.boxes
  have hbt := h.batch
  have hkd := h.kids
  simp only [F_gather_Step, C_gather_look, F_gather_look, C_gather_shut, F_gather_shut, C_gather_collect, F_gather_collect, C_gather_free, F_gather_free, C_gather_publish, F_gather_publish, C_gather_deposit, F_gather_deposit,
    C_gather_held, gather_held h.cfg, C_code_First, code_first (t := u.t) (by omega) (by omega), C_code_Deposited, code_deposited (t := u.t) (by omega) (by omega), C_arena_Node, arena_node h.cfg, C_wmem_Load, F_wmem_Load, C_wmem_at_int, C_wmem_Cas, C_wmem_Store, C_wmem_Box, C_wmem_Put, C_gather_next, gather_next]
  unfold gatherT
  by_cases p7 : u.th.phase = 7
  · rw [beq_t p7, cond_true, if_pos p7]
    by_cases hn : heldAt u = -1
    · rw [wmem_at_out (.inl (by omega)), if_pos hn]
      rfl
    · obtain ⟨n0, n1⟩ := h.held hn
      rw [wmem_at_in n0 n1, if_neg hn]
      simp only [bne_self_eq_false, cond_false]
      by_cases e : wordAt u (heldAt u) = 8 * (u.t + 1) + 1
      · rw [beq_t e, if_pos e]; rfl
      · rw [beq_f e, if_neg e]
        simp only [cond_false, C_code_Kind, code_kind (h.word n0 n1).1 (h.word n0 n1).2]
        by_cases k : kindOf (wordAt u (heldAt u)) = 3
        · rw [beq_t k, if_pos k]
          simp only [cond_true, C_code_Who, who3 (h.word n0 n1) k]
        · rw [beq_f k, if_neg k]; rfl
  rw [beq_f p7, cond_false, if_neg p7]
  by_cases p8 : u.th.phase = 8
  · rw [beq_t p8, cond_true, if_pos p8]
    by_cases hn : heldAt u = -1
    · rw [wmem_cas_out (.inl (by omega)), if_pos hn]
      rfl
    · obtain ⟨n0, n1⟩ := h.held hn
      rw [wmem_cas_in n0 n1 (by omega), if_neg hn]
      simp only [bne_self_eq_false, cond_false]
      by_cases e : wordAt u (heldAt u) = 8 * (u.t + 1) + 1
      · rw [decide_eq_true e, if_pos e, if_pos e]; rfl
      · rw [decide_eq_false e, if_neg e, if_neg e]; rfl
  rw [beq_f p8, cond_false, if_neg p8]
  by_cases p9 : u.th.phase = 9
  · rw [beq_t p9, cond_true, if_pos p9]
    by_cases hn : u.th.who < 0 ∨ u.th.who ≥ (u.m.boxes.length : Int)
    · rw [wmem_box_out hn, if_pos hn]
      rfl
    · have hbl := h.boxLen u.th.who.toNat
      rw [wmem_box_in (by omega) (by omega) (by omega), if_neg hn]
      simp only [bne_self_eq_false, cond_false, C_gather_Take]
      rw [gather_take (by omega) (by omega)]
  rw [beq_f p9, cond_false, if_neg p9]
  by_cases p10 : u.th.phase = 10
  · rw [beq_t p10, cond_true, if_pos p10]
    by_cases hn : heldAt u = -1
    · rw [wmem_store_out (.inl (by omega)), if_pos hn]
      rfl
    · obtain ⟨n0, n1⟩ := h.held hn
      rw [wmem_store_in n0 n1 (by omega), if_neg hn]
      rfl
  rw [beq_f p10, cond_false, if_neg p10]
  by_cases p11 : u.th.phase = 11
  · rw [beq_t p11, cond_true, if_pos p11, wmem_put_in (by omega) (by omega) (by omega) (by omega)]
    rfl
  rw [beq_f p11, cond_false, if_neg p11]
  by_cases p12 : u.th.phase = 12
  · rw [beq_t p12, cond_true, if_pos p12]
    by_cases hn : nodeAt u.c u.th.item u.th.stop = -1
    · rw [wmem_store_out (.inl (by omega)), if_pos hn]
      rfl
    · obtain ⟨n0, n1⟩ := h.node hn
      rw [wmem_store_in n0 n1 (by omega), if_neg hn]
      rfl
  rw [beq_f p12, cond_false, if_neg p12]

end Go.Proofs.Mill
