/- A thread in a funnel: what its step makes of a turn. -/
import Derived.Test.YtaopdopnecognaaGreatMillQGather2
set_option linter.all false
namespace Go.Proofs.Mill

/-- The place of a thread's line; -1: there is none. -/
def lineAt (c : Config) (t : Int) : Int := if t < 0 ∨ t ≥ c.threads then -1 else linesOf c + 2 * t
/-- The place of a slot; -1: there is none. -/
def slotAt (c : Config) (item layer i : Int) : Int :=
  if item < 0 ∨ item ≥ c.items ∨ layer < 1 ∨ layer > c.layers ∨ i < 0 ∨ i ≥ c.width then -1 else item * blockOf c + (1 + nodesOf c) + (layer - 1) * c.width + i

theorem lineAt_bounds {c : Config} (h : CfgOK c) {t : Int} (h0 : lineAt c t ≠ -1) : linesOf c ≤ lineAt c t ∧ lineAt c t < sizeOf c ∧ 0 ≤ t ∧ t < c.threads ∧ lineAt c t = linesOf c + 2 * t := by
  have h1 := lines_bounds h
  unfold lineAt at h0 ⊢
  unfold sizeOf
  split at h0
  · exact (h0 rfl).elim
  · rename_i hc
    rw [if_neg hc]
    omega
theorem lineAt_in {c : Config} (h : CfgOK c) {t : Int} (h0 : 0 ≤ t) (h1 : t < c.threads) : lineAt c t = linesOf c + 2 * t ∧ linesOf c ≤ lineAt c t ∧ lineAt c t < sizeOf c := by
  unfold lineAt sizeOf
  rw [if_neg (by omega)]
  omega

theorem layer_bounds {c : Config} (h : CfgOK c) {layer : Int} (h0 : 1 ≤ layer) (h1 : layer ≤ c.layers) : 0 ≤ (layer - 1) * c.width ∧ (layer - 1) * c.width + c.width ≤ c.layers * c.width := by
  have h2 := h.width
  refine ⟨Int.mul_nonneg (by omega) (by omega), ?_⟩
  have h3 : (layer - 1) * c.width = layer * c.width - c.width := by rw [Int.sub_mul, Int.one_mul]
  have h4 := Int.mul_le_mul_of_nonneg_right h1 (show 0 ≤ c.width by omega)
  omega

theorem slotAt_bounds {c : Config} (h : CfgOK c) {item layer i : Int} (h0 : slotAt c item layer i ≠ -1) :
    0 ≤ slotAt c item layer i ∧ slotAt c item layer i < linesOf c ∧ (0 ≤ item ∧ item < c.items) ∧ (1 ≤ layer ∧ layer ≤ c.layers) ∧ (0 ≤ i ∧ i < c.width) ∧
    slotAt c item layer i = item * blockOf c + (1 + nodesOf c) + (layer - 1) * c.width + i := by
  unfold slotAt at h0 ⊢
  split at h0
  · exact (h0 rfl).elim
  rename_i hc
  rw [if_neg hc]
  have h1 := mul_item h (i := item) (by omega) (by omega)
  have h2 := mul_item h (i := item + 1) (by omega) (by omega)
  have h3 : (item + 1) * blockOf c = item * blockOf c + blockOf c := by rw [Int.add_mul, Int.one_mul]
  have h4 := nodes_bounds c
  have h6 : blockOf c = 1 + nodesOf c + c.layers * c.width := rfl
  have h7 := layer_bounds h (layer := layer) (by omega) (by omega)
  omega
theorem slotAt_in {c : Config} (h : CfgOK c) {item layer i : Int} (h0 : 0 ≤ item ∧ item < c.items) (h1 : 1 ≤ layer ∧ layer ≤ c.layers) (h2 : 0 ≤ i ∧ i < c.width) :
    slotAt c item layer i = item * blockOf c + (1 + nodesOf c) + (layer - 1) * c.width + i ∧ 0 ≤ slotAt c item layer i ∧ slotAt c item layer i < linesOf c := by
  have e : slotAt c item layer i = item * blockOf c + (1 + nodesOf c) + (layer - 1) * c.width + i := by unfold slotAt; rw [if_neg (by omega)]
  have h3 := mul_item h (i := item) (by omega) (by omega)
  have h4 := nodes_bounds c
  have h7 := layer_bounds h (layer := layer) (by omega) (by omega)
  have := slotAt_bounds h (item := item) (layer := layer) (i := i) (by omega)
  omega

theorem ref06_line {c : Config} (h : CfgOK c) (t : Int) : F_ref06_Line c t = some (lineAt c t) := by
  have h1 := lines_bounds h
  have h2 := h.threads
  simp only [F_ref06_Line, cond_dec, C_ref06_block, ref06_block h]
  unfold lineAt
  by_cases a : t < 0
  · rw [if_pos a, if_pos (.inl a)]
  by_cases b : t ≥ c.threads
  · rw [if_neg a, if_pos b, if_pos (.inr b)]
  rw [if_neg a, if_neg b, if_neg (by omega), show c.items * blockOf c = linesOf c from rfl, wrap_id (n := linesOf c) (by omega) (by omega), wrap_id (n := 2 * t) (by omega) (by omega), wrap_id (by omega) (by omega)]
theorem arena_line {c : Config} (h : CfgOK c) (t : Int) : F_arena_Line c t = some (lineAt c t) := by
  have h1 := lines_bounds h
  have h2 := h.threads
  simp only [F_arena_Line, cond_dec, C_arena_of, arena_of h]
  unfold lineAt
  by_cases a : t < 0
  · rw [if_pos a, if_pos (.inl a)]
  by_cases b : t ≥ c.threads
  · rw [if_neg a, if_pos b, if_pos (.inr b)]
  rw [if_neg a, if_neg b, if_neg (by omega), wrap_id (n := 2 * t) (by omega) (by omega), wrap_id (by omega) (by omega)]

theorem arena_slot {c : Config} (h : CfgOK c) (item layer i : Int) : F_arena_Slot c item layer i = some (slotAt c item layer i) := by
  have h1 := lines_bounds h
  have h4 := nodes_bounds c
  have h5 := h.layers
  have h6 := h.width
  have h8 := slots_bounds h
  have h9 := block_bounds h
  simp only [F_arena_Slot, cond_dec, C_arena_of, arena_of h]
  rw [wrap_id (n := 1 + c.layers) (by omega) (by omega)]
  unfold slotAt
  by_cases a1 : item < 0
  · simp [a1]
  by_cases a2 : item ≥ c.items
  · simp [a1, a2]
  by_cases a3 : layer < 1
  · simp [a1, a2, a3]
  by_cases a4 : layer > c.layers
  · have a4' : layer ≥ 1 + c.layers := by omega
    simp [a1, a2, a3, a4, a4']
  have a4' : ¬ layer ≥ 1 + c.layers := by omega
  by_cases a5 : i < 0
  · simp [a1, a2, a3, a4, a4', a5]
  by_cases a6 : i ≥ c.width
  · simp [a1, a2, a3, a4, a4', a5, a6]
  rw [if_neg a1, if_neg a2, if_neg a3, if_neg a4', if_neg a5, if_neg a6, if_neg (by omega)]
  have h7 := layer_bounds h (layer := layer) (by omega) (by omega)
  have h3 := mul_item h (i := item) (by omega) (by omega)
  rw [wrap_id (n := item * blockOf c) (by omega) (by omega), wrap_id (n := item * blockOf c + (1 + nodesOf c)) (by omega) (by omega),
    wrap_id (n := layer - 1) (by omega) (by omega), wrap_id (n := (layer - 1) * c.width) (by omega) (by omega), wrap_id (n := item * blockOf c + (1 + nodesOf c) + (layer - 1) * c.width) (by omega) (by omega), wrap_id (by omega) (by omega)]

theorem code_open {i l : Int} (h0 : 0 ≤ i) (h1 : i ≤ 1000) (h2 : 0 ≤ l) (h3 : l ≤ 1000) : F_code_Open i l = some (8 * (16 * i + l + 1) + 4) := by
  simp only [F_code_Open, C_code_said_word, F_code_said_word]
  rw [show i * (2 : Int) ^ min (Int.toNat (4 : Int)) IntKind.i64.bits = 16 * i from Int.mul_comm i 16, wrap_id (n := 16 * i) (by omega) (by omega), wrap_id (n := 16 * i + l) (by omega) (by omega), wrap_id (n := 16 * i + l + 1) (by omega) (by omega), wrap_id (n := 8 * (16 * i + l + 1)) (by omega) (by omega), wrap_id (by omega) (by omega)]

/-- The next draw; a draw below a number. -/
def drawT (t : Tape) : Int × Tape := if t.at_ < 0 ∨ t.at_ ≥ (t.l.length : Int) then (0, t) else (t.l.getD t.at_.toNat 0, { t with at_ := wrapA .i64 (t.at_ + 1) })
def belowT (t : Tape) (n : Int) : Int × Tape :=
  if n < 1 then (0, t) else (if (drawT t).1.tmod n < 0 then wrapA .i64 ((drawT t).1.tmod n + n) else (drawT t).1.tmod n, (drawT t).2)

theorem tape_next {t : Tape} (h : Num t.at_) (hl : t.l.length ≤ 4294967296) : F_tape_Next t = some (drawT t) := by
  have e : F_tape_Left t = some (if t.at_ < 0 ∨ t.at_ ≥ (t.l.length : Int) then 0 else (t.l.length : Int) - t.at_) := by
    simp only [F_tape_Left, cond_dec]
    have h1 := h.2
    by_cases a : t.at_ < 0
    · rw [if_pos a, if_pos (show t.at_ < 0 ∨ t.at_ ≥ (t.l.length : Int) from .inl a)]
    by_cases b : t.at_ ≥ (t.l.length : Int)
    · rw [if_neg a, if_pos (show t.at_ < 0 ∨ t.at_ ≥ (t.l.length : Int) from .inr b), wrap_id (n := (t.l.length : Int) - t.at_) (by omega) (by omega), if_neg (by omega)]
    · rw [if_neg a, wrap_id (n := (t.l.length : Int) - t.at_) (by omega) (by omega), if_pos (show (t.l.length : Int) - t.at_ > 0 by omega), if_neg (show ¬ (t.at_ < 0 ∨ t.at_ ≥ (t.l.length : Int)) by omega)]
  simp only [F_tape_Next, C_tape_Left, e, cond_dec]
  unfold drawT
  by_cases c : t.at_ < 0 ∨ t.at_ ≥ (t.l.length : Int)
  · simp only [if_pos c]
    rfl
  · simp only [if_neg c]
    rw [if_pos (show (t.l.length : Int) - t.at_ > 0 by omega), if_pos (show (0 : Int) ≤ t.at_ by omega), if_pos (show t.at_ < (t.l.length : Int) by omega)]
theorem tape_below {t : Tape} (n : Int) (h : Num t.at_) (hl : t.l.length ≤ 4294967296) : F_tape_Below t n = some (belowT t n) := by
  simp only [F_tape_Below, cond_dec, C_tape_Next, tape_next h hl]
  unfold belowT
  by_cases a : n < 1
  · rw [if_pos a, if_pos a]
  rw [if_neg a, if_neg (by omega), if_neg a]
  split <;> rfl
theorem drawT_tape (t : Tape) : (drawT t).2.l = t.l := by unfold drawT; split <;> rfl
theorem belowT_tape (t : Tape) (n : Int) : (belowT t n).2.l = t.l := by
  unfold belowT
  split
  · rfl
  · exact drawT_tape t
theorem belowT_in (t : Tape) {n : Int} (h : 1 ≤ n) (h2 : n ≤ 1000) : 0 ≤ (belowT t n).1 ∧ (belowT t n).1 < n := by
  unfold belowT
  rw [if_neg (by omega)]
  simp only
  have h1 := Int.tmod_lt_of_pos (drawT t).1 (show 0 < n by omega)
  have h3 := Int.lt_tmod_of_pos (drawT t).1 (show 0 < n by omega)
  split
  · rw [wrap_id (by omega) (by omega)]; omega
  · omega

theorem wmem_swap_in {m : Memo} {a v : Int} (h0 : 0 ≤ a) (h1 : a < (m.words.length : Int)) (hl : m.words.length ≤ 4294967296) :
    F_wmem_Swap m a v = some ({ m with words := m.words.set a.toNat v }, m.words.getD a.toNat 0, 0) := by
  simp only [F_wmem_Swap, C_wmem_at_int, wmem_at_in h0 h1, bne_self_eq_false, cond_false, C_slices_Clone_int, clone_int hl, cond_dec, if_pos h0, if_pos h1]
theorem wmem_swap_out {m : Memo} {a v : Int} (h : a < 0 ∨ a ≥ (m.words.length : Int)) : F_wmem_Swap m a v = some (m, 0, 30) := by
  simp only [F_wmem_Swap, C_wmem_at_int, wmem_at_out h]
  rfl
/-- Onward: the next layer, or the cell. -/
def onwardT (u : Turn) : Turn :=
  if u.th.layer < u.c.layers ∧ ¬ Late u then { u with th := { u.th with phase := 17, layer := wrapA .i64 (u.th.layer + 1) } } else { u with th := { u.th with phase := 2 } }

theorem commit_onward (u : Turn) : F_commit_Onward u = some (onwardT u) := by
  simp only [F_commit_Onward, C_thread_Late, thread_late, cond_dec]
  unfold onwardT
  have e : decide (Late { u with th := { u.th with phase := 2 } }) = decide (Late u) := rfl
  by_cases a : u.th.layer < u.c.layers
  · rw [if_pos a, e]
    by_cases b : Late u
    · rw [decide_eq_true b, if_neg (fun h => h.2 b)]; rfl
    · rw [decide_eq_false b, if_pos ⟨a, b⟩]; rfl
  · rw [if_neg a, if_neg (fun h => a h.1)]
/-- The open word of a turn. -/
abbrev openW (u : Turn) : Int := 8 * (16 * u.th.item + u.th.layer + 1) + 4
/-- Its own line, the line of another one; the slot that is drawn. -/
abbrev mineAt (u : Turn) : Int := lineAt u.c u.t
abbrev drawnAt (u : Turn) : Int := slotAt u.c u.th.item u.th.layer (belowT u.tape u.th.width).1

def swapT (u : Turn) : Turn :=
  if drawnAt u = -1 then u
  else if 1 ≤ wordAt u (drawnAt u) ∧ wordAt u (drawnAt u) ≤ u.c.threads ∧ wordAt u (drawnAt u) ≠ u.t + 1 then
    { setW u (drawnAt u) (u.t + 1) with tape := (belowT u.tape u.th.width).2, th := { u.th with phase := 20, who := wordAt u (drawnAt u) - 1 } }
  else { setW u (drawnAt u) (u.t + 1) with tape := (belowT u.tape u.th.width).2, th := { u.th with phase := 23, left := u.c.spin } }

def comparedT (u : Turn) (t so no : Int) : Turn :=
  if lineAt u.c t = -1 then u else if wordAt u (lineAt u.c t) = openW u then { setW u (lineAt u.c t) 0 with th := { u.th with phase := so } } else { u with th := { u.th with phase := no } }

def absorbT (u : Turn) : Turn :=
  if u.th.who < 0 ∨ u.th.who ≥ (u.m.boxes.length : Int) then u
  else { takeT u u.th.who (u.m.boxes.getD u.th.who.toNat []) with th := { (takeT u u.th.who (u.m.boxes.getD u.th.who.toNat [])).th with phase := 25 } }

def spinT (u : Turn) : Turn :=
  if wordAt u (mineAt u) ≠ openW u then { u with th := { u.th with phase := 13 } }
  else if u.th.left > 0 ∧ ¬ Late u then { u with th := { u.th with left := wrapA .i64 (u.th.left - 1) } }
  else { u with th := { u.th with phase := 26 } }

def leaveT (u : Turn) : Turn :=
  if wordAt u (mineAt u) = openW u then onwardT { setW u (mineAt u) 0 with th := { u.th with phase := 26, width := if u.th.width / 2 > 1 then u.th.width / 2 else 1 } } else { u with th := { u.th with phase := 13 } }

/-- A step of a thread in a funnel. -/
def collideT (u : Turn) : Turn × Bool :=
  if u.th.phase = 17 then ({ u with m := { u.m with boxes := u.m.boxes.set u.t.toNat u.th.batch }, th := { u.th with phase := 18 } }, true)
  else if u.th.phase = 18 then ({ setW u (mineAt u) (openW u) with th := { u.th with phase := 19 } }, true)
  else if u.th.phase = 19 then (swapT u, true)
  else if u.th.phase = 20 then (comparedT u u.t 21 13, true)
  else if u.th.phase = 21 then (comparedT u u.th.who 22 24, true)
  else if u.th.phase = 22 then (absorbT u, true)
  else if u.th.phase = 23 then (spinT u, true)
  else if u.th.phase = 24 then ({ setW u (mineAt u) (openW u) with th := { u.th with phase := 23, left := u.c.spin } }, true)
  else if u.th.phase = 26 then (leaveT u, true)
  else (u, false)

/-- What a step asks of a turn. -/
structure FitC (u : Turn) : Prop where
  g : FitG u
  item : 0 ≤ u.th.item ∧ u.th.item < u.c.items
  layer : 1 ≤ u.th.layer ∧ u.th.layer ≤ 3
  tape : Num u.tape.at_
  draws : u.tape.l.length ≤ 4294967296
  width : Num u.th.width

theorem FitC.line {u : Turn} (h : FitC u) {t : Int} (h0 : lineAt u.c t ≠ -1) : 0 ≤ lineAt u.c t ∧ lineAt u.c t < (u.m.words.length : Int) := by
  have h1 := lineAt_bounds h.g.cfg h0
  have h2 := h.g.words
  have h3 := lines_bounds h.g.cfg
  omega
theorem FitC.mine {u : Turn} (h : FitC u) : mineAt u ≠ -1 ∧ 0 ≤ mineAt u ∧ mineAt u < (u.m.words.length : Int) := by
  have h1 := lineAt_in h.g.cfg h.g.t.1 h.g.t.2
  have h2 := h.g.words
  have h3 := lines_bounds h.g.cfg
  simp only [mineAt] at *
  omega
theorem FitC.slot {u : Turn} (h : FitC u) (h0 : drawnAt u ≠ -1) : 0 ≤ drawnAt u ∧ drawnAt u < (u.m.words.length : Int) := by
  have h1 := slotAt_bounds h.g.cfg h0
  have h2 := h.g.words
  have h3 := h.g.cfg.threads
  unfold sizeOf at h2
  simp only [drawnAt] at *
  omega

/-- The program's step. -/
theorem collide_step {u : Turn} (h : FitC u) : F_collide_Step u = some (collideT u) := by
  have ht := h.g.cfg.threads
  have hi := h.g.cfg.items
  have h1 := h.g.t
  have h2 := h.item
  have h3 := h.layer
  have hl := h.g.len
  have hb := h.g.boxes
  have hbt := h.g.batch
  have hkd := h.g.kids
  obtain ⟨mn, m0, m1⟩ := h.mine
  simp only [F_collide_Step, C_code_Open, code_open (i := u.th.item) (l := u.th.layer) (by omega) (by omega) (by omega) (by omega), C_wmem_Put, C_collide_diver_line, F_collide_diver_line, C_arena_Line, arena_line h.g.cfg,
    C_wmem_Store, C_tape_Below, tape_below u.th.width h.tape h.draws, C_arena_Slot, arena_slot h.g.cfg, C_wmem_Swap, C_wmem_Cas, C_commit_Onward, commit_onward, C_wmem_Box, C_gather_Take, C_wmem_Load, F_wmem_Load, C_wmem_at_int,
    C_thread_Late, thread_late, shr1]
  unfold collideT
  by_cases p17 : u.th.phase = 17
  · rw [beq_t p17, cond_true, if_pos p17, wmem_put_in (by omega) (by omega) (by omega) (by omega)]
    rfl
  rw [beq_f p17, cond_false, if_neg p17]
  by_cases p18 : u.th.phase = 18
  · rw [beq_t p18, cond_true, if_pos p18, wmem_store_in m0 m1 (by omega)]
    rfl
  rw [beq_f p18, cond_false, if_neg p18]
  by_cases p19 : u.th.phase = 19
  · rw [beq_t p19, cond_true, if_pos p19]
    unfold swapT
    by_cases hn : drawnAt u = -1
    · rw [wmem_swap_out (.inl (by simp only [drawnAt] at hn; omega)), if_pos hn]
      rfl
    · obtain ⟨n0, n1⟩ := h.slot hn
      rw [wmem_swap_in n0 n1 (by omega), if_neg hn, wrap_id (n := u.t + 1) (by omega) (by omega)]
      simp only [bne_self_eq_false, cond_false, cond_dec]
      by_cases a1 : wordAt u (drawnAt u) < 1
      · rw [if_pos a1, if_neg (by omega)]
      by_cases a2 : wordAt u (drawnAt u) > u.c.threads
      · rw [if_neg a1, if_pos a2, if_neg (by omega)]
      by_cases a3 : wordAt u (drawnAt u) = u.t + 1
      · rw [if_neg a1, if_neg a2, beq_t a3, cond_true, if_neg (by omega)]
      · rw [if_neg a1, if_neg a2, beq_f a3, cond_false, if_pos (by omega), wrap_id (n := wordAt u (drawnAt u) - 1) (by omega) (by omega)]
  rw [beq_f p19, cond_false, if_neg p19]
  by_cases p20 : u.th.phase = 20
  · rw [beq_t p20, cond_true, if_pos p20, wmem_cas_in m0 m1 (by omega), beq_f (show u.th.phase ≠ 26 by omega)]
    unfold comparedT
    rw [if_neg mn]
    simp only [bne_self_eq_false, cond_false]
    by_cases e : wordAt u (mineAt u) = openW u
    · rw [decide_eq_true e, if_pos e, if_pos e]; rfl
    · rw [decide_eq_false e, if_neg e, if_neg e]; rfl
  rw [beq_f p20, cond_false, if_neg p20]
  by_cases p21 : u.th.phase = 21
  · rw [beq_t p21, cond_true, if_pos p21, beq_f (show u.th.phase ≠ 26 by omega)]
    unfold comparedT
    by_cases hn : lineAt u.c u.th.who = -1
    · rw [wmem_cas_out (.inl (by omega)), if_pos hn]
      rfl
    · obtain ⟨n0, n1⟩ := h.line hn
      rw [wmem_cas_in n0 n1 (by omega), if_neg hn]
      simp only [bne_self_eq_false, cond_false]
      by_cases e : wordAt u (lineAt u.c u.th.who) = openW u
      · rw [decide_eq_true e, if_pos e, if_pos e]; rfl
      · rw [decide_eq_false e, if_neg e, if_neg e]; rfl
  rw [beq_f p21, cond_false, if_neg p21]
  by_cases p22 : u.th.phase = 22
  · rw [beq_t p22, cond_true, if_pos p22]
    unfold absorbT
    by_cases hn : u.th.who < 0 ∨ u.th.who ≥ (u.m.boxes.length : Int)
    · rw [wmem_box_out hn, if_pos hn]
      rfl
    · have hbl := h.g.boxLen u.th.who.toNat
      rw [wmem_box_in (by omega) (by omega) (by omega), if_neg hn]
      simp only [beq_self_eq_true, cond_true]
      rw [gather_take (by omega) (by omega)]
  rw [beq_f p22, cond_false, if_neg p22]
  by_cases p23 : u.th.phase = 23
  · rw [beq_t p23, cond_true, if_pos p23, wmem_at_in m0 m1]
    unfold spinT
    simp only [bne_self_eq_false, cond_false, cond_dec]
    by_cases e : wordAt u (mineAt u) = openW u
    · rw [bne_f e, cond_false, if_neg (show ¬ (wordAt u (mineAt u) ≠ openW u) from fun h => h e)]
      by_cases a : u.th.left > 0
      · rw [if_pos a]
        by_cases b : Late u
        · rw [decide_eq_true b, if_neg (fun h => h.2 b)]; rfl
        · rw [decide_eq_false b, if_pos ⟨a, b⟩]; rfl
      · rw [if_neg a, if_neg (fun h => a h.1)]
    · rw [bne_t e, cond_true, if_pos e]
  rw [beq_f p23, cond_false, if_neg p23]
  by_cases p24 : u.th.phase = 24
  · rw [beq_t p24, cond_true, if_pos p24, wmem_store_in m0 m1 (by omega)]
    rfl
  rw [beq_f p24, cond_false, if_neg p24]
  by_cases p26 : u.th.phase = 26
  · rw [beq_t p26, cond_true, if_pos p26, wmem_cas_in m0 m1 (by omega)]
    unfold leaveT
    simp only [bne_self_eq_false, cond_false, cond_true]
    by_cases e : wordAt u (mineAt u) = openW u
    · rw [decide_eq_true e, if_pos e, if_pos e]; rfl
    · rw [decide_eq_false e, if_neg e, if_neg e]; rfl
  rw [beq_f p26, cond_false, if_neg p26]

theorem onward_phase (u : Turn) : onwardT { u with th := { u.th with phase := 2 } } = onwardT u := by unfold onwardT; rfl

theorem setW_sm {n : Nat} {u : Turn} (h : Sm n u) (a w : Int) : Sm n (setW u a w) := h.same (List.length_set ..) rfl rfl rfl rfl rfl rfl

theorem onwardT_sm {n : Nat} {u : Turn} (h : Sm n u) : Sm n (onwardT u) := by
  unfold onwardT
  split <;> exact h.same rfl rfl rfl rfl rfl rfl rfl

theorem comparedT_sm {n : Nat} {u : Turn} (h : Sm n u) (t so no : Int) : Sm n (comparedT u t so no) := by
  unfold comparedT
  repeat' split
  · exact h
  · exact (setW_sm h _ _).same rfl rfl rfl rfl rfl rfl rfl
  · exact h.same rfl rfl rfl rfl rfl rfl rfl

theorem swapT_sm {n : Nat} {u : Turn} (h : Sm n u) : Sm n (swapT u) := by
  have e : (belowT u.tape u.th.width).2.l.length ≤ n := by rw [belowT_tape]; exact h.tape
  have s := setW_sm h (drawnAt u) (u.t + 1)
  unfold swapT
  repeat' split
  · exact h
  · exact ⟨s.words, s.boxes, s.box, s.batch, s.kids, s.held, e, s.log⟩
  · exact ⟨s.words, s.boxes, s.box, s.batch, s.kids, s.held, e, s.log⟩

theorem collideT_sm {u : Turn} (h : FitC u) (b : Big u) : Sm 4294967296 (collideT u).1 := by
  have hs := b.sm (n := 4294967296) (by omega)
  have hb := b.batch
  have hk := b.kids
  unfold collideT
  by_cases p17 : u.th.phase = 17
  · rw [if_pos p17]
    refine ⟨hs.words, by show (u.m.boxes.set _ _).length ≤ _; rw [List.length_set]; exact hs.boxes, fun x hx => ?_, hs.batch, hs.kids, hs.held, hs.tape, hs.log⟩
    rcases List.mem_or_eq_of_mem_set hx with hx | rfl
    · exact hs.box x hx
    · exact hs.batch
  rw [if_neg p17]
  by_cases p18 : u.th.phase = 18
  · rw [if_pos p18]; exact (setW_sm hs _ _).same rfl rfl rfl rfl rfl rfl rfl
  rw [if_neg p18]
  by_cases p19 : u.th.phase = 19
  · rw [if_pos p19]; exact swapT_sm hs
  rw [if_neg p19]
  by_cases p20 : u.th.phase = 20
  · rw [if_pos p20]; exact comparedT_sm hs _ _ _
  rw [if_neg p20]
  by_cases p21 : u.th.phase = 21
  · rw [if_pos p21]; exact comparedT_sm hs _ _ _
  rw [if_neg p21]
  by_cases p22 : u.th.phase = 22
  · rw [if_pos p22]
    show Sm _ (absorbT u)
    unfold absorbT
    split
    · exact hs
    · have hl := h.g.boxLen u.th.who.toNat
      have := takeT_sm (who := u.th.who) (b := u.m.boxes.getD u.th.who.toNat []) hs (by omega) (by omega)
      exact this.same rfl rfl rfl rfl rfl rfl rfl
  rw [if_neg p22]
  by_cases p23 : u.th.phase = 23
  · rw [if_pos p23]
    show Sm _ (spinT u)
    unfold spinT
    repeat' split
    all_goals exact hs.same rfl rfl rfl rfl rfl rfl rfl
  rw [if_neg p23]
  by_cases p24 : u.th.phase = 24
  · rw [if_pos p24]; exact (setW_sm hs _ _).same rfl rfl rfl rfl rfl rfl rfl
  rw [if_neg p24]
  by_cases p26 : u.th.phase = 26
  · rw [if_pos p26]
    show Sm _ (leaveT u)
    unfold leaveT
    split
    · exact onwardT_sm ((setW_sm hs (mineAt u) 0).same rfl rfl rfl rfl rfl rfl rfl)
    · exact hs.same rfl rfl rfl rfl rfl rfl rfl
  rw [if_neg p26]
  exact hs

end Go.Proofs.Mill
