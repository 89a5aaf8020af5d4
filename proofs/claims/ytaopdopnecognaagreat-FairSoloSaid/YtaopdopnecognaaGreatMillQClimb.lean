/- Turns that climb. -/
import Derived.Test.YtaopdopnecognaaGreatMillQBase
import Derived.Test.YtaopdopnecognaaGreatMillAll4
set_option linter.all false
namespace Go.Proofs.Mill

/-- What is not too much to look at. -/
structure Big (u : Turn) : Prop where
  words : u.m.words.length ≤ 400
  boxes : u.m.boxes.length ≤ 16
  box : ∀ b ∈ u.m.boxes, b.length ≤ 20
  batch : u.th.batch.length ≤ 20
  kids : u.th.kids.length ≤ 20
  held : u.th.held.length ≤ 20
  tape : u.tape.l.length ≤ 100
  log : u.log.length ≤ 50

theorem Big.sm {u : Turn} (h : Big u) {n : Nat} (hn : 400 ≤ n) : Sm n u :=
  ⟨Nat.le_trans h.words hn, Nat.le_trans h.boxes (by omega), fun b hb => Nat.le_trans (h.box b hb) (by omega), Nat.le_trans h.batch (by omega), Nat.le_trans h.kids (by omega), Nat.le_trans h.held (by omega),
   Nat.le_trans h.tape (by omega), Nat.le_trans h.log (by omega)⟩

/-- A turn that may be. -/
structure May (u : Turn) : Prop where
  cfg : CfgOK u.c
  t : 0 ≤ u.t ∧ u.t < u.c.threads
  words : (u.m.words.length : Int) = sizeOf u.c
  boxes : (u.m.boxes.length : Int) = u.c.threads
  item : 0 ≤ u.th.item ∧ u.th.item < u.c.items

/-- Numbers of 64 bits. -/
def Num (n : Int) : Prop := -9223372036854775808 ≤ n ∧ n ≤ 9223372036854775807

theorem int_num {x : Int} (h : Ty.Ok .int x) : Num x := by
  have := h (.int .i64 x) (by simp [Ty.enc, encInt])
  cases this with
  | int h => exact lit_ok h

theorem turn_words {u : Turn} (h : (valSt celTurn).Ok u) : ∀ n ∈ u.m.words, Num n := by
  have h1 : AV.Ok (.lst .int u.m.words) := h _ (by
    show _ ∈ celTurn.enc u
    simp only [celTurn, celAs, celApp, celMemo, celLst, celConfig, celInt, celBool, celTape, celThread, celOp, List.mem_append, List.mem_singleton]
    simp)
  exact fun n hn => int_num (h1.2 n hn)

/-! Which turns a statement speaks of (law16). -/
theorem beq_f {a b : Int} (h : a ≠ b) : (a == b) = false := by simpa using h
theorem beq_t {a b : Int} (h : a = b) : (a == b) = true := by simpa using h
theorem bne_f {a b : Int} (h : a = b) : (a != b) = false := by simp [h]
theorem bne_t {a b : Int} (h : a ≠ b) : (a != b) = true := by simpa using h

/-- Down: where one goes on whose way up is over. -/
def downT (u : Turn) : Turn := { u with th := { u.th with phase := if 0 ≤ u.th.at_ ∧ u.th.at_ < (u.th.held.length : Int) then 7 else if u.th.stop > 0 then 11 else 2 } }

theorem climb_down (u : Turn) : F_climb_Down u = some (downT u) := by
  simp only [F_climb_Down, cond_dec, downT, ge_iff_le]
  repeat' split
  all_goals first | rfl | (exfalso; omega)
def overT (u : Turn) : Turn := downT { u with th := { u.th with at_ := 0 } }
theorem climb_over (u : Turn) : F_climb_over u = some (overT u) := by simp only [F_climb_over, C_climb_Down, climb_down, overT]
/-- Is a turn late? -/
def Late (u : Turn) : Prop := 0 < u.th.until_ ∧ u.th.until_ ≤ u.now
instance (u : Turn) : Decidable (Late u) := inferInstanceAs (Decidable (_ ∧ _))

theorem thread_late (u : Turn) : F_thread_Late u = some (decide (Late u)) := by
  simp only [F_thread_Late, cond_dec]
  by_cases h : 0 < u.th.until_
  · rw [if_pos h]; simp [Late, h]
  · rw [if_neg h]; simp [Late, h]
/-- The word at a place. -/
abbrev wordAt (u : Turn) (a : Int) : Int := u.m.words.getD a.toNat 0

def lookT (u : Turn) (w : Int) : Turn :=
  if kindOf w = 1 then { u with th := { u.th with phase := 6, x := w } }
  else if kindOf w = 0 then { u with th := { u.th with phase := 5 } }
  else if Late u then overT u else u

def takenT (u : Turn) : Turn :=
  if u.th.node / 2 > 0 then { u with th := { u.th with held := u.th.held ++ [u.th.node], node := u.th.node / 2 } }
  else overT { u with th := { u.th with held := u.th.held ++ [u.th.node], node := u.th.node / 2 } }

def joinedT (u : Turn) : Turn := overT { u with th := { u.th with stop := u.th.node } }

/-- The node that a turn looks at. -/
abbrev nodeOf (u : Turn) : Int := nodeAt u.c u.th.item u.th.node

/-- A turn whose word at a place is another one. -/
abbrev wroteT (u : Turn) (a w : Int) : Turn := { u with m := { u.m with words := u.m.words.set a.toNat w }, th := { u.th with phase := 4 } }

/-- A step of a thread that climbs. -/
def climbT (u : Turn) : Turn × Bool :=
  if u.th.phase = 4 then (if nodeOf u = -1 then u else lookT u (wordAt u (nodeOf u)), true)
  else if u.th.phase = 5 then (if nodeOf u = -1 then u else if wordAt u (nodeOf u) = 0 then takenT (wroteT u (nodeOf u) (8 * (u.t + 1) + 1)) else { u with th := { u.th with phase := 4 } }, true)
  else if u.th.phase = 6 then (if nodeOf u = -1 then u else if wordAt u (nodeOf u) = u.th.x then joinedT (wroteT u (nodeOf u) (8 * (u.t + 1) + 2)) else { u with th := { u.th with phase := 4 } }, true)
  else (u, false)

/-- What a step asks of a turn. -/
structure Fit (u : Turn) : Prop where
  cfg : CfgOK u.c
  t : 0 ≤ u.t ∧ u.t < u.c.threads
  words : (u.m.words.length : Int) = sizeOf u.c
  nums : ∀ n ∈ u.m.words, Num n
  held : u.th.held.length ≤ 4294967295

theorem Fit.node {u : Turn} (h : Fit u) (h0 : nodeOf u ≠ -1) : 0 ≤ nodeOf u ∧ nodeOf u < (u.m.words.length : Int) ∧ 1 ≤ u.th.node ∧ u.th.node ≤ 15 := by
  obtain ⟨h1, h2, _, _, h5, h6, _⟩ := nodeAt_bounds h.cfg _ _ h0
  have h3 := h.words
  have h4 := h.cfg.threads
  have h7 := nodes_bounds u.c
  unfold sizeOf at h3
  exact ⟨h1, by show nodeAt _ _ _ < _; omega, h5, by omega⟩

theorem Fit.len {u : Turn} (h : Fit u) : u.m.words.length ≤ 192 := by
  have h1 := lines_bounds h.cfg
  have h2 := h.cfg.threads
  have h3 := h.words
  unfold sizeOf at h3
  omega

theorem Fit.word {u : Turn} (h : Fit u) (h0 : nodeOf u ≠ -1) : Num (wordAt u (nodeOf u)) := by
  obtain ⟨h1, h2, _⟩ := h.node h0
  have hlt : (nodeOf u).toNat < u.m.words.length := by omega
  show Num (u.m.words.getD _ _)
  rw [List.getD_eq_getElem?_getD, List.getElem?_eq_getElem hlt, Option.getD_some]
  exact h.nums _ (List.getElem_mem hlt)

theorem wmem_at_in {l : List Int} {a : Int} (h0 : 0 ≤ a) (h1 : a < (l.length : Int)) : F_wmem_at_int l a = some (l.getD a.toNat 0, 0) := by
  simp only [F_wmem_at_int, cond_dec]
  rw [if_neg (by omega), if_neg (by omega), if_pos h0, if_pos h1]
theorem wmem_at_out {l : List Int} {a : Int} (h : a < 0 ∨ a ≥ (l.length : Int)) : F_wmem_at_int l a = some (0, 30) := by
  simp only [F_wmem_at_int, cond_dec]
  rcases h with h | h
  · rw [if_pos h]
  · by_cases h1 : a < 0
    · rw [if_pos h1]
    · rw [if_neg h1, if_pos h]
theorem clone_int {l : List Int} (h : l.length ≤ 4294967296) : F_slices_Clone_int l = some l := by
  simp only [F_slices_Clone_int, Nat.zero_add, few_true h, cond_true]

theorem wmem_cas_in {m : Memo} {a o v : Int} (h0 : 0 ≤ a) (h1 : a < (m.words.length : Int)) (hl : m.words.length ≤ 4294967296) :
    F_wmem_Cas m a o v = some (if m.words.getD a.toNat 0 = o then { m with words := m.words.set a.toNat v } else m, decide (m.words.getD a.toNat 0 = o), 0) := by
  simp only [F_wmem_Cas, C_wmem_at_int, wmem_at_in h0 h1, bne_self_eq_false, cond_false, C_slices_Clone_int, clone_int hl, cond_dec, if_pos h0, if_pos h1]
  by_cases e : m.words.getD a.toNat 0 = o
  · rw [beq_t e, cond_true, if_pos e, decide_eq_true e]
  · rw [beq_f e, cond_false, if_neg e, decide_eq_false e]
theorem wmem_cas_out {m : Memo} {a o v : Int} (h : a < 0 ∨ a ≥ (m.words.length : Int)) : F_wmem_Cas m a o v = some (m, false, 30) := by
  simp only [F_wmem_Cas, C_wmem_at_int, wmem_at_out h]
  rfl
theorem climb_look {u : Turn} {w : Int} (h : Num w) : F_climb_look u w = some (lookT u w) := by
  simp only [F_climb_look, C_code_Kind, code_kind h.1 h.2, C_thread_Late, thread_late, C_climb_over, climb_over]
  unfold lookT
  by_cases h1 : kindOf w = 1
  · rw [beq_t h1, cond_true, if_pos h1]
  rw [beq_f h1, cond_false, if_neg h1]
  by_cases h2 : kindOf w = 0
  · rw [beq_t h2, cond_true, if_pos h2]
  rw [beq_f h2, cond_false, if_neg h2]
  by_cases h3 : Late u
  · rw [if_pos h3, decide_eq_true h3]; rfl
  · rw [if_neg h3, decide_eq_false h3]; rfl

theorem climb_taken {u : Turn} (h : u.th.held.length ≤ 4294967295) (h1 : 1 ≤ u.th.node) : F_climb_taken u = some (takenT u) := by
  have e : (if (0 : Int) > u.th.node then (0 : Int) else u.th.node) = u.th.node := if_neg (by omega)
  have hf : fewB (u.th.held.length + 1) = true := few_true (by omega)
  simp only [F_climb_taken, C_slices_Clone_int, clone_int (show u.th.held.length ≤ 4294967296 by omega), List.length_cons, List.length_nil, Nat.zero_add, hf, cond_true, C_shape_Parent, F_shape_Parent, e, shr1, cond_dec, C_climb_over, climb_over]
  unfold takenT
  split <;> rfl

theorem climb_joined (u : Turn) : F_climb_joined u = some (joinedT u) := by
  simp only [F_climb_joined, C_climb_over, climb_over, joinedT]

/-- The program's step. -/
theorem climb_step {u : Turn} (h : Fit u) : F_climb_Step u = some (climbT u) := by
  have ht := h.cfg.threads
  have h1 := h.t
  have hl := h.len
  simp only [F_climb_Step, C_arena_Node, arena_node h.cfg, C_code_First, code_first (t := u.t) (by omega) (by omega), C_code_Joined, code_joined (t := u.t) (by omega) (by omega), C_wmem_Load, F_wmem_Load, C_wmem_at_int, C_wmem_Cas]
  unfold climbT
  by_cases p4 : u.th.phase = 4
  · rw [beq_t p4, cond_true, if_pos p4]
    by_cases hn : nodeOf u = -1
    · rw [wmem_at_out (.inl (by show nodeOf u < 0; omega)), if_pos hn]
      rfl
    · obtain ⟨n0, n1, _⟩ := h.node hn
      rw [wmem_at_in n0 n1, if_neg hn]
      simp only [bne_self_eq_false, cond_false, C_climb_look]
      rw [climb_look (h.word hn)]
  rw [beq_f p4, cond_false, if_neg p4]
  by_cases p6 : u.th.phase = 6
  · rw [beq_t p6, cond_true, if_neg (by omega), if_pos p6]
    by_cases hn : nodeOf u = -1
    · rw [wmem_cas_out (.inl (by show nodeOf u < 0; omega)), if_pos hn]
      rfl
    · obtain ⟨n0, n1, _⟩ := h.node hn
      rw [wmem_cas_in n0 n1 (by omega), if_neg hn]
      simp only [bne_self_eq_false, cond_false, C_climb_joined, climb_joined]
      by_cases e : wordAt u (nodeOf u) = u.th.x
      · rw [decide_eq_true e, cond_true, if_pos e, if_pos e]
      · rw [decide_eq_false e, cond_false, if_neg e, if_neg e]
  rw [beq_f p6, cond_false]
  by_cases p5 : u.th.phase = 5
  · rw [beq_t p5, cond_true, if_pos p5]
    by_cases hn : nodeOf u = -1
    · rw [wmem_cas_out (.inl (by show nodeOf u < 0; omega)), if_pos hn]
      rfl
    · obtain ⟨n0, n1, n2, n3⟩ := h.node hn
      rw [wmem_cas_in n0 n1 (by omega), if_neg hn]
      simp only [bne_self_eq_false, cond_false, C_climb_taken]
      by_cases e : wordAt u (nodeOf u) = 0
      · rw [decide_eq_true e, cond_true, if_pos e, if_pos e, climb_taken (by exact h.held) (by exact n2)]
      · rw [decide_eq_false e, cond_false, if_neg e, if_neg e]
  rw [beq_f p5, cond_false, if_neg p5, if_neg p6]

end Go.Proofs.Mill
