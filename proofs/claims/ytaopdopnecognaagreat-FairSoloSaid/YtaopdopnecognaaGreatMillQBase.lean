/- Configs, places, words. -/
import Derived.Test.YtaopdopnecognaaGreatMillQTurn
set_option linter.all false
namespace Go.Proofs.Mill

/-- The nodes of an item's tree; an item's block; the words of a memory. -/
def nodesOf (c : Config) : Int := if c.depth = 0 then 0 else if c.depth = 1 then 1 else if c.depth = 2 then 3 else if c.depth = 3 then 7 else 15
def blockOf (c : Config) : Int := 1 + nodesOf c + c.layers * c.width
def linesOf (c : Config) : Int := c.items * blockOf c
def sizeOf (c : Config) : Int := linesOf c + 2 * c.threads

theorem depths {c : Config} (h : CfgOK c) : c.depth = 0 ∨ c.depth = 1 ∨ c.depth = 2 ∨ c.depth = 3 ∨ c.depth = 4 := by have := h.depth; omega

theorem nodes_bounds (c : Config) : 0 ≤ nodesOf c ∧ nodesOf c ≤ 15 := by
  unfold nodesOf
  repeat' split
  all_goals omega

theorem slots_bounds {c : Config} (h : CfgOK c) : 0 ≤ c.layers * c.width ∧ c.layers * c.width ≤ 24 := by
  have h1 := h.layers
  have h2 := h.width
  have : c.layers = 0 ∨ c.layers = 1 ∨ c.layers = 2 ∨ c.layers = 3 := by omega
  rcases this with e | e | e | e <;> rw [e] <;> omega

theorem block_bounds {c : Config} (h : CfgOK c) : 1 ≤ blockOf c ∧ blockOf c ≤ 40 := by
  have h1 := slots_bounds h
  have h2 := nodes_bounds c
  unfold blockOf
  omega

theorem mul_item {c : Config} (h : CfgOK c) {i : Int} (h0 : 0 ≤ i) (h1 : i ≤ c.items) : 0 ≤ i * blockOf c ∧ i * blockOf c ≤ linesOf c := by
  have hb := block_bounds h
  refine ⟨Int.mul_nonneg h0 (by omega), Int.mul_le_mul_of_nonneg_right h1 (by omega)⟩

theorem lines_bounds {c : Config} (h : CfgOK c) : 1 ≤ linesOf c ∧ linesOf c ≤ 160 := by
  have hb := block_bounds h
  have h1 := h.items
  unfold linesOf
  have : c.items = 1 ∨ c.items = 2 ∨ c.items = 3 ∨ c.items = 4 := by omega
  rcases this with e | e | e | e <;> rw [e] <;> omega

theorem ref06_nodes {c : Config} (h : CfgOK c) : F_ref06_Nodes c = some (nodesOf c) := by
  have hd := h.depth
  have hw : W_ref06_Nodes_3 (c, 1, 0) = some (nodesOf c + 1) := by
    have hn : nodesOf c + 1 = 2 ^ c.depth.toNat := by
      unfold nodesOf
      rcases depths h with e | e | e | e | e <;> rw [e] <;> decide
    refine whileM_for (fun i => (c, (2 : Int) ^ i, (i : Int))) c.depth.toNat (fun i hi => ?_) ?_
    · have h1 : (i : Int) < c.depth := by omega
      have h2 : i = 0 ∨ i = 1 ∨ i = 2 ∨ i = 3 := by omega
      simp only [T_ref06_Nodes_3, S_ref06_Nodes_3, cond_dec, if_pos h1]
      rcases h2 with rfl | rfl | rfl | rfl <;> rfl
    · have h1 : ¬ ((c.depth.toNat : Int) < c.depth) := by omega
      simp only [T_ref06_Nodes_3, S_ref06_Nodes_3, cond_dec, if_neg h1, hn]
  have hb := nodes_bounds c
  simp only [F_ref06_Nodes, hw]
  rw [wrap_id (by omega) (by omega), Int.add_sub_cancel]

theorem ref06_block {c : Config} (h : CfgOK c) : F_ref06_block c = some (blockOf c) := by
  have h1 := slots_bounds h
  have h2 := nodes_bounds c
  simp only [F_ref06_block, C_ref06_Nodes, ref06_nodes h]
  rw [wrap_id (n := 1 + nodesOf c) (by omega) (by omega), wrap_id (n := c.layers * c.width) (by omega) (by omega), wrap_id (by omega) (by omega)]
  rfl

theorem ref06_size {c : Config} (h : CfgOK c) : F_ref06_Size c = some (sizeOf c) := by
  have h1 := lines_bounds h
  have h2 := h.threads
  simp only [F_ref06_Size, C_ref06_block, ref06_block h]
  rw [show c.items * blockOf c = linesOf c from rfl, wrap_id (n := linesOf c) (by omega) (by omega), wrap_id (n := 2 * c.threads) (by omega) (by omega), wrap_id (by omega) (by omega)]
  rfl

theorem arena_nodes {c : Config} (h : CfgOK c) : F_arena_Nodes c = some (nodesOf c) := by
  unfold F_arena_Nodes nodesOf
  rcases depths h with e | e | e | e | e <;> rw [e] <;> rfl

theorem arena_of {c : Config} (h : CfgOK c) : F_arena_of c = some ⟨1, 1 + nodesOf c, blockOf c, linesOf c⟩ := by
  have h1 := slots_bounds h
  have h2 := nodes_bounds c
  have h3 := block_bounds h
  have h4 := lines_bounds h
  simp only [F_arena_of, C_arena_Nodes, arena_nodes h]
  rw [wrap_id (n := 1 + nodesOf c) (by omega) (by omega), wrap_id (n := c.layers * c.width) (by omega) (by omega), wrap_id (n := 1 + nodesOf c + c.layers * c.width) (by omega) (by omega),
    show c.items * (1 + nodesOf c + c.layers * c.width) = linesOf c from rfl, wrap_id (n := linesOf c) (by omega) (by omega)]
  rfl

/-- The place of a node; -1: there is none. -/
def nodeAt (c : Config) (item n : Int) : Int := if item < 0 ∨ item ≥ c.items ∨ n < 1 ∨ n > nodesOf c then -1 else item * blockOf c + n

theorem nodeAt_bounds {c : Config} (h : CfgOK c) (item n : Int) (h0 : nodeAt c item n ≠ -1) : 0 ≤ nodeAt c item n ∧ nodeAt c item n < linesOf c ∧ 0 ≤ item ∧ item < c.items ∧ 1 ≤ n ∧ n ≤ nodesOf c ∧ nodeAt c item n = item * blockOf c + n := by
  unfold nodeAt at h0 ⊢
  split at h0
  · exact (h0 rfl).elim
  rename_i hc
  rw [if_neg hc]
  have h1 := mul_item h (i := item) (by omega) (by omega)
  have h2 := mul_item h (i := item + 1) (by omega) (by omega)
  have h3 : (item + 1) * blockOf c = item * blockOf c + blockOf c := by rw [Int.add_mul, Int.one_mul]
  have h4 := nodes_bounds c
  have h5 := slots_bounds h
  have h6 : blockOf c = 1 + nodesOf c + c.layers * c.width := rfl
  omega

theorem ref06_node {c : Config} (h : CfgOK c) (item n : Int) : F_ref06_Node c item n = some (nodeAt c item n) := by
  simp only [F_ref06_Node, cond_dec, C_ref06_Nodes, ref06_nodes h, C_ref06_block, ref06_block h]
  unfold nodeAt
  by_cases h1 : item < 0
  · simp [h1]
  by_cases h2 : item ≥ c.items
  · simp [h1, h2]
  by_cases h3 : n < 1
  · simp [h1, h2, h3]
  by_cases h4 : n > nodesOf c
  · simp [h1, h2, h3, h4]
  simp only [if_neg h1, if_neg h2, if_neg h3, if_neg h4, h1, h2, h3, h4, or_self]
  have h5 := mul_item h (i := item) (by omega) (by omega)
  have h6 := nodes_bounds c
  have h7 := lines_bounds h
  rw [wrap_id (n := item * blockOf c) (by omega) (by omega), wrap_id (by omega) (by omega)]
  rfl

theorem arena_node {c : Config} (h : CfgOK c) (item n : Int) : F_arena_Node c item n = some (nodeAt c item n) := by
  have h6 := nodes_bounds c
  simp only [F_arena_Node, cond_dec, C_arena_Nodes, arena_nodes h, C_arena_of, arena_of h]
  rw [wrap_id (n := 1 + nodesOf c) (by omega) (by omega)]
  unfold nodeAt
  by_cases h1 : item < 0
  · simp [h1]
  by_cases h2 : item ≥ c.items
  · simp [h1, h2]
  by_cases h3 : n < 1
  · simp [h1, h2, h3]
  by_cases h4 : n > nodesOf c
  · have h4' : n ≥ 1 + nodesOf c := by omega
    simp [h1, h2, h3, h4, h4']
  have h4' : ¬ n ≥ 1 + nodesOf c := by omega
  simp only [if_neg h1, if_neg h2, if_neg h3, if_neg h4', h1, h2, h3, h4, or_self]
  have h5 := mul_item h (i := item) (by omega) (by omega)
  have h7 := lines_bounds h
  rw [wrap_id (n := item * blockOf c) (by omega) (by omega), wrap_id (by omega) (by omega)]
  rfl

/-! Words. -/
theorem code_first {t : Int} (h0 : -1 ≤ t) (h1 : t ≤ 1000) : F_code_First t = some (8 * (t + 1) + 1) := by
  simp only [F_code_First, C_code_said_word, F_code_said_word]
  rw [wrap_id (n := t + 1) (by omega) (by omega), wrap_id (n := 8 * (t + 1)) (by omega) (by omega), wrap_id (by omega) (by omega)]
theorem code_joined {t : Int} (h0 : -1 ≤ t) (h1 : t ≤ 1000) : F_code_Joined t = some (8 * (t + 1) + 2) := by
  simp only [F_code_Joined, C_code_said_word, F_code_said_word]
  rw [wrap_id (n := t + 1) (by omega) (by omega), wrap_id (n := 8 * (t + 1)) (by omega) (by omega), wrap_id (by omega) (by omega)]
/-- What kind of word that is. -/
def kindOf (w : Int) : Int :=
  if w = 0 then 0 else if w = 5 then 5
  else if 1 ≤ w % 8 ∧ w % 8 ≤ 3 ∧ 0 ≤ w / 8 - 1 ∧ w / 8 - 1 < 16 then w % 8
  else if w % 8 = 4 ∧ 0 ≤ (w / 8 - 1) / 16 ∧ (w / 8 - 1) / 16 < 4 ∧ 1 ≤ (w / 8 - 1) % 16 ∧ (w / 8 - 1) % 16 ≤ 3 then 4 else -1

theorem and_mod (w : Int) (k : Nat) (hk : k ≤ 64) : ((BitVec.ofInt 64 w &&& BitVec.ofInt 64 (2 ^ k - 1)).toNat : Int) = w % (2 ^ k) := by
  have h1 : (BitVec.ofInt 64 ((2 : Int) ^ k - 1)).toNat = 2 ^ k - 1 := by
    rw [BitVec.toNat_ofInt]
    have hp : (1 : Nat) ≤ 2 ^ k := Nat.one_le_two_pow
    have hq : 2 ^ k ≤ 2 ^ 64 := Nat.pow_le_pow_right (by omega) hk
    have e : ((2 : Int) ^ k - 1) = ((2 ^ k - 1 : Nat) : Int) := by
      rw [Int.natCast_sub hp]
      simp
    rw [e]
    have : ((2 ^ k - 1 : Nat) : Int) % ((2 ^ 64 : Nat) : Int) = ((2 ^ k - 1 : Nat) : Int) := by
      rw [← Int.natCast_emod, Nat.mod_eq_of_lt (by omega)]
    rw [this]
    rfl
  rw [BitVec.toNat_and, h1, Nat.and_two_pow_sub_one_eq_mod, BitVec.toNat_ofInt, Int.natCast_emod]
  have h2 : 0 ≤ w % ((2 ^ 64 : Nat) : Int) := Int.emod_nonneg _ (by decide)
  rw [Int.toNat_of_nonneg h2]
  have h3 : ((2 ^ k : Nat) : Int) ∣ ((2 ^ 64 : Nat) : Int) := by
    exact Int.natCast_dvd_natCast.2 (Nat.pow_dvd_pow 2 hk)
  rw [Int.emod_emod_of_dvd _ h3]
  simp

theorem and7 (w : Int) : ((BitVec.ofInt IntKind.i64.bits w &&& BitVec.ofInt IntKind.i64.bits (7 : Int)).toNat : Int) = w % 8 := by
  have := and_mod w 3 (by omega)
  exact this
theorem and15 (w : Int) : ((BitVec.ofInt IntKind.i64.bits w &&& BitVec.ofInt IntKind.i64.bits (15 : Int)).toNat : Int) = w % 16 := by
  have := and_mod w 4 (by omega)
  exact this

theorem shr3 (w : Int) : w.fdiv ((2 : Int) ^ min (Int.toNat (3 : Int)) IntKind.i64.bits) = w / 8 := by
  rw [show ((2 : Int) ^ min (Int.toNat (3 : Int)) IntKind.i64.bits) = 8 from rfl, Int.fdiv_eq_ediv_of_nonneg _ (by omega)]
theorem shr4 (w : Int) : w.fdiv ((2 : Int) ^ min (Int.toNat (4 : Int)) IntKind.i64.bits) = w / 16 := by
  rw [show ((2 : Int) ^ min (Int.toNat (4 : Int)) IntKind.i64.bits) = 16 from rfl, Int.fdiv_eq_ediv_of_nonneg _ (by omega)]
theorem shr1 (w : Int) : w.fdiv ((2 : Int) ^ min (Int.toNat (1 : Int)) IntKind.i64.bits) = w / 2 := by
  rw [show ((2 : Int) ^ min (Int.toNat (1 : Int)) IntKind.i64.bits) = 2 from rfl, Int.fdiv_eq_ediv_of_nonneg _ (by omega)]

/-- What a word says. -/
def saidOf (w : Int) : Said :=
  if w % 8 = 5 ∧ w / 8 - 1 = -1 then ⟨5, -1⟩
  else if 1 ≤ w % 8 ∧ w % 8 ≤ 3 ∧ 0 ≤ w / 8 - 1 ∧ w / 8 - 1 < 16 then ⟨w % 8, w / 8 - 1⟩
  else if w % 8 = 4 ∧ 0 ≤ (w / 8 - 1) / 16 ∧ (w / 8 - 1) / 16 < 4 ∧ 1 ≤ (w / 8 - 1) % 16 ∧ (w / 8 - 1) % 16 ≤ 3 then ⟨w % 8, w / 8 - 1⟩ else ⟨0, 0⟩

theorem code_of {w : Int} (h0 : -9223372036854775808 ≤ w) (h1 : w ≤ 9223372036854775807) : F_code_of w = some (saidOf w) := by
  simp only [F_code_of, and7, shr3]
  rw [wrap_id (n := w % 8) (by omega) (by omega), wrap_id (n := w / 8 - 1) (by omega) (by omega)]
  simp only [and15, shr4]
  rw [wrap_id (n := (w / 8 - 1) % 16) (by omega) (by omega)]
  unfold saidOf
  by_cases e5 : w % 8 = 5 ∧ w / 8 - 1 = -1
  · simp [e5]
  rw [if_neg e5]
  have e5' : (w % 8 == 5 && (w / 8 - 1 == -1 && true)) = false := by
    simp only [Bool.and_true, Bool.and_eq_false_imp, beq_iff_eq, beq_eq_false_iff_ne]
    intro a b
    exact e5 ⟨a, b⟩
  rw [e5', cond_false]
  simp only [cond_dec, ge_iff_le]
  have hb : ∀ (α : Type) (x y : α), (bif w % 8 == 4 then x else y) = if w % 8 = 4 then x else y := by
    intro α x y
    by_cases h : w % 8 = 4
    · simp [h]
    · rw [if_neg h, show (w % 8 == 4) = false by simpa using h]
      rfl
  simp only [hb]
  repeat' split
  all_goals first | rfl | (exfalso; omega)

theorem code_kind {w : Int} (h0 : -9223372036854775808 ≤ w) (h1 : w ≤ 9223372036854775807) : F_code_Kind w = some (kindOf w) := by
  simp only [F_code_Kind, C_code_of, code_of h0 h1]
  unfold kindOf saidOf
  by_cases e0 : w = 0
  · subst e0; rfl
  have e0' : (w == 0) = false := by simpa using e0
  rw [e0', cond_false, if_neg e0]
  by_cases e5 : w = 5
  · subst e5; rfl
  rw [if_neg e5, if_neg (by omega)]
  by_cases e1 : 1 ≤ w % 8 ∧ w % 8 ≤ 3 ∧ 0 ≤ w / 8 - 1 ∧ w / 8 - 1 < 16
  · rw [if_pos e1, if_pos e1]
    have : (w % 8 == 0) = false := by simp; omega
    simp only [this, Bool.false_and, Bool.not_false, cond_true]
  rw [if_neg e1, if_neg e1]
  by_cases e4 : w % 8 = 4 ∧ 0 ≤ (w / 8 - 1) / 16 ∧ (w / 8 - 1) / 16 < 4 ∧ 1 ≤ (w / 8 - 1) % 16 ∧ (w / 8 - 1) % 16 ≤ 3
  · rw [if_pos e4, if_pos e4, e4.1]
    rfl
  · rw [if_neg e4, if_neg e4]
    rfl

end Go.Proofs.Mill
