/- Configs, places, words. -/
import Derived.Test.YtecgogmolkjhjaaGreatMillPTurn
set_option linter.all false
namespace Go.Proofs.Mill

/-- A config that may be. -/
structure CfgOK (c : Config) : Prop where
  threads : 1 ≤ c.threads ∧ c.threads ≤ 16
  items : 1 ≤ c.items ∧ c.items ≤ 4
  backend : 1 ≤ c.backend ∧ c.backend ≤ 3
  depth : 0 ≤ c.depth ∧ c.depth ≤ 4
  layers : 0 ≤ c.layers ∧ c.layers ≤ 3
  width : 1 ≤ c.width ∧ c.width ≤ 8
  spin : 0 ≤ c.spin ∧ c.spin ≤ 20
  wait : 0 ≤ c.wait ∧ c.wait ≤ 1000
  bounds : c.bounded = true → c.lo ≤ c.init ∧ c.init ≤ c.hi

theorem check_some (c : Config) : ∃ e, F_ref05_Check c = some e ∧ (e = 0 ↔ CfgOK c) := by
  unfold F_ref05_Check
  simp only [cond_dec]
  by_cases h0 : c.threads < 1
  · exact ⟨50, by rw [if_pos h0], by simp, fun h => by have := h.threads; omega⟩
  rw [if_neg h0]
  by_cases h1 : c.threads > 16
  · exact ⟨50, by rw [if_pos h1], by simp, fun h => by have := h.threads; omega⟩
  rw [if_neg h1]
  by_cases h2 : c.items < 1
  · exact ⟨51, by rw [if_pos h2], by simp, fun h => by have := h.items; omega⟩
  rw [if_neg h2]
  by_cases h3 : c.items > 4
  · exact ⟨51, by rw [if_pos h3], by simp, fun h => by have := h.items; omega⟩
  rw [if_neg h3]
  by_cases h4 : c.backend < 1
  · exact ⟨52, by rw [if_pos h4], by simp, fun h => by have := h.backend; omega⟩
  rw [if_neg h4]
  by_cases h5 : c.backend > 3
  · exact ⟨52, by rw [if_pos h5], by simp, fun h => by have := h.backend; omega⟩
  rw [if_neg h5]
  by_cases h6 : c.depth < 0
  · exact ⟨53, by rw [if_pos h6], by simp, fun h => by have := h.depth; omega⟩
  rw [if_neg h6]
  by_cases h7 : c.depth > 4
  · exact ⟨53, by rw [if_pos h7], by simp, fun h => by have := h.depth; omega⟩
  rw [if_neg h7]
  by_cases h8 : c.layers < 0
  · exact ⟨54, by rw [if_pos h8], by simp, fun h => by have := h.layers; omega⟩
  rw [if_neg h8]
  by_cases h9 : c.layers > 3
  · exact ⟨54, by rw [if_pos h9], by simp, fun h => by have := h.layers; omega⟩
  rw [if_neg h9]
  by_cases h10 : c.width < 1
  · exact ⟨55, by rw [if_pos h10], by simp, fun h => by have := h.width; omega⟩
  rw [if_neg h10]
  by_cases h11 : c.width > 8
  · exact ⟨55, by rw [if_pos h11], by simp, fun h => by have := h.width; omega⟩
  rw [if_neg h11]
  by_cases h12 : c.spin < 0
  · exact ⟨56, by rw [if_pos h12], by simp, fun h => by have := h.spin; omega⟩
  rw [if_neg h12]
  by_cases h13 : c.spin > 20
  · exact ⟨56, by rw [if_pos h13], by simp, fun h => by have := h.spin; omega⟩
  rw [if_neg h13]
  by_cases h14 : c.wait < 0
  · exact ⟨57, by rw [if_pos h14], by simp, fun h => by have := h.wait; omega⟩
  rw [if_neg h14]
  by_cases h15 : c.wait > 1000
  · exact ⟨57, by rw [if_pos h15], by simp, fun h => by have := h.wait; omega⟩
  rw [if_neg h15]
  cases hb : c.bounded with
  | false => exact ⟨0, rfl, fun _ => ⟨by omega, by omega, by omega, by omega, by omega, by omega, by omega, by omega, fun h => by rw [hb] at h; cases h⟩, fun _ => rfl⟩
  | true =>
    simp only [cond_true]
    by_cases k1 : c.lo > c.init
    · exact ⟨58, by rw [if_pos k1], by simp, fun h => by have := h.bounds hb; omega⟩
    rw [if_neg k1]
    by_cases k2 : c.init > c.hi
    · exact ⟨58, by rw [if_pos k2], by simp, fun h => by have := h.bounds hb; omega⟩
    rw [if_neg k2]
    exact ⟨0, rfl, fun _ => ⟨by omega, by omega, by omega, by omega, by omega, by omega, by omega, by omega, fun _ => by omega⟩, fun _ => rfl⟩

/-- The nodes of an item's tree; an item's block; the words of a memory. -/
def nodesOf (c : Config) : Int := if c.depth = 0 then 0 else if c.depth = 1 then 1 else if c.depth = 2 then 3 else if c.depth = 3 then 7 else 15
def blockOf (c : Config) : Int := 1 + nodesOf c + c.layers * c.width
def linesOf (c : Config) : Int := c.items * blockOf c
def sizeOf (c : Config) : Int := linesOf c + 2 * c.threads

theorem depths {c : Config} (h : CfgOK c) : c.depth = 0 ∨ c.depth = 1 ∨ c.depth = 2 ∨ c.depth = 3 ∨ c.depth = 4 := by have := h.depth; omega

theorem nodes_bounds (c : Config) : 0 ≤ nodesOf c ∧ nodesOf c ≤ 15 := by
  unfold nodesOf
  repeat' split
  all_goals omega

theorem slots_bounds {c : Config} (h : CfgOK c) : 0 ≤ c.layers * c.width ∧ c.layers * c.width ≤ 24 := by
  have h1 := h.layers
  have h2 := h.width
  have : c.layers = 0 ∨ c.layers = 1 ∨ c.layers = 2 ∨ c.layers = 3 := by omega
  rcases this with e | e | e | e <;> rw [e] <;> omega

theorem block_bounds {c : Config} (h : CfgOK c) : 1 ≤ blockOf c ∧ blockOf c ≤ 40 := by
  have h1 := slots_bounds h
  have h2 := nodes_bounds c
  unfold blockOf
  omega

theorem mul_item {c : Config} (h : CfgOK c) {i : Int} (h0 : 0 ≤ i) (h1 : i ≤ c.items) : 0 ≤ i * blockOf c ∧ i * blockOf c ≤ linesOf c := by
  have hb := block_bounds h
  refine ⟨Int.mul_nonneg h0 (by omega), Int.mul_le_mul_of_nonneg_right h1 (by omega)⟩

theorem lines_bounds {c : Config} (h : CfgOK c) : 1 ≤ linesOf c ∧ linesOf c ≤ 160 := by
  have hb := block_bounds h
  have h1 := h.items
  unfold linesOf
  have : c.items = 1 ∨ c.items = 2 ∨ c.items = 3 ∨ c.items = 4 := by omega
  rcases this with e | e | e | e <;> rw [e] <;> omega

theorem ref06_nodes {c : Config} (h : CfgOK c) : F_ref06_Nodes c = some (nodesOf c) := by
  have hd := h.depth
  have hw : W_ref06_Nodes_3 (c, 1, 0) = some (nodesOf c + 1) := by
    have hn : nodesOf c + 1 = 2 ^ c.depth.toNat := by
      unfold nodesOf
      rcases depths h with e | e | e | e | e <;> rw [e] <;> decide
    refine whileM_for (fun i => (c, (2 : Int) ^ i, (i : Int))) c.depth.toNat (fun i hi => ?_) ?_
    · have h1 : (i : Int) < c.depth := by omega
      have h2 : i = 0 ∨ i = 1 ∨ i = 2 ∨ i = 3 := by omega
      simp only [T_ref06_Nodes_3, S_ref06_Nodes_3, cond_dec, if_pos h1]
      rcases h2 with rfl | rfl | rfl | rfl <;> rfl
    · have h1 : ¬ ((c.depth.toNat : Int) < c.depth) := by omega
      simp only [T_ref06_Nodes_3, S_ref06_Nodes_3, cond_dec, if_neg h1, hn]
  have hb := nodes_bounds c
  simp only [F_ref06_Nodes, hw]
  rw [wrap_id (by omega) (by omega), Int.add_sub_cancel]

theorem ref06_block {c : Config} (h : CfgOK c) : F_ref06_block c = some (blockOf c) := by
  have h1 := slots_bounds h
  have h2 := nodes_bounds c
  simp only [F_ref06_block, C_ref06_Nodes, ref06_nodes h]
  rw [wrap_id (n := 1 + nodesOf c) (by omega) (by omega), wrap_id (n := c.layers * c.width) (by omega) (by omega), wrap_id (by omega) (by omega)]
  rfl

theorem ref06_size {c : Config} (h : CfgOK c) : F_ref06_Size c = some (sizeOf c) := by
  have h1 := lines_bounds h
  have h2 := h.threads
  simp only [F_ref06_Size, C_ref06_block, ref06_block h]
  rw [show c.items * blockOf c = linesOf c from rfl, wrap_id (n := linesOf c) (by omega) (by omega), wrap_id (n := 2 * c.threads) (by omega) (by omega), wrap_id (by omega) (by omega)]
  rfl

theorem arena_nodes {c : Config} (h : CfgOK c) : F_arena_Nodes c = some (nodesOf c) := by
  unfold F_arena_Nodes nodesOf
  rcases depths h with e | e | e | e | e <;> rw [e] <;> rfl

theorem arena_of {c : Config} (h : CfgOK c) : F_arena_of c = some ⟨1, 1 + nodesOf c, blockOf c, linesOf c⟩ := by
  have h1 := slots_bounds h
  have h2 := nodes_bounds c
  have h3 := block_bounds h
  have h4 := lines_bounds h
  simp only [F_arena_of, C_arena_Nodes, arena_nodes h]
  rw [wrap_id (n := 1 + nodesOf c) (by omega) (by omega), wrap_id (n := c.layers * c.width) (by omega) (by omega), wrap_id (n := 1 + nodesOf c + c.layers * c.width) (by omega) (by omega),
    show c.items * (1 + nodesOf c + c.layers * c.width) = linesOf c from rfl, wrap_id (n := linesOf c) (by omega) (by omega)]
  rfl

/-- The place of a node; -1: there is none. -/
def nodeAt (c : Config) (item n : Int) : Int := if item < 0 ∨ item ≥ c.items ∨ n < 1 ∨ n > nodesOf c then -1 else item * blockOf c + n

theorem nodeAt_bounds {c : Config} (h : CfgOK c) (item n : Int) (h0 : nodeAt c item n ≠ -1) : 0 ≤ nodeAt c item n ∧ nodeAt c item n < linesOf c ∧ 0 ≤ item ∧ item < c.items ∧ 1 ≤ n ∧ n ≤ nodesOf c ∧ nodeAt c item n = item * blockOf c + n := by
  unfold nodeAt at h0 ⊢
  split at h0
  · exact (h0 rfl).elim
  rename_i hc
  rw [if_neg hc]
  have h1 := mul_item h (i := item) (by omega) (by omega)
  have h2 := mul_item h (i := item + 1) (by omega) (by omega)
  have h3 : (item + 1) * blockOf c = item * blockOf c + blockOf c := by rw [Int.add_mul, Int.one_mul]
  have h4 := nodes_bounds c
  have h5 := slots_bounds h
  have h6 : blockOf c = 1 + nodesOf c + c.layers * c.width := rfl
  omega

theorem ref06_node {c : Config} (h : CfgOK c) (item n : Int) : F_ref06_Node c item n = some (nodeAt c item n) := by
  simp only [F_ref06_Node, cond_dec, C_ref06_Nodes, ref06_nodes h, C_ref06_block, ref06_block h]
  unfold nodeAt
  by_cases h1 : item < 0
  · simp [h1]
  by_cases h2 : item ≥ c.items
  · simp [h1, h2]
  by_cases h3 : n < 1
  · simp [h1, h2, h3]
  by_cases h4 : n > nodesOf c
  · simp [h1, h2, h3, h4]
  simp only [if_neg h1, if_neg h2, if_neg h3, if_neg h4, h1, h2, h3, h4, or_self]
  have h5 := mul_item h (i := item) (by omega) (by omega)
  have h6 := nodes_bounds c
  have h7 := lines_bounds h
  rw [wrap_id (n := item * blockOf c) (by omega) (by omega), wrap_id (by omega) (by omega)]
  rfl

theorem arena_node {c : Config} (h : CfgOK c) (item n : Int) : F_arena_Node c item n = some (nodeAt c item n) := by
  have h6 := nodes_bounds c
  simp only [F_arena_Node, cond_dec, C_arena_Nodes, arena_nodes h, C_arena_of, arena_of h]
  rw [wrap_id (n := 1 + nodesOf c) (by omega) (by omega)]
  unfold nodeAt
  by_cases h1 : item < 0
  · simp [h1]
  by_cases h2 : item ≥ c.items
  · simp [h1, h2]
  by_cases h3 : n < 1
  · simp [h1, h2, h3]
  by_cases h4 : n > nodesOf c
  · have h4' : n ≥ 1 + nodesOf c := by omega
    simp [h1, h2, h3, h4, h4']
  have h4' : ¬ n ≥ 1 + nodesOf c := by omega
  simp only [if_neg h1, if_neg h2, if_neg h3, if_neg h4', h1, h2, h3, h4, or_self]
  have h5 := mul_item h (i := item) (by omega) (by omega)
  have h7 := lines_bounds h
  rw [wrap_id (n := item * blockOf c) (by omega) (by omega), wrap_id (by omega) (by omega)]
  rfl

/-! Words. -/
theorem code_first {t : Int} (h0 : -1 ≤ t) (h1 : t ≤ 1000) : F_code_First t = some (8 * (t + 1) + 1) := by
  simp only [F_code_First, C_code_said_word, F_code_said_word]
  rw [wrap_id (n := t + 1) (by omega) (by omega), wrap_id (n := 8 * (t + 1)) (by omega) (by omega), wrap_id (by omega) (by omega)]
theorem code_joined {t : Int} (h0 : -1 ≤ t) (h1 : t ≤ 1000) : F_code_Joined t = some (8 * (t + 1) + 2) := by
  simp only [F_code_Joined, C_code_said_word, F_code_said_word]
  rw [wrap_id (n := t + 1) (by omega) (by omega), wrap_id (n := 8 * (t + 1)) (by omega) (by omega), wrap_id (by omega) (by omega)]
theorem ref08_first {t : Int} (h0 : -1 ≤ t) (h1 : t ≤ 1000) : F_ref08_First t = some (8 * (t + 1) + 1) := by
  simp only [F_ref08_First]
  rw [wrap_id (n := t + 1) (by omega) (by omega), wrap_id (n := 8 * (t + 1)) (by omega) (by omega), wrap_id (by omega) (by omega)]
theorem ref08_joined {t : Int} (h0 : -1 ≤ t) (h1 : t ≤ 1000) : F_ref08_Joined t = some (8 * (t + 1) + 2) := by
  simp only [F_ref08_Joined]
  rw [wrap_id (n := t + 1) (by omega) (by omega), wrap_id (n := 8 * (t + 1)) (by omega) (by omega), wrap_id (by omega) (by omega)]
theorem ref08_deposited {t : Int} (h0 : -1 ≤ t) (h1 : t ≤ 1000) : F_ref08_Deposited t = some (8 * (t + 1) + 3) := by
  simp only [F_ref08_Deposited]
  rw [wrap_id (n := t + 1) (by omega) (by omega), wrap_id (n := 8 * (t + 1)) (by omega) (by omega), wrap_id (by omega) (by omega)]
theorem ref08_open {i l : Int} (h0 : 0 ≤ i) (h1 : i ≤ 1000) (h2 : 0 ≤ l) (h3 : l ≤ 1000) : F_ref08_Open i l = some (8 * (16 * i + l + 1) + 4) := by
  simp only [F_ref08_Open]
  rw [wrap_id (n := 16 * i) (by omega) (by omega), wrap_id (n := 16 * i + l) (by omega) (by omega), wrap_id (n := 16 * i + l + 1) (by omega) (by omega), wrap_id (n := 8 * (16 * i + l + 1)) (by omega) (by omega), wrap_id (by omega) (by omega)]

/-- What kind of word that is. -/
def kindOf (w : Int) : Int :=
  if w = 0 then 0 else if w = 5 then 5
  else if 1 ≤ w % 8 ∧ w % 8 ≤ 3 ∧ 0 ≤ w / 8 - 1 ∧ w / 8 - 1 < 16 then w % 8
  else if w % 8 = 4 ∧ 0 ≤ (w / 8 - 1) / 16 ∧ (w / 8 - 1) / 16 < 4 ∧ 1 ≤ (w / 8 - 1) % 16 ∧ (w / 8 - 1) % 16 ≤ 3 then 4 else -1

theorem and_mod (w : Int) (k : Nat) (hk : k ≤ 64) : ((BitVec.ofInt 64 w &&& BitVec.ofInt 64 (2 ^ k - 1)).toNat : Int) = w % (2 ^ k) := by
  have h1 : (BitVec.ofInt 64 ((2 : Int) ^ k - 1)).toNat = 2 ^ k - 1 := by
    rw [BitVec.toNat_ofInt]
    have hp : (1 : Nat) ≤ 2 ^ k := Nat.one_le_two_pow
    have hq : 2 ^ k ≤ 2 ^ 64 := Nat.pow_le_pow_right (by omega) hk
    have e : ((2 : Int) ^ k - 1) = ((2 ^ k - 1 : Nat) : Int) := by
      rw [Int.natCast_sub hp]
      simp
    rw [e]
    have : ((2 ^ k - 1 : Nat) : Int) % ((2 ^ 64 : Nat) : Int) = ((2 ^ k - 1 : Nat) : Int) := by
      rw [← Int.natCast_emod, Nat.mod_eq_of_lt (by omega)]
    rw [this]
    rfl
  rw [BitVec.toNat_and, h1, Nat.and_two_pow_sub_one_eq_mod, BitVec.toNat_ofInt, Int.natCast_emod]
  have h2 : 0 ≤ w % ((2 ^ 64 : Nat) : Int) := Int.emod_nonneg _ (by decide)
  rw [Int.toNat_of_nonneg h2]
  have h3 : ((2 ^ k : Nat) : Int) ∣ ((2 ^ 64 : Nat) : Int) := by
    exact Int.natCast_dvd_natCast.2 (Nat.pow_dvd_pow 2 hk)
  rw [Int.emod_emod_of_dvd _ h3]
  simp

theorem and7 (w : Int) : ((BitVec.ofInt IntKind.i64.bits w &&& BitVec.ofInt IntKind.i64.bits (7 : Int)).toNat : Int) = w % 8 := by
  have := and_mod w 3 (by omega)
  exact this
theorem and15 (w : Int) : ((BitVec.ofInt IntKind.i64.bits w &&& BitVec.ofInt IntKind.i64.bits (15 : Int)).toNat : Int) = w % 16 := by
  have := and_mod w 4 (by omega)
  exact this

theorem shr3 (w : Int) : w.fdiv ((2 : Int) ^ min (Int.toNat (3 : Int)) IntKind.i64.bits) = w / 8 := by
  rw [show ((2 : Int) ^ min (Int.toNat (3 : Int)) IntKind.i64.bits) = 8 from rfl, Int.fdiv_eq_ediv_of_nonneg _ (by omega)]
theorem shr4 (w : Int) : w.fdiv ((2 : Int) ^ min (Int.toNat (4 : Int)) IntKind.i64.bits) = w / 16 := by
  rw [show ((2 : Int) ^ min (Int.toNat (4 : Int)) IntKind.i64.bits) = 16 from rfl, Int.fdiv_eq_ediv_of_nonneg _ (by omega)]
theorem shr1 (w : Int) : w.fdiv ((2 : Int) ^ min (Int.toNat (1 : Int)) IntKind.i64.bits) = w / 2 := by
  rw [show ((2 : Int) ^ min (Int.toNat (1 : Int)) IntKind.i64.bits) = 2 from rfl, Int.fdiv_eq_ediv_of_nonneg _ (by omega)]

/-- What a word says. -/
def saidOf (w : Int) : Said :=
  if w % 8 = 5 ∧ w / 8 - 1 = -1 then ⟨5, -1⟩
  else if 1 ≤ w % 8 ∧ w % 8 ≤ 3 ∧ 0 ≤ w / 8 - 1 ∧ w / 8 - 1 < 16 then ⟨w % 8, w / 8 - 1⟩
  else if w % 8 = 4 ∧ 0 ≤ (w / 8 - 1) / 16 ∧ (w / 8 - 1) / 16 < 4 ∧ 1 ≤ (w / 8 - 1) % 16 ∧ (w / 8 - 1) % 16 ≤ 3 then ⟨w % 8, w / 8 - 1⟩ else ⟨0, 0⟩

theorem code_of {w : Int} (h0 : -9223372036854775808 ≤ w) (h1 : w ≤ 9223372036854775807) : F_code_of w = some (saidOf w) := by
  simp only [F_code_of, and7, shr3]
  rw [wrap_id (n := w % 8) (by omega) (by omega), wrap_id (n := w / 8 - 1) (by omega) (by omega)]
  simp only [and15, shr4]
  rw [wrap_id (n := (w / 8 - 1) % 16) (by omega) (by omega)]
  unfold saidOf
  by_cases e5 : w % 8 = 5 ∧ w / 8 - 1 = -1
  · simp [e5]
  rw [if_neg e5]
  have e5' : (w % 8 == 5 && (w / 8 - 1 == -1 && true)) = false := by
    simp only [Bool.and_true, Bool.and_eq_false_imp, beq_iff_eq, beq_eq_false_iff_ne]
    intro a b
    exact e5 ⟨a, b⟩
  rw [e5', cond_false]
  simp only [cond_dec, ge_iff_le]
  have hb : ∀ (α : Type) (x y : α), (bif w % 8 == 4 then x else y) = if w % 8 = 4 then x else y := by
    intro α x y
    by_cases h : w % 8 = 4
    · simp [h]
    · rw [if_neg h, show (w % 8 == 4) = false by simpa using h]
      rfl
  simp only [hb]
  repeat' split
  all_goals first | rfl | (exfalso; omega)

theorem code_kind {w : Int} (h0 : -9223372036854775808 ≤ w) (h1 : w ≤ 9223372036854775807) : F_code_Kind w = some (kindOf w) := by
  simp only [F_code_Kind, C_code_of, code_of h0 h1]
  unfold kindOf saidOf
  by_cases e0 : w = 0
  · subst e0; rfl
  have e0' : (w == 0) = false := by simpa using e0
  rw [e0', cond_false, if_neg e0]
  by_cases e5 : w = 5
  · subst e5; rfl
  rw [if_neg e5, if_neg (by omega)]
  by_cases e1 : 1 ≤ w % 8 ∧ w % 8 ≤ 3 ∧ 0 ≤ w / 8 - 1 ∧ w / 8 - 1 < 16
  · rw [if_pos e1, if_pos e1]
    have : (w % 8 == 0) = false := by simp; omega
    simp only [this, Bool.false_and, Bool.not_false, cond_true]
  rw [if_neg e1, if_neg e1]
  by_cases e4 : w % 8 = 4 ∧ 0 ≤ (w / 8 - 1) / 16 ∧ (w / 8 - 1) / 16 < 4 ∧ 1 ≤ (w / 8 - 1) % 16 ∧ (w / 8 - 1) % 16 ≤ 3
  · rw [if_pos e4, if_pos e4, e4.1]
    rfl
  · rw [if_neg e4, if_neg e4]
    rfl

theorem ref08_kind (w : Int) : F_ref08_Kind w = some (kindOf w) := by
  unfold F_ref08_Kind kindOf
  by_cases e0 : w = 0
  · subst e0; rfl
  have e0' : (w == 0) = false := by simpa using e0
  rw [e0', cond_false, if_neg e0]
  simp only [C_ref08_Told, F_ref08_Told]
  by_cases e5 : w = 5
  · subst e5; rfl
  have e5' : (w == 5) = false := by simpa using e5
  rw [e5', cond_false, if_neg e5]
  have l1 : ∀ k : Nat, k ≤ 16 → W_ref08_Kind_6 (w, 16 - (k : Int)) = some (if 1 ≤ w % 8 ∧ w % 8 ≤ 3 ∧ 16 - (k : Int) ≤ w / 8 - 1 ∧ w / 8 - 1 < 16 then .inr (w % 8) else .inl w) := by
    intro k
    induction k with
    | zero =>
      intro _
      unfold W_ref08_Kind_6
      rw [whileM_eq]
      simp only [T_ref08_Kind_6, S_ref08_Kind_6, cond_dec]
      rw [if_neg (by omega), if_neg (by omega)]
    | succ k ih =>
      intro hk
      have ih := ih (by omega)
      unfold W_ref08_Kind_6 at ih ⊢
      rw [whileM_eq]
      simp only [T_ref08_Kind_6, S_ref08_Kind_6, cond_dec, C_ref08_First, C_ref08_Joined, C_ref08_Deposited]
      rw [if_pos (by omega), ref08_first (by omega) (by omega), ref08_joined (by omega) (by omega), ref08_deposited (by omega) (by omega)]
      simp only
      by_cases a1 : w = 8 * (16 - ((k + 1 : Nat) : Int) + 1) + 1
      · have : (w == 8 * (16 - ((k + 1 : Nat) : Int) + 1) + 1) = true := by simpa using a1
        rw [this, cond_true, if_pos (by omega)]
        simp only [Option.some.injEq, Sum.inr.injEq]
        omega
      have a1' : (w == 8 * (16 - ((k + 1 : Nat) : Int) + 1) + 1) = false := by simpa using a1
      rw [a1', cond_false]
      by_cases a2 : w = 8 * (16 - ((k + 1 : Nat) : Int) + 1) + 2
      · have : (w == 8 * (16 - ((k + 1 : Nat) : Int) + 1) + 2) = true := by simpa using a2
        rw [this, cond_true, if_pos (by omega)]
        simp only [Option.some.injEq, Sum.inr.injEq]
        omega
      have a2' : (w == 8 * (16 - ((k + 1 : Nat) : Int) + 1) + 2) = false := by simpa using a2
      rw [a2', cond_false]
      by_cases a3 : w = 8 * (16 - ((k + 1 : Nat) : Int) + 1) + 3
      · have : (w == 8 * (16 - ((k + 1 : Nat) : Int) + 1) + 3) = true := by simpa using a3
        rw [this, cond_true, if_pos (by omega)]
        simp only [Option.some.injEq, Sum.inr.injEq]
        omega
      have a3' : (w == 8 * (16 - ((k + 1 : Nat) : Int) + 1) + 3) = false := by simpa using a3
      rw [a3', cond_false, wrap_id (by omega) (by omega)]
      simp only
      rw [show (16 - ((k + 1 : Nat) : Int) + 1) = 16 - (k : Int) by omega, ih]
      by_cases hc : 1 ≤ w % 8 ∧ w % 8 ≤ 3 ∧ 16 - (k : Int) ≤ w / 8 - 1 ∧ w / 8 - 1 < 16
      · rw [if_pos hc, if_pos (by omega)]
      · rw [if_neg hc, if_neg (by omega)]
  have l1 := l1 16 (by omega)
  rw [show (16 - ((16 : Nat) : Int)) = 0 from rfl] at l1
  rw [l1]
  by_cases e1 : 1 ≤ w % 8 ∧ w % 8 ≤ 3 ∧ 0 ≤ w / 8 - 1 ∧ w / 8 - 1 < 16
  · rw [if_pos e1, if_pos e1]
  rw [if_neg e1, if_neg e1]
  simp only
  have l2 : ∀ (i : Int), 0 ≤ i → i ≤ 3 → ∀ k : Nat, k ≤ 3 → W_ref08_Kind_18 (w, i, 4 - (k : Int)) = some (if w % 8 = 4 ∧ (w / 8 - 1) / 16 = i ∧ 4 - (k : Int) ≤ (w / 8 - 1) % 16 ∧ (w / 8 - 1) % 16 ≤ 3 then .inr 4 else .inl (w, i)) := by
    intro i hi0 hi1 k
    induction k with
    | zero =>
      intro _
      unfold W_ref08_Kind_18
      rw [whileM_eq]
      simp only [T_ref08_Kind_18, S_ref08_Kind_18, cond_dec]
      rw [if_neg (by omega), if_neg (by omega)]
    | succ k ih =>
      intro hk
      have ih := ih (by omega)
      unfold W_ref08_Kind_18 at ih ⊢
      rw [whileM_eq]
      simp only [T_ref08_Kind_18, S_ref08_Kind_18, cond_dec, C_ref08_Open]
      rw [if_pos (by omega), ref08_open (by omega) (by omega) (by omega) (by omega)]
      simp only
      by_cases a1 : w = 8 * (16 * i + (4 - ((k + 1 : Nat) : Int)) + 1) + 4
      · have : (w == 8 * (16 * i + (4 - ((k + 1 : Nat) : Int)) + 1) + 4) = true := by simpa using a1
        rw [this, cond_true, if_pos (by omega)]
      have a1' : (w == 8 * (16 * i + (4 - ((k + 1 : Nat) : Int)) + 1) + 4) = false := by simpa using a1
      rw [a1', cond_false, wrap_id (by omega) (by omega)]
      simp only
      rw [show (4 - ((k + 1 : Nat) : Int) + 1) = 4 - (k : Int) by omega, ih]
      by_cases hc : w % 8 = 4 ∧ (w / 8 - 1) / 16 = i ∧ 4 - (k : Int) ≤ (w / 8 - 1) % 16 ∧ (w / 8 - 1) % 16 ≤ 3
      · rw [if_pos hc, if_pos (by omega)]
      · rw [if_neg hc, if_neg (by omega)]
  have l3 : ∀ k : Nat, k ≤ 4 → W_ref08_Kind_15 (w, 4 - (k : Int)) = some (if w % 8 = 4 ∧ 4 - (k : Int) ≤ (w / 8 - 1) / 16 ∧ (w / 8 - 1) / 16 < 4 ∧ 1 ≤ (w / 8 - 1) % 16 ∧ (w / 8 - 1) % 16 ≤ 3 then .inr 4 else .inl ()) := by
    intro k
    induction k with
    | zero =>
      intro _
      unfold W_ref08_Kind_15
      rw [whileM_eq]
      simp only [T_ref08_Kind_15, S_ref08_Kind_15, cond_dec]
      rw [if_neg (by omega), if_neg (by omega)]
    | succ k ih =>
      intro hk
      have ih := ih (by omega)
      unfold W_ref08_Kind_15 at ih ⊢
      rw [whileM_eq]
      simp only [T_ref08_Kind_15, S_ref08_Kind_15, cond_dec]
      have h2 := l2 (4 - ((k + 1 : Nat) : Int)) (by omega) (by omega) 3 (by omega)
      rw [show (4 - ((3 : Nat) : Int)) = 1 from rfl] at h2
      rw [if_pos (by omega), h2]
      by_cases hc : w % 8 = 4 ∧ (w / 8 - 1) / 16 = 4 - ((k + 1 : Nat) : Int) ∧ 1 ≤ (w / 8 - 1) % 16 ∧ (w / 8 - 1) % 16 ≤ 3
      · rw [if_pos hc, if_pos (by omega)]
      · rw [if_neg hc]
        simp only
        rw [wrap_id (by omega) (by omega), show (4 - ((k + 1 : Nat) : Int) + 1) = 4 - (k : Int) by omega, ih]
        by_cases hd : w % 8 = 4 ∧ 4 - (k : Int) ≤ (w / 8 - 1) / 16 ∧ (w / 8 - 1) / 16 < 4 ∧ 1 ≤ (w / 8 - 1) % 16 ∧ (w / 8 - 1) % 16 ≤ 3
        · rw [if_pos hd, if_pos (by omega)]
        · rw [if_neg hd, if_neg (by omega)]
  have l3 := l3 4 (by omega)
  rw [show (4 - ((4 : Nat) : Int)) = 0 from rfl] at l3
  rw [l3]
  by_cases e4 : w % 8 = 4 ∧ 0 ≤ (w / 8 - 1) / 16 ∧ (w / 8 - 1) / 16 < 4 ∧ 1 ≤ (w / 8 - 1) % 16 ∧ (w / 8 - 1) % 16 ≤ 3
  · rw [if_pos e4, if_pos e4]
  · rw [if_neg e4, if_neg e4]

end Go.Proofs.Mill
