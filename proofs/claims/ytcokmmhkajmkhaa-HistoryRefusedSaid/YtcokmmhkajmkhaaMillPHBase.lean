/- Configs, places, words. -/
import Derived.Test.YtcokmmhkajmkhaaMillP0
import Derived.Test.YtcokmmhkajmkhaaMillFH
import Derived.Test.YtcokmmhkajmkhaaMillAll5
set_option linter.all false
namespace Go.Proofs.Mill

/-- A config that may be. -/
structure CfgOK (c : Config) : Prop where
  threads : 1 ≤ c.threads ∧ c.threads ≤ 16
  items : 1 ≤ c.items ∧ c.items ≤ 4
  backend : 1 ≤ c.backend ∧ c.backend ≤ 3
  depth : 0 ≤ c.depth ∧ c.depth ≤ 4
  layers : 0 ≤ c.layers ∧ c.layers ≤ 3
  width : 1 ≤ c.width ∧ c.width ≤ 8
  spin : 0 ≤ c.spin ∧ c.spin ≤ 20
  wait : 0 ≤ c.wait ∧ c.wait ≤ 1000
  bounds : c.bounded = true → c.lo ≤ c.init ∧ c.init ≤ c.hi

theorem check_some (c : Config) : ∃ e, F_ref05_Check c = some e ∧ (e = 0 ↔ CfgOK c) := by
  unfold F_ref05_Check
  simp only [cond_dec]
  by_cases h0 : c.threads < 1
  · exact ⟨50, by rw [if_pos h0], by simp, fun h => by have := h.threads; omega⟩
  rw [if_neg h0]
  by_cases h1 : c.threads > 16
  · exact ⟨50, by rw [if_pos h1], by simp, fun h => by have := h.threads; omega⟩
  rw [if_neg h1]
  by_cases h2 : c.items < 1
  · exact ⟨51, by rw [if_pos h2], by simp, fun h => by have := h.items; omega⟩
  rw [if_neg h2]
  by_cases h3 : c.items > 4
  · exact ⟨51, by rw [if_pos h3], by simp, fun h => by have := h.items; omega⟩
  rw [if_neg h3]
  by_cases h4 : c.backend < 1
  · exact ⟨52, by rw [if_pos h4], by simp, fun h => by have := h.backend; omega⟩
  rw [if_neg h4]
  by_cases h5 : c.backend > 3
  · exact ⟨52, by rw [if_pos h5], by simp, fun h => by have := h.backend; omega⟩
  rw [if_neg h5]
  by_cases h6 : c.depth < 0
  · exact ⟨53, by rw [if_pos h6], by simp, fun h => by have := h.depth; omega⟩
  rw [if_neg h6]
  by_cases h7 : c.depth > 4
  · exact ⟨53, by rw [if_pos h7], by simp, fun h => by have := h.depth; omega⟩
  rw [if_neg h7]
  by_cases h8 : c.layers < 0
  · exact ⟨54, by rw [if_pos h8], by simp, fun h => by have := h.layers; omega⟩
  rw [if_neg h8]
  by_cases h9 : c.layers > 3
  · exact ⟨54, by rw [if_pos h9], by simp, fun h => by have := h.layers; omega⟩
  rw [if_neg h9]
  by_cases h10 : c.width < 1
  · exact ⟨55, by rw [if_pos h10], by simp, fun h => by have := h.width; omega⟩
  rw [if_neg h10]
  by_cases h11 : c.width > 8
  · exact ⟨55, by rw [if_pos h11], by simp, fun h => by have := h.width; omega⟩
  rw [if_neg h11]
  by_cases h12 : c.spin < 0
  · exact ⟨56, by rw [if_pos h12], by simp, fun h => by have := h.spin; omega⟩
  rw [if_neg h12]
  by_cases h13 : c.spin > 20
  · exact ⟨56, by rw [if_pos h13], by simp, fun h => by have := h.spin; omega⟩
  rw [if_neg h13]
  by_cases h14 : c.wait < 0
  · exact ⟨57, by rw [if_pos h14], by simp, fun h => by have := h.wait; omega⟩
  rw [if_neg h14]
  by_cases h15 : c.wait > 1000
  · exact ⟨57, by rw [if_pos h15], by simp, fun h => by have := h.wait; omega⟩
  rw [if_neg h15]
  cases hb : c.bounded with
  | false => exact ⟨0, rfl, fun _ => ⟨by omega, by omega, by omega, by omega, by omega, by omega, by omega, by omega, fun h => by rw [hb] at h; cases h⟩, fun _ => rfl⟩
  | true =>
    simp only [cond_true]
    by_cases k1 : c.lo > c.init
    · exact ⟨58, by rw [if_pos k1], by simp, fun h => by have := h.bounds hb; omega⟩
    rw [if_neg k1]
    by_cases k2 : c.init > c.hi
    · exact ⟨58, by rw [if_pos k2], by simp, fun h => by have := h.bounds hb; omega⟩
    rw [if_neg k2]
    exact ⟨0, rfl, fun _ => ⟨by omega, by omega, by omega, by omega, by omega, by omega, by omega, by omega, fun _ => by omega⟩, fun _ => rfl⟩

/-- The nodes of an item's tree; an item's block; the words of a memory. -/
def nodesOf (c : Config) : Int := if c.depth = 0 then 0 else if c.depth = 1 then 1 else if c.depth = 2 then 3 else if c.depth = 3 then 7 else 15
def blockOf (c : Config) : Int := 1 + nodesOf c + c.layers * c.width
def linesOf (c : Config) : Int := c.items * blockOf c
def sizeOf (c : Config) : Int := linesOf c + 2 * c.threads

theorem depths {c : Config} (h : CfgOK c) : c.depth = 0 ∨ c.depth = 1 ∨ c.depth = 2 ∨ c.depth = 3 ∨ c.depth = 4 := by have := h.depth; omega

theorem nodes_bounds (c : Config) : 0 ≤ nodesOf c ∧ nodesOf c ≤ 15 := by
  unfold nodesOf
  repeat' split
  all_goals omega

theorem slots_bounds {c : Config} (h : CfgOK c) : 0 ≤ c.layers * c.width ∧ c.layers * c.width ≤ 24 := by
  have h1 := h.layers
  have h2 := h.width
  have : c.layers = 0 ∨ c.layers = 1 ∨ c.layers = 2 ∨ c.layers = 3 := by omega
  rcases this with e | e | e | e <;> rw [e] <;> omega

theorem block_bounds {c : Config} (h : CfgOK c) : 1 ≤ blockOf c ∧ blockOf c ≤ 40 := by
  have h1 := slots_bounds h
  have h2 := nodes_bounds c
  unfold blockOf
  omega

theorem mul_item {c : Config} (h : CfgOK c) {i : Int} (h0 : 0 ≤ i) (h1 : i ≤ c.items) : 0 ≤ i * blockOf c ∧ i * blockOf c ≤ linesOf c := by
  have hb := block_bounds h
  refine ⟨Int.mul_nonneg h0 (by omega), Int.mul_le_mul_of_nonneg_right h1 (by omega)⟩

theorem lines_bounds {c : Config} (h : CfgOK c) : 1 ≤ linesOf c ∧ linesOf c ≤ 160 := by
  have hb := block_bounds h
  have h1 := h.items
  unfold linesOf
  have : c.items = 1 ∨ c.items = 2 ∨ c.items = 3 ∨ c.items = 4 := by omega
  rcases this with e | e | e | e <;> rw [e] <;> omega

theorem ref06_nodes {c : Config} (h : CfgOK c) : F_ref06_Nodes c = some (nodesOf c) := by
  have hd := h.depth
  have hw : W_ref06_Nodes_3 (c, 1, 0) = some (nodesOf c + 1) := by
    have hn : nodesOf c + 1 = 2 ^ c.depth.toNat := by
      unfold nodesOf
      rcases depths h with e | e | e | e | e <;> rw [e] <;> decide
    refine whileM_for (fun i => (c, (2 : Int) ^ i, (i : Int))) c.depth.toNat (fun i hi => ?_) ?_
    · have h1 : (i : Int) < c.depth := by omega
      have h2 : i = 0 ∨ i = 1 ∨ i = 2 ∨ i = 3 := by omega
      simp only [T_ref06_Nodes_3, S_ref06_Nodes_3, cond_dec, if_pos h1]
      rcases h2 with rfl | rfl | rfl | rfl <;> rfl
    · have h1 : ¬ ((c.depth.toNat : Int) < c.depth) := by omega
      simp only [T_ref06_Nodes_3, S_ref06_Nodes_3, cond_dec, if_neg h1, hn]
  have hb := nodes_bounds c
  simp only [F_ref06_Nodes, hw]
  rw [wrap_id (by omega) (by omega), Int.add_sub_cancel]

theorem ref06_block {c : Config} (h : CfgOK c) : F_ref06_block c = some (blockOf c) := by
  have h1 := slots_bounds h
  have h2 := nodes_bounds c
  simp only [F_ref06_block, C_ref06_Nodes, ref06_nodes h]
  rw [wrap_id (n := 1 + nodesOf c) (by omega) (by omega), wrap_id (n := c.layers * c.width) (by omega) (by omega), wrap_id (by omega) (by omega)]
  rfl

theorem arena_nodes {c : Config} (h : CfgOK c) : F_arena_Nodes c = some (nodesOf c) := by
  unfold F_arena_Nodes nodesOf
  rcases depths h with e | e | e | e | e <;> rw [e] <;> rfl

theorem arena_of {c : Config} (h : CfgOK c) : F_arena_of c = some ⟨1, 1 + nodesOf c, blockOf c, linesOf c⟩ := by
  have h1 := slots_bounds h
  have h2 := nodes_bounds c
  have h3 := block_bounds h
  have h4 := lines_bounds h
  simp only [F_arena_of, C_arena_Nodes, arena_nodes h]
  rw [wrap_id (n := 1 + nodesOf c) (by omega) (by omega), wrap_id (n := c.layers * c.width) (by omega) (by omega), wrap_id (n := 1 + nodesOf c + c.layers * c.width) (by omega) (by omega),
    show c.items * (1 + nodesOf c + c.layers * c.width) = linesOf c from rfl, wrap_id (n := linesOf c) (by omega) (by omega)]
  rfl

/-! The references have the same words (law18). -/
theorem law18_entries (l : List Entry) (h : l.length ≤ 4294967296) : F_law18_entries l = some l := by
  have hw : W_law18_entries_3 (l, [], 0) = some l := by
    refine whileM_for (fun i => (l, l.take i, (i : Int))) l.length (fun i hi => ?_) ?_
    · have h1 : (i : Int) < (l.length : Int) := by omega
      have h2 : fewB (i + 1) = true := few_true (by omega)
      have h3 : min i l.length = i := by omega
      simp only [T_law18_entries_3, S_law18_entries_3, cond_dec, if_pos h1, if_pos (Int.natCast_nonneg i), List.length_take, List.length_cons, List.length_nil, h3, h2, cond_true, Int.toNat_natCast]
      rw [take_next l _ i hi, wrap_id (by omega) (by omega)]
      rfl
    · simp [T_law18_entries_3, S_law18_entries_3]
  simp only [F_law18_entries, hw]

theorem law18_memory (m : Memo) (h : m.boxes.length ≤ 4294967296) (hb : ∀ b ∈ m.boxes, b.length ≤ 4294967296) : F_law18_memory m = some m := by
  have hw : W_law18_memory_3 (m, ⟨[], []⟩, { m with boxes := [] }, 0) = some (⟨[], []⟩, m) := by
    refine whileM_for (fun i => (m, (⟨[], []⟩ : Memo), { m with boxes := m.boxes.take i }, (i : Int))) m.boxes.length (fun i hi => ?_) ?_
    · have h1 : (i : Int) < (m.boxes.length : Int) := by omega
      have h2 : fewB (i + 1) = true := few_true (by omega)
      have h3 : min i m.boxes.length = i := by omega
      have h4 : F_law18_entries (m.boxes.getD i ([] : List Entry)) = some (m.boxes.getD i ([] : List Entry)) := by
        refine law18_entries _ (hb _ ?_)
        rw [List.getD_eq_getElem?_getD, List.getElem?_eq_getElem hi, Option.getD_some]
        exact List.getElem_mem hi
      simp only [T_law18_memory_3, S_law18_memory_3, C_law18_entries, cond_dec, if_pos h1, if_pos (Int.natCast_nonneg i), List.length_take, List.length_cons, List.length_nil, h3, h2, cond_true, Int.toNat_natCast, h4]
      rw [take_next m.boxes _ i hi, wrap_id (by omega) (by omega)]
      rfl
    · simp [T_law18_memory_3, S_law18_memory_3]
  simp only [F_law18_memory]
  rw [show (Memo.mk ([] : List Int) ([] : List (List Entry))) = ⟨[], []⟩ from rfl]
  simp only [hw]

theorem law18_fiber (t : Thread) (h : t.kids.length ≤ 4294967296) (hb : t.batch.length ≤ 4294967296) : F_law18_fiber t = some t := by
  have hw : ∀ z : Thread, W_law18_fiber_3 (t, z, { t with kids := [] }, 0) = some (z, t) := by
    intro z
    refine whileM_for (fun i => (t, z, { t with kids := t.kids.take i }, (i : Int))) t.kids.length (fun i hi => ?_) ?_
    · have h1 : (i : Int) < (t.kids.length : Int) := by omega
      have h2 : fewB (i + 1) = true := few_true (by omega)
      have h3 : min i t.kids.length = i := by omega
      simp only [T_law18_fiber_3, S_law18_fiber_3, cond_dec, if_pos h1, if_pos (Int.natCast_nonneg i), List.length_take, List.length_cons, List.length_nil, h3, h2, cond_true, Int.toNat_natCast]
      rw [take_next t.kids _ i hi, wrap_id (by omega) (by omega)]
      rfl
    · simp [T_law18_fiber_3, S_law18_fiber_3]
  simp only [F_law18_fiber, C_law18_entries, law18_entries _ hb]
  have := hw (Thread.mk (0 : Int) (0 : Int) (Op.mk (0 : Int) (0 : Int)) ([] : List Entry) ([] : List Kid) ([] : List Int) (0 : Int) (0 : Int) (0 : Int) (0 : Int) (0 : Int) (0 : Int) (0 : Int) (0 : Int) (0 : Int) (0 : Int))
  split
  · rename_i y e
    have e2 := this.symm.trans e
    obtain rfl := Option.some.inj e2
    rfl
  · rename_i e
    have e2 := this.symm.trans e
    cases e2

theorem law18_marks (l : List Mark) (h : l.length ≤ 4294967296) : F_law18_marks l = some l := by
  have hw : W_law18_marks_3 (l, [], 0) = some l := by
    refine whileM_for (fun i => (l, l.take i, (i : Int))) l.length (fun i hi => ?_) ?_
    · have h1 : (i : Int) < (l.length : Int) := by omega
      have h2 : fewB (i + 1) = true := few_true (by omega)
      have h3 : min i l.length = i := by omega
      simp only [T_law18_marks_3, S_law18_marks_3, cond_dec, if_pos h1, if_pos (Int.natCast_nonneg i), List.length_take, List.length_cons, List.length_nil, h3, h2, cond_true, Int.toNat_natCast]
      rw [take_next l _ i hi, wrap_id (by omega) (by omega)]
      rfl
    · simp [T_law18_marks_3, S_law18_marks_3]
  simp only [F_law18_marks, hw]

/-- Numbers of 64 bits. -/
def Num (n : Int) : Prop := -9223372036854775808 ≤ n ∧ n ≤ 9223372036854775807

end Go.Proofs.Mill
