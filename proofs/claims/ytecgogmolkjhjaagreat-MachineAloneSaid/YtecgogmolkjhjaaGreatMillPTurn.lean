/- Turns, and whether two of them are alike. -/
import Derived.Test.YtecgogmolkjhjaaGreatMillP0
import Derived.Test.YtecgogmolkjhjaaGreatMillFB
set_option linter.all false
namespace Go.Proofs.Mill

/-- No list of a turn is longer. -/
structure Sm (n : Nat) (u : Turn) : Prop where
  words : u.m.words.length ≤ n
  boxes : u.m.boxes.length ≤ n
  box : ∀ b ∈ u.m.boxes, b.length ≤ n
  batch : u.th.batch.length ≤ n
  kids : u.th.kids.length ≤ n
  held : u.th.held.length ≤ n
  tape : u.tape.l.length ≤ n
  log : u.log.length ≤ n

/-! its: a turn as the references have it is the same turn (law16). -/
theorem law16_entries (l : List Entry) (h : l.length ≤ 4294967296) : F_law16_entries l = some l := by
  have hw : W_law16_entries_3 (l, [], 0) = some l := by
    refine whileM_for (fun i => (l, l.take i, (i : Int))) l.length (fun i hi => ?_) ?_
    · have h1 : (i : Int) < (l.length : Int) := by omega
      have h2 : fewB (i + 1) = true := few_true (by omega)
      have h3 : min i l.length = i := by omega
      simp only [T_law16_entries_3, S_law16_entries_3, cond_dec, if_pos h1, if_pos (Int.natCast_nonneg i), List.length_take, List.length_cons, List.length_nil, h3, h2, cond_true, Int.toNat_natCast]
      rw [take_next l _ i hi, wrap_id (by omega) (by omega)]
      rfl
    · simp [T_law16_entries_3, S_law16_entries_3]
  simp only [F_law16_entries, hw]

theorem law16_memory (m : Memo) (h : m.boxes.length ≤ 4294967296) (hb : ∀ b ∈ m.boxes, b.length ≤ 4294967296) : F_law16_memory m = some m := by
  have hw : W_law16_memory_3 (m, ⟨[], []⟩, { m with boxes := [] }, 0) = some (⟨[], []⟩, m) := by
    refine whileM_for (fun i => (m, (⟨[], []⟩ : Memo), { m with boxes := m.boxes.take i }, (i : Int))) m.boxes.length (fun i hi => ?_) ?_
    · have h1 : (i : Int) < (m.boxes.length : Int) := by omega
      have h2 : fewB (i + 1) = true := few_true (by omega)
      have h3 : min i m.boxes.length = i := by omega
      have h4 : F_law16_entries (m.boxes.getD i ([] : List Entry)) = some (m.boxes.getD i ([] : List Entry)) := by
        refine law16_entries _ (hb _ ?_)
        rw [List.getD_eq_getElem?_getD, List.getElem?_eq_getElem hi, Option.getD_some]
        exact List.getElem_mem hi
      simp only [T_law16_memory_3, S_law16_memory_3, C_law16_entries, cond_dec, if_pos h1, if_pos (Int.natCast_nonneg i), List.length_take, List.length_cons, List.length_nil, h3, h2, cond_true, Int.toNat_natCast, h4]
      rw [take_next m.boxes _ i hi, wrap_id (by omega) (by omega)]
      rfl
    · simp [T_law16_memory_3, S_law16_memory_3]
  simp only [F_law16_memory]
  rw [show (Memo.mk ([] : List Int) ([] : List (List Entry))) = ⟨[], []⟩ from rfl]
  simp only [hw]

theorem law16_fiber (t : Thread) (h : t.kids.length ≤ 4294967296) (hb : t.batch.length ≤ 4294967296) : F_law16_fiber t = some t := by
  have hw : ∀ z : Thread, W_law16_fiber_3 (t, z, { t with kids := [] }, 0) = some (z, t) := by
    intro z
    refine whileM_for (fun i => (t, z, { t with kids := t.kids.take i }, (i : Int))) t.kids.length (fun i hi => ?_) ?_
    · have h1 : (i : Int) < (t.kids.length : Int) := by omega
      have h2 : fewB (i + 1) = true := few_true (by omega)
      have h3 : min i t.kids.length = i := by omega
      simp only [T_law16_fiber_3, S_law16_fiber_3, cond_dec, if_pos h1, if_pos (Int.natCast_nonneg i), List.length_take, List.length_cons, List.length_nil, h3, h2, cond_true, Int.toNat_natCast]
      rw [take_next t.kids _ i hi, wrap_id (by omega) (by omega)]
      rfl
    · simp [T_law16_fiber_3, S_law16_fiber_3]
  simp only [F_law16_fiber, C_law16_entries, law16_entries _ hb]
  have := hw (Thread.mk (0 : Int) (0 : Int) (Op.mk (0 : Int) (0 : Int)) ([] : List Entry) ([] : List Kid) ([] : List Int) (0 : Int) (0 : Int) (0 : Int) (0 : Int) (0 : Int) (0 : Int) (0 : Int) (0 : Int) (0 : Int) (0 : Int))
  split
  · rename_i y e
    have e2 := this.symm.trans e
    obtain rfl := Option.some.inj e2
    rfl
  · rename_i e
    have e2 := this.symm.trans e
    cases e2

theorem law16_marks (l : List Mark) (h : l.length ≤ 4294967296) : F_law16_marks l = some l := by
  have hw : W_law16_marks_3 (l, [], 0) = some l := by
    refine whileM_for (fun i => (l, l.take i, (i : Int))) l.length (fun i hi => ?_) ?_
    · have h1 : (i : Int) < (l.length : Int) := by omega
      have h2 : fewB (i + 1) = true := few_true (by omega)
      have h3 : min i l.length = i := by omega
      simp only [T_law16_marks_3, S_law16_marks_3, cond_dec, if_pos h1, if_pos (Int.natCast_nonneg i), List.length_take, List.length_cons, List.length_nil, h3, h2, cond_true, Int.toNat_natCast]
      rw [take_next l _ i hi, wrap_id (by omega) (by omega)]
      rfl
    · simp [T_law16_marks_3, S_law16_marks_3]
  simp only [F_law16_marks, hw]

theorem law16_its (u : Turn) (h : Sm 4294967296 u) : F_law16_its u = some u := by
  simp only [F_law16_its, C_law16_memory, law16_memory _ h.boxes h.box, C_law16_fiber, law16_fiber _ h.kids h.batch, C_law16_marks, law16_marks _ h.log]

theorem ints_refl (l : List Int) (h : l.length ≤ 4294967296) : F_ref02_Ints l l = some true := by
  have hw : W_ref02_Ints_4 (l, l, 0) = some (.inl ()) := by
    refine whileM_for (fun i => (l, l, (i : Int))) l.length (fun i hi => ?_) ?_
    · have h1 : (i : Int) < (l.length : Int) := by omega
      simp only [T_ref02_Ints_4, S_ref02_Ints_4, cond_dec, if_pos h1, if_pos (Int.natCast_nonneg i), bne_self_eq_false, cond_false]
      rw [wrap_id (by omega) (by omega)]
      rfl
    · simp [T_ref02_Ints_4, S_ref02_Ints_4]
  simp only [F_ref02_Ints, bne_self_eq_false, cond_false, hw]

theorem same_refl (l : List Entry) (h : l.length ≤ 4294967296) : F_ref02_Same l l = some true := by
  have hw : W_ref02_Same_4 (l, l, 0) = some (.inl ()) := by
    refine whileM_for (fun i => (l, l, (i : Int))) l.length (fun i hi => ?_) ?_
    · have h1 : (i : Int) < (l.length : Int) := by omega
      simp only [T_ref02_Same_4, S_ref02_Same_4, cond_dec, if_pos h1, if_pos (Int.natCast_nonneg i), beq_self_eq_true, Bool.and_self, Bool.not_true, cond_false]
      rw [wrap_id (by omega) (by omega)]
      rfl
    · simp [T_ref02_Same_4, S_ref02_Same_4]
  simp only [F_ref02_Same, bne_self_eq_false, cond_false, hw]

theorem mem_refl (m : Memo) (h : m.words.length ≤ 4294967296) (h2 : m.boxes.length ≤ 4294967296) (hb : ∀ b ∈ m.boxes, b.length ≤ 4294967296) : F_ref03_Same m m = some true := by
  have hw : W_ref03_Same_4 (m, m, 0) = some (.inl ()) := by
    refine whileM_for (fun i => (m, m, (i : Int))) m.boxes.length (fun i hi => ?_) ?_
    · have h1 : (i : Int) < (m.boxes.length : Int) := by omega
      have h4 : F_ref02_Same (m.boxes.getD i ([] : List Entry)) (m.boxes.getD i ([] : List Entry)) = some true := by
        refine same_refl _ (hb _ ?_)
        rw [List.getD_eq_getElem?_getD, List.getElem?_eq_getElem hi, Option.getD_some]
        exact List.getElem_mem hi
      simp only [T_ref03_Same_4, S_ref03_Same_4, C_ref02_Same, cond_dec, if_pos h1, if_pos (Int.natCast_nonneg i), Int.toNat_natCast, h4, Bool.not_true, cond_false]
      rw [wrap_id (by omega) (by omega)]
      rfl
    · simp [T_ref03_Same_4, S_ref03_Same_4]
  simp only [F_ref03_Same, C_ref02_Ints, ints_refl _ h, bne_self_eq_false, Bool.not_true, cond_false, hw]

theorem thread_refl (t : Thread) (h : t.kids.length ≤ 4294967296) (hb : t.batch.length ≤ 4294967296) (hh : t.held.length ≤ 4294967296) : F_ref10_Same t t = some true := by
  have hw : W_ref10_Same_4 (t, t, 0) = some (.inl (t, t)) := by
    refine whileM_for (fun i => (t, t, (i : Int))) t.kids.length (fun i hi => ?_) ?_
    · have h1 : (i : Int) < (t.kids.length : Int) := by omega
      simp only [T_ref10_Same_4, S_ref10_Same_4, cond_dec, if_pos h1, if_pos (Int.natCast_nonneg i), beq_self_eq_true, Bool.and_self, Bool.not_true, cond_false]
      rw [wrap_id (by omega) (by omega)]
      rfl
    · simp [T_ref10_Same_4, S_ref10_Same_4]
  simp only [F_ref10_Same, C_ref02_Same, same_refl _ hb, C_ref02_Ints, ints_refl _ hh, bne_self_eq_false, Bool.not_true, cond_false, hw, beq_self_eq_true, Bool.and_self, cond_true]

theorem tape_refl (t : Tape) (h : t.l.length ≤ 4294967296) : F_ref04_Same t t = some true := by
  have hw : W_ref04_Same_4 (t, t, 0) = some (.inl ()) := by
    refine whileM_for (fun i => (t, t, (i : Int))) t.l.length (fun i hi => ?_) ?_
    · have h1 : (i : Int) < (t.l.length : Int) := by omega
      simp only [T_ref04_Same_4, S_ref04_Same_4, cond_dec, if_pos h1, if_pos (Int.natCast_nonneg i), bne_self_eq_false, cond_false]
      rw [wrap_id (by omega) (by omega)]
      rfl
    · simp [T_ref04_Same_4, S_ref04_Same_4]
  simp only [F_ref04_Same, bne_self_eq_false, cond_false, hw]

theorem marks_refl (l : List Mark) (h : l.length ≤ 4294967296) : F_ref10_Marks l l = some true := by
  have hw : W_ref10_Marks_4 (l, l, 0) = some (.inl ()) := by
    refine whileM_for (fun i => (l, l, (i : Int))) l.length (fun i hi => ?_) ?_
    · have h1 : (i : Int) < (l.length : Int) := by omega
      simp only [T_ref10_Marks_4, S_ref10_Marks_4, cond_dec, if_pos h1, if_pos (Int.natCast_nonneg i), beq_self_eq_true, Bool.and_self, Bool.not_true, cond_false]
      rw [wrap_id (by omega) (by omega)]
      rfl
    · simp [T_ref10_Marks_4, S_ref10_Marks_4]
  simp only [F_ref10_Marks, bne_self_eq_false, cond_false, hw]

/-- A turn is like itself. -/
theorem alike_refl (u : Turn) (h : Sm 4294967296 u) : F_ref10_Alike u u = some true := by
  simp only [F_ref10_Alike, beq_self_eq_true, Bool.and_self, cond_true, C_ref03_Same, mem_refl _ h.words h.boxes h.box, C_ref10_Same, thread_refl _ h.kids h.batch h.held, C_ref04_Same, tape_refl _ h.tape, C_ref10_Marks, marks_refl _ h.log]

end Go.Proofs.Mill
