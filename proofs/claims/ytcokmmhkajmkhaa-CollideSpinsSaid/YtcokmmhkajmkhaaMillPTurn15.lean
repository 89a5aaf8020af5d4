/- Turns as the references have them, and which ones are spoken of (colliding). -/
import Derived.Test.YtcokmmhkajmkhaaMillPGather2
set_option linter.all false
namespace Go.Proofs.Mill

/-! its: a turn as the references have it is the same turn (law15). -/
theorem law15_entries (l : List Entry) (h : l.length ≤ 4294967296) : F_law15_entries l = some l := by
  have hw : W_law15_entries_3 (l, [], 0) = some l := by
    refine whileM_for (fun i => (l, l.take i, (i : Int))) l.length (fun i hi => ?_) ?_
    · have h1 : (i : Int) < (l.length : Int) := by omega
      have h2 : fewB (i + 1) = true := few_true (by omega)
      have h3 : min i l.length = i := by omega
      simp only [T_law15_entries_3, S_law15_entries_3, cond_dec, if_pos h1, if_pos (Int.natCast_nonneg i), List.length_take, List.length_cons, List.length_nil, h3, h2, cond_true, Int.toNat_natCast]
      rw [take_next l _ i hi, wrap_id (by omega) (by omega)]
      rfl
    · simp [T_law15_entries_3, S_law15_entries_3]
  simp only [F_law15_entries, hw]

theorem law15_memory (m : Memo) (h : m.boxes.length ≤ 4294967296) (hb : ∀ b ∈ m.boxes, b.length ≤ 4294967296) : F_law15_memory m = some m := by
  have hw : W_law15_memory_3 (m, ⟨[], []⟩, { m with boxes := [] }, 0) = some (⟨[], []⟩, m) := by
    refine whileM_for (fun i => (m, (⟨[], []⟩ : Memo), { m with boxes := m.boxes.take i }, (i : Int))) m.boxes.length (fun i hi => ?_) ?_
    · have h1 : (i : Int) < (m.boxes.length : Int) := by omega
      have h2 : fewB (i + 1) = true := few_true (by omega)
      have h3 : min i m.boxes.length = i := by omega
      have h4 : F_law15_entries (m.boxes.getD i ([] : List Entry)) = some (m.boxes.getD i ([] : List Entry)) := by
        refine law15_entries _ (hb _ ?_)
        rw [List.getD_eq_getElem?_getD, List.getElem?_eq_getElem hi, Option.getD_some]
        exact List.getElem_mem hi
      simp only [T_law15_memory_3, S_law15_memory_3, C_law15_entries, cond_dec, if_pos h1, if_pos (Int.natCast_nonneg i), List.length_take, List.length_cons, List.length_nil, h3, h2, cond_true, Int.toNat_natCast, h4]
      rw [take_next m.boxes _ i hi, wrap_id (by omega) (by omega)]
      rfl
    · simp [T_law15_memory_3, S_law15_memory_3]
  simp only [F_law15_memory]
  rw [show (Memo.mk ([] : List Int) ([] : List (List Entry))) = ⟨[], []⟩ from rfl]
  simp only [hw]

theorem law15_fiber (t : Thread) (h : t.kids.length ≤ 4294967296) (hb : t.batch.length ≤ 4294967296) : F_law15_fiber t = some t := by
  have hw : ∀ z : Thread, W_law15_fiber_3 (t, z, { t with kids := [] }, 0) = some (z, t) := by
    intro z
    refine whileM_for (fun i => (t, z, { t with kids := t.kids.take i }, (i : Int))) t.kids.length (fun i hi => ?_) ?_
    · have h1 : (i : Int) < (t.kids.length : Int) := by omega
      have h2 : fewB (i + 1) = true := few_true (by omega)
      have h3 : min i t.kids.length = i := by omega
      simp only [T_law15_fiber_3, S_law15_fiber_3, cond_dec, if_pos h1, if_pos (Int.natCast_nonneg i), List.length_take, List.length_cons, List.length_nil, h3, h2, cond_true, Int.toNat_natCast]
      rw [take_next t.kids _ i hi, wrap_id (by omega) (by omega)]
      rfl
    · simp [T_law15_fiber_3, S_law15_fiber_3]
  simp only [F_law15_fiber, C_law15_entries, law15_entries _ hb]
  have := hw (Thread.mk (0 : Int) (0 : Int) (Op.mk (0 : Int) (0 : Int)) ([] : List Entry) ([] : List Kid) ([] : List Int) (0 : Int) (0 : Int) (0 : Int) (0 : Int) (0 : Int) (0 : Int) (0 : Int) (0 : Int) (0 : Int) (0 : Int))
  split
  · rename_i y e
    have e2 := this.symm.trans e
    obtain rfl := Option.some.inj e2
    rfl
  · rename_i e
    have e2 := this.symm.trans e
    cases e2

theorem law15_marks (l : List Mark) (h : l.length ≤ 4294967296) : F_law15_marks l = some l := by
  have hw : W_law15_marks_3 (l, [], 0) = some l := by
    refine whileM_for (fun i => (l, l.take i, (i : Int))) l.length (fun i hi => ?_) ?_
    · have h1 : (i : Int) < (l.length : Int) := by omega
      have h2 : fewB (i + 1) = true := few_true (by omega)
      have h3 : min i l.length = i := by omega
      simp only [T_law15_marks_3, S_law15_marks_3, cond_dec, if_pos h1, if_pos (Int.natCast_nonneg i), List.length_take, List.length_cons, List.length_nil, h3, h2, cond_true, Int.toNat_natCast]
      rw [take_next l _ i hi, wrap_id (by omega) (by omega)]
      rfl
    · simp [T_law15_marks_3, S_law15_marks_3]
  simp only [F_law15_marks, hw]

theorem law15_its (u : Turn) (h : Sm 4294967296 u) : F_law15_its u = some u := by
  simp only [F_law15_its, C_law15_memory, law15_memory _ h.boxes h.box, C_law15_fiber, law15_fiber _ h.kids h.batch, C_law15_marks, law15_marks _ h.log]
/-! Which turns a statement speaks of (law15). -/
theorem law15_big (u : Turn) : ∃ b, F_law15_big u = some b ∧ (b = false → Big u) := by
  have hw : ∃ y, W_law15_big_2 (u, 0) = some y ∧ (match y with | .inl v => v = u ∧ ∀ j, j < 20 → j < u.m.boxes.length → (u.m.boxes.getD j []).length ≤ 20 | .inr b => b = true) := by
    refine whileM_ex (fun x => x.1 = u ∧ 0 ≤ x.2 ∧ x.2 ≤ 20 ∧ ∀ j : Nat, (j : Int) < x.2 → j < u.m.boxes.length → (u.m.boxes.getD j []).length ≤ 20) (fun x => (20 - x.2).toNat) _ ?_ ⟨rfl, by omega, by omega, fun j hj => by omega⟩
    rintro ⟨v, i⟩ ⟨rfl, h0, h1, h2⟩
    simp only at h0 h1 h2
    simp only [T_law15_big_2, S_law15_big_2, cond_dec]
    by_cases a1 : i < (v.m.boxes.length : Int)
    · by_cases a2 : i < 20
      · simp only [if_pos a1, if_pos a2, if_pos h0]
        by_cases a3 : ((v.m.boxes.getD i.toNat ([] : List Entry)).length : Int) > 20
        · rw [if_pos a3]
          exact .inr ⟨_, rfl, rfl⟩
        · rw [if_neg a3, wrap_id (by omega) (by omega)]
          refine .inl ⟨_, rfl, ⟨rfl, by simp only; omega, by simp only; omega, fun j hj hj2 => ?_⟩, by simp only; omega⟩
          simp only at hj
          by_cases e : (j : Int) < i
          · exact h2 j e hj2
          · have : j = i.toNat := by omega
            subst this
            omega
      · simp only [if_pos a1, if_neg a2]
        exact .inr ⟨_, rfl, rfl, fun j hj hj2 => h2 j (by omega) hj2⟩
    · simp only [if_neg a1]
      exact .inr ⟨_, rfl, rfl, fun j hj hj2 => h2 j (by omega) hj2⟩
  obtain ⟨y, hy, hq⟩ := hw
  simp only [F_law15_big, hy, cond_dec]
  cases y with
  | inr b => exact ⟨b, rfl, fun hb => by rw [hb] at hq; cases hq⟩
  | inl v =>
    obtain ⟨rfl, hq⟩ := hq
    simp only
    by_cases b1 : (v.m.words.length : Int) > 400
    · exact ⟨true, by rw [if_pos b1], fun h => by cases h⟩
    rw [if_neg b1]
    by_cases b2 : (v.m.boxes.length : Int) > 16
    · exact ⟨true, by rw [if_pos b2], fun h => by cases h⟩
    rw [if_neg b2]
    by_cases b3 : (v.th.batch.length : Int) > 20
    · exact ⟨true, by rw [if_pos b3], fun h => by cases h⟩
    rw [if_neg b3]
    by_cases b4 : (v.th.kids.length : Int) > 20
    · exact ⟨true, by rw [if_pos b4], fun h => by cases h⟩
    rw [if_neg b4]
    by_cases b5 : (v.th.held.length : Int) > 20
    · exact ⟨true, by rw [if_pos b5], fun h => by cases h⟩
    rw [if_neg b5]
    by_cases b6 : (v.tape.l.length : Int) > 100
    · exact ⟨true, by rw [if_pos b6], fun h => by cases h⟩
    rw [if_neg b6]
    refine ⟨_, rfl, fun h => ?_⟩
    have b7 := of_decide_eq_false h
    refine ⟨by omega, by omega, fun b hb => ?_, by omega, by omega, by omega, by omega, by omega⟩
    obtain ⟨j, hj, rfl⟩ := List.getElem_of_mem hb
    have := hq j (by omega) hj
    rw [List.getD_eq_getElem?_getD, List.getElem?_eq_getElem hj, Option.getD_some] at this
    exact this

theorem law15_may (u : Turn) : ∃ b, F_law15_may u = some b ∧ (b = true ↔ May u) := by
  obtain ⟨e, he, hc⟩ := check_some u.c
  simp only [F_law15_may, C_ref05_Check, he]
  by_cases h0 : e = 0
  · have hok := hc.1 h0
    subst h0
    simp only [beq_self_eq_true, cond_true, C_ref06_Size, ref06_size hok, cond_dec]
    by_cases h1 : u.t ≥ 0
    · by_cases h2 : u.t < u.c.threads
      · simp only [if_pos h1, if_pos h2]
        by_cases h3 : (u.m.words.length : Int) = sizeOf u.c
        · by_cases h4 : (u.m.boxes.length : Int) = u.c.threads
          · by_cases h5 : u.th.item ≥ 0
            · refine ⟨_, by rw [show ((u.m.words.length : Int) == sizeOf u.c) = true by simpa using h3, show ((u.m.boxes.length : Int) == u.c.threads) = true by simpa using h4, cond_true, cond_true, if_pos h5], ?_⟩
              rw [decide_eq_true_eq]
              exact ⟨fun h6 => ⟨hok, ⟨h1, h2⟩, h3, h4, h5, h6⟩, fun h => h.item.2⟩
            · exact ⟨false, by rw [show ((u.m.words.length : Int) == sizeOf u.c) = true by simpa using h3, show ((u.m.boxes.length : Int) == u.c.threads) = true by simpa using h4, cond_true, cond_true, if_neg h5], by simp, fun h => (h5 h.item.1).elim⟩
          · exact ⟨false, by rw [show ((u.m.words.length : Int) == sizeOf u.c) = true by simpa using h3, show ((u.m.boxes.length : Int) == u.c.threads) = false by simpa using h4]; rfl, by simp, fun h => (h4 h.boxes).elim⟩
        · exact ⟨false, by rw [show ((u.m.words.length : Int) == sizeOf u.c) = false by simpa using h3]; rfl, by simp, fun h => (h3 h.words).elim⟩
      · exact ⟨false, by rw [if_pos h1, if_neg h2], by simp, fun h => (h2 h.t.2).elim⟩
    · exact ⟨false, by rw [if_neg h1], by simp, fun h => (h1 h.t.1).elim⟩
  · refine ⟨false, by rw [show (e == 0) = false by simpa using h0]; rfl, by simp, fun h => (h0 (hc.2 h.cfg)).elim⟩

end Go.Proofs.Mill
