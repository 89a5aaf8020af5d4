/- The plain law of HistoryLinear. -/
import Derived.Test.YtcokmmhkajmkhaaMillPHistory4
set_option linter.all false
namespace Go.Proofs.Mill

/-- What is not too much to look at. -/
structure WBig (w : Wld) : Prop where
  boxes : w.m.boxes.length ≤ 16
  box : ∀ b ∈ w.m.boxes, b.length ≤ 20
  t : w.t.length ≤ 16
  batch : ∀ t ∈ w.t, t.batch.length ≤ 20
  kids : ∀ t ∈ w.t, t.kids.length ≤ 20
  log : w.log.length ≤ 300
  hist : w.hist.length ≤ 300

theorem law18_heap (w : Wld) : ∃ b, F_law18_heap w = some b ∧ (b = false → WBig w) := by
  have h2 : ∃ y, W_law18_heap_2 (w, 0) = some y ∧ (match y with | .inl v => v = w ∧ ∀ j, j < 20 → j < w.m.boxes.length → (w.m.boxes.getD j []).length ≤ 20 | .inr b => b = true) := by
    refine whileM_ex (fun x => x.1 = w ∧ 0 ≤ x.2 ∧ x.2 ≤ 20 ∧ ∀ j : Nat, (j : Int) < x.2 → j < w.m.boxes.length → (w.m.boxes.getD j []).length ≤ 20) (fun x => (20 - x.2).toNat) _ ?_ ⟨rfl, by omega, by omega, fun j hj => by omega⟩
    rintro ⟨v, i⟩ ⟨rfl, h0, h1, h2⟩
    simp only at h0 h1 h2
    simp only [T_law18_heap_2, S_law18_heap_2, cond_dec]
    by_cases a1 : i < (v.m.boxes.length : Int)
    · by_cases a2 : i < 20
      · simp only [if_pos a1, if_pos a2, if_pos h0]
        by_cases a3 : ((v.m.boxes.getD i.toNat ([] : List Entry)).length : Int) > 20
        · rw [if_pos a3]
          exact .inr ⟨_, rfl, rfl⟩
        · rw [if_neg a3, wrap_id (by omega) (by omega)]
          refine .inl ⟨_, rfl, ⟨rfl, by simp only; omega, by simp only; omega, fun j hj hj2 => ?_⟩, by simp only; omega⟩
          simp only at hj
          by_cases e : (j : Int) < i
          · exact h2 j e hj2
          · have : j = i.toNat := by omega
            subst this
            omega
      · simp only [if_pos a1, if_neg a2]
        exact .inr ⟨_, rfl, rfl, fun j hj hj2 => h2 j (by omega) hj2⟩
    · simp only [if_neg a1]
      exact .inr ⟨_, rfl, rfl, fun j hj hj2 => h2 j (by omega) hj2⟩
  have h7 : ∃ y, W_law18_heap_7 (w, 0) = some y ∧ (match y with | .inl v => v = w ∧ ∀ j, j < 20 → j < w.t.length → (w.t.getD j dThread).batch.length ≤ 20 ∧ (w.t.getD j dThread).kids.length ≤ 20 | .inr b => b = true) := by
    refine whileM_ex (fun x => x.1 = w ∧ 0 ≤ x.2 ∧ x.2 ≤ 20 ∧ ∀ j : Nat, (j : Int) < x.2 → j < w.t.length → (w.t.getD j dThread).batch.length ≤ 20 ∧ (w.t.getD j dThread).kids.length ≤ 20) (fun x => (20 - x.2).toNat) _ ?_ ⟨rfl, by omega, by omega, fun j hj => by omega⟩
    rintro ⟨v, i⟩ ⟨rfl, h0, h1, h2⟩
    simp only at h0 h1 h2
    simp only [T_law18_heap_7, S_law18_heap_7, cond_dec]
    by_cases a1 : i < (v.t.length : Int)
    · by_cases a2 : i < 20
      · simp only [if_pos a1, if_pos a2, if_pos h0]
        by_cases a3 : ((v.t.getD i.toNat dThread).batch.length : Int) > 20
        · rw [if_pos a3]
          exact .inr ⟨_, rfl, rfl⟩
        · rw [if_neg a3]
          by_cases a4 : ((v.t.getD i.toNat dThread).kids.length : Int) > 20
          · rw [if_pos a4]
            exact .inr ⟨_, rfl, rfl⟩
          · rw [if_neg a4]
            by_cases a5 : ((v.t.getD i.toNat dThread).held.length : Int) > 20
            · rw [if_pos a5]
              exact .inr ⟨_, rfl, rfl⟩
            · rw [if_neg a5, wrap_id (by omega) (by omega)]
              refine .inl ⟨_, rfl, ⟨rfl, by simp only; omega, by simp only; omega, fun j hj hj2 => ?_⟩, by simp only; omega⟩
              simp only at hj
              by_cases e : (j : Int) < i
              · exact h2 j e hj2
              · have : j = i.toNat := by omega
                subst this
                omega
      · simp only [if_pos a1, if_neg a2]
        exact .inr ⟨_, rfl, rfl, fun j hj hj2 => h2 j (by omega) hj2⟩
    · simp only [if_neg a1]
      exact .inr ⟨_, rfl, rfl, fun j hj hj2 => h2 j (by omega) hj2⟩
  obtain ⟨y, hy, hq⟩ := h2
  obtain ⟨z, hz, hr⟩ := h7
  simp only [F_law18_heap, hy, cond_dec]
  cases y with
  | inr b => exact ⟨b, rfl, fun hb => by rw [hb] at hq; cases hq⟩
  | inl v =>
    obtain ⟨rfl, hq⟩ := hq
    simp only [hz]
    cases z with
    | inr b => exact ⟨b, rfl, fun hb => by rw [hb] at hr; cases hr⟩
    | inl u =>
      obtain ⟨rfl, hr⟩ := hr
      simp only
      by_cases b1 : (u.m.words.length : Int) > 400
      · exact ⟨true, by rw [if_pos b1], fun h => by cases h⟩
      rw [if_neg b1]
      by_cases b2 : (u.m.boxes.length : Int) > 16
      · exact ⟨true, by rw [if_pos b2], fun h => by cases h⟩
      rw [if_neg b2]
      by_cases b3 : (u.t.length : Int) > 16
      · exact ⟨true, by rw [if_pos b3], fun h => by cases h⟩
      rw [if_neg b3]
      by_cases b4 : (u.log.length : Int) > 300
      · exact ⟨true, by rw [if_pos b4], fun h => by cases h⟩
      rw [if_neg b4]
      by_cases b5 : (u.hist.length : Int) > 300
      · exact ⟨true, by rw [if_pos b5], fun h => by cases h⟩
      rw [if_neg b5]
      have hth : ∀ t ∈ u.t, t.batch.length ≤ 20 ∧ t.kids.length ≤ 20 := by
        intro t ht
        obtain ⟨j, hj, rfl⟩ := List.getElem_of_mem ht
        have := hr j (by omega) hj
        rw [List.getD_eq_getElem?_getD, List.getElem?_eq_getElem hj, Option.getD_some] at this
        exact this
      refine ⟨_, rfl, fun h => ⟨by omega, fun b hb => ?_, by omega, fun t ht => (hth t ht).1, fun t ht => (hth t ht).2, by omega, by omega⟩⟩
      obtain ⟨j, hj, rfl⟩ := List.getElem_of_mem hb
      have := hq j (by omega) hj
      rw [List.getD_eq_getElem?_getD, List.getElem?_eq_getElem hj, Option.getD_some] at this
      exact this

theorem wld_ok {w : Wld} (o : (valSt celWld).Ok w) : ConfOK w.c ∧ (∀ m ∈ w.log, MarkOK m) ∧ ∀ e ∈ w.hist, EventOK e := by
  have hi : ∀ x : Int, AV.int .i64 x ∈ celWld.enc w → Num x := fun x hx => lit_ok (o _ hx)
  have hm : AV.Ok (.lst .mark w.log) := o _ (by
    show _ ∈ celWld.enc w
    simp only [celWld, celAs, celApp, celMemo, celLst, celConfig, celInt, celBool, celTape, List.mem_append, List.mem_singleton]
    simp)
  have he : AV.Ok (.lst .event w.hist) := o _ (by
    show _ ∈ celWld.enc w
    simp only [celWld, celAs, celApp, celMemo, celLst, celConfig, celInt, celBool, celTape, List.mem_append, List.mem_singleton]
    simp)
  refine ⟨⟨hi _ ?_, hi _ ?_, hi _ ?_⟩, fun m h => mark_ok (hm.2 m h), fun e h => event_ok (he.2 e h)⟩ <;>
  · simp only [celWld, celAs, celApp, celMemo, celLst, celConfig, celInt, celBool, celTape, List.mem_append, List.mem_singleton]
    simp

theorem pure_HistoryLinear (w : Wld) (o : (valSt celWld).Ok w) : F_law18_HistoryLinear w = some true := by
  obtain ⟨b, hb, hbig⟩ := law18_heap w
  simp only [F_law18_HistoryLinear, C_law18_heap, hb, C_law18_shown, law18_shown, Bool.not_true, cond_false]
  cases b with
  | true => rfl
  | false =>
    have g := hbig rfl
    obtain ⟨o1, o2, o3⟩ := wld_ok o
    have h1 := g.t
    have h2 := g.boxes
    have h3 := g.log
    have h4 := g.hist
    obtain ⟨r, hr1, hr2⟩ := linear_both (w := w) (fun hc => ⟨hc, o1, o2, o3, g.log, g.hist⟩) g.log
    simp only [cond_false, C_history_Linear, hr1, C_law18_theirs, law18_theirs (w := w) ⟨by omega, fun b hb => Nat.le_trans (g.box b hb) (by omega), by omega, fun t ht => Nat.le_trans (g.batch t ht) (by omega), fun t ht => Nat.le_trans (g.kids t ht) (by omega), by omega, by omega⟩, C_ref18_Linear, hr2, beq_self_eq_true]

end Go.Proofs.Mill
