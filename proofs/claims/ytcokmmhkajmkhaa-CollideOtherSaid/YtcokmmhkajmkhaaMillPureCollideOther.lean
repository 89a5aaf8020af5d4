/- The plain law of CollideOther. -/
import Derived.Test.YtcokmmhkajmkhaaMillPCollide2
set_option linter.all false
namespace Go.Proofs.Mill

/-- What a step makes of the words: nothing, or one word. -/
theorem collide_words {u : Turn} (h : FitC u) : (collideT u).1.m.words = u.m.words ∨
    ∃ a w : Int, 0 ≤ a ∧ a < (u.m.words.length : Int) ∧ (collideT u).1.m.words = u.m.words.set a.toNat w ∧ (a = mineAt u ∨ (w = 0 ∧ wordAt u a = openW u) ∨ (a = drawnAt u ∧ drawnAt u ≠ -1 ∧ w = u.t + 1)) := by
  obtain ⟨mn, m0, m1⟩ := h.mine
  have hcmp : ∀ t so no, (comparedT u t so no).m.words = u.m.words ∨ ∃ a w : Int, 0 ≤ a ∧ a < (u.m.words.length : Int) ∧ (comparedT u t so no).m.words = u.m.words.set a.toNat w ∧
      (a = mineAt u ∨ (w = 0 ∧ wordAt u a = openW u) ∨ (a = drawnAt u ∧ drawnAt u ≠ -1 ∧ w = u.t + 1)) := by
    intro t so no
    unfold comparedT
    by_cases e : lineAt u.c t = -1
    · rw [if_pos e]; exact .inl rfl
    · rw [if_neg e]
      by_cases e2 : wordAt u (lineAt u.c t) = openW u
      · rw [if_pos e2]
        exact .inr ⟨_, _, (h.line e).1, (h.line e).2, rfl, .inr (.inl ⟨rfl, e2⟩)⟩
      · rw [if_neg e2]; exact .inl rfl
  have hstore : ∀ v : Turn, v.m.words = u.m.words.set (mineAt u).toNat (openW u) → v.m.words = u.m.words ∨ ∃ a w : Int, 0 ≤ a ∧ a < (u.m.words.length : Int) ∧ v.m.words = u.m.words.set a.toNat w ∧
      (a = mineAt u ∨ (w = 0 ∧ wordAt u a = openW u) ∨ (a = drawnAt u ∧ drawnAt u ≠ -1 ∧ w = u.t + 1)) := fun v hv => .inr ⟨_, _, m0, m1, hv, .inl rfl⟩
  unfold collideT
  split
  · exact .inl rfl
  split
  · exact hstore _ rfl
  split
  · show (swapT u).m.words = _ ∨ ∃ a w : Int, _ ∧ _ ∧ (swapT u).m.words = _ ∧ _
    unfold swapT
    by_cases e : drawnAt u = -1
    · rw [if_pos e]; exact .inl rfl
    · rw [if_neg e]
      have hs := h.slot e
      split
      · exact .inr ⟨_, _, hs.1, hs.2, rfl, .inr (.inr ⟨rfl, e, rfl⟩)⟩
      · exact .inr ⟨_, _, hs.1, hs.2, rfl, .inr (.inr ⟨rfl, e, rfl⟩)⟩
  split
  · exact hcmp _ _ _
  split
  · exact hcmp _ _ _
  split
  · refine .inl ?_
    show (absorbT u).m.words = _
    unfold absorbT
    split <;> rfl
  split
  · refine .inl ?_
    show (spinT u).m.words = _
    unfold spinT
    split
    · rfl
    · split <;> rfl
  split
  · exact hstore _ rfl
  split
  · show (leaveT u).m.words = _ ∨ ∃ a w : Int, _ ∧ _ ∧ (leaveT u).m.words = _ ∧ _
    unfold leaveT
    split
    · exact .inr ⟨mineAt u, 0, m0, m1, by rw [onwardT_m], .inl rfl⟩
    · exact .inl rfl
  · exact .inl rfl

theorem collide_boxes (u : Turn) : (collideT u).1.m.boxes = u.m.boxes ∨ (collideT u).1.m.boxes = u.m.boxes.set u.t.toNat u.th.batch := by
  have hcmp : ∀ t so no, (comparedT u t so no).m.boxes = u.m.boxes := by
    intro t so no
    unfold comparedT
    split
    · rfl
    · split <;> rfl
  unfold collideT
  split
  · exact .inr rfl
  left
  split
  · rfl
  split
  · show (swapT u).m.boxes = _
    unfold swapT
    split
    · rfl
    · split <;> rfl
  split
  · exact hcmp _ _ _
  split
  · exact hcmp _ _ _
  split
  · show (absorbT u).m.boxes = _
    unfold absorbT
    split <;> rfl
  split
  · show (spinT u).m.boxes = _
    unfold spinT
    split
    · rfl
    · split <;> rfl
  split
  · rfl
  split
  · show (leaveT u).m.boxes = _
    unfold leaveT
    split
    · rw [onwardT_m]
    · rfl
  · rfl

theorem other20 {u v : Turn} (h : FitC u) (n : Int) {a : Int} {b : Bool} (h0 : 0 ≤ a) (h1 : a < (v.m.words.length : Int))
    (hb : b = true ∨ ∃ i0 : Int, 0 ≤ i0 ∧ i0 < u.c.width ∧ slotAt u.c u.th.item u.th.layer i0 = a ∧ v.m.words.getD a.toNat 0 = u.t + 1) :
    W_law15_CollideOther_20 (u, u.c, v, n, a, b, 0) = some (u, u.c, v, n, a, true) := by
  have hw := h.g.cfg.width
  have ht := h.g.cfg.threads
  have hT := h.g.t
  have key : ∃ y, W_law15_CollideOther_20 (u, u.c, v, n, a, b, 0) = some y ∧ y = (u, u.c, v, n, a, true) := by
    refine whileM_ex (fun x => ∃ k b', x = (u, u.c, v, n, a, b', k) ∧ 0 ≤ k ∧ k ≤ u.c.width ∧ (b' = true ∨ ∃ i0 : Int, k ≤ i0 ∧ i0 < u.c.width ∧ slotAt u.c u.th.item u.th.layer i0 = a ∧ v.m.words.getD a.toNat 0 = u.t + 1))
      (fun x => (u.c.width - x.2.2.2.2.2.2).toNat) _ ?_ ⟨0, b, rfl, by omega, by omega, ?_⟩
    · rintro _ ⟨k, b', rfl, k0, k1, hk⟩
      simp only [T_law15_CollideOther_20, S_law15_CollideOther_20, cond_dec, C_ref06_Slot, ref06_slot h.g.cfg]
      by_cases c1 : k < u.c.width
      · rw [if_pos c1, wrap_id (n := k + 1) (by omega) (by omega)]
        cases b' with
        | true => exact .inl ⟨_, rfl, ⟨k + 1, true, rfl, by omega, by omega, .inl rfl⟩, by simp only; omega⟩
        | false =>
          obtain ⟨i0, j0, j1, j2, j3⟩ := hk.resolve_left (by simp)
          rw [cond_false]
          by_cases e : a = slotAt u.c u.th.item u.th.layer k
          · rw [beq_t e, cond_true, if_pos h0, if_pos h1, j3, wrap_id (n := u.t + 1) (by omega) (by omega), beq_self_eq_true]
            exact .inl ⟨_, rfl, ⟨k + 1, true, rfl, by omega, by omega, .inl rfl⟩, by simp only; omega⟩
          · rw [beq_f e, cond_false]
            refine .inl ⟨_, rfl, ⟨k + 1, false, rfl, by omega, by omega, .inr ⟨i0, ?_, j1, j2, j3⟩⟩, by simp only; omega⟩
            have : i0 ≠ k := fun hh => e (by rw [← hh, j2])
            omega
      · rw [if_neg c1]
        rcases hk with rfl | ⟨i0, j0, j1, _⟩
        · exact .inr ⟨_, rfl, rfl⟩
        · omega
    · rcases hb with hb | ⟨i0, j0, j1, j2, j3⟩
      · exact .inl hb
      · exact .inr ⟨i0, by omega, j1, j2, j3⟩
  obtain ⟨y, hy, rfl⟩ := key
  exact hy

theorem getD_box_ne {l : List (List Entry)} {i j : Nat} {a : List Entry} (h : i ≠ j) : (l.set i a).getD j [] = l.getD j [] := by
  rw [List.getD_eq_getElem?_getD, List.getD_eq_getElem?_getD, List.getElem?_set_ne h]

theorem pure_CollideOther (u : Turn) (o : (valSt celTurn).Ok u) : F_law15_CollideOther u = some true := by
  obtain ⟨b, hb, hbig⟩ := law15_big u
  obtain ⟨m, hm, hmay⟩ := law15_layered u
  simp only [F_law15_CollideOther, C_law15_big, hb, C_law15_shown, law15_shown, C_law15_layered, hm]
  cases b with
  | true => rfl
  | false =>
  cases m with
  | false => rfl
  | true =>
  have hB := hbig rfl
  obtain ⟨hM, hL⟩ := hmay.1 rfl
  have hF := hM.fitC hB o hL
  have hl := hF.g.len
  have hi := hF.g.cfg.items
  have h2 := hF.item
  have ht := hF.g.cfg.threads
  have hT := hF.g.t
  have hbl := hB.boxes
  have hbx := hF.g.boxes
  obtain ⟨mn, m0, m1⟩ := hF.mine
  simp only [Bool.not_true, cond_false, C_collide_Step, collide_step hF]
  have hwords := collide_words hF
  have hboxes := collide_boxes u
  generalize (collideT u).1 = v at hwords hboxes ⊢
  have l1 : v.m.words.length = u.m.words.length := by
    rcases hwords with e | ⟨a, w, _, _, e, _⟩ <;> rw [e]
    exact List.length_set ..
  have l2 : v.m.boxes.length = u.m.boxes.length := by
    rcases hboxes with e | e <;> rw [e]
    exact List.length_set ..
  have g8 : W_law15_CollideOther_8 (u, u.c, v, 0) = some (.inl (u, u.c, v)) := by
    refine whileM_for (fun i => (u, u.c, v, (i : Int))) u.m.boxes.length (fun i hi => ?_) ?_
    · have hn : (i : Int) < (u.m.boxes.length : Int) := by omega
      simp only [T_law15_CollideOther_8, S_law15_CollideOther_8, cond_dec, if_pos hn, if_pos (Int.natCast_nonneg i), l2, Int.toNat_natCast]
      rw [wrap_id (by omega) (by omega)]
      by_cases e : (i : Int) = u.t
      · rw [bne_f e]; rfl
      · have e2 : v.m.boxes.getD i [] = u.m.boxes.getD i [] := by
          rcases hboxes with e' | e' <;> rw [e']
          exact getD_box_ne (by omega)
        have hbi := hF.g.boxLen i
        rw [bne_t e, cond_true]
        simp only [e2, C_law15_entries, law15_entries _ (show (u.m.boxes.getD i ([] : List Entry)).length ≤ 4294967296 by omega), C_ref02_Same, same_refl _ (show (u.m.boxes.getD i ([] : List Entry)).length ≤ 4294967296 by omega)]
        rfl
    · simp [T_law15_CollideOther_8, S_law15_CollideOther_8]
  have g14 : ∃ n : Int, W_law15_CollideOther_14 (u, u.c, v, 0, 0) = some (.inl n) ∧ n ≤ 1 := by
    have hsame : ∀ i : Nat, i < u.m.words.length → ∀ n : Int, v.m.words.getD i 0 = u.m.words.getD i 0 → T_law15_CollideOther_14 (u, u.c, v, n, (i : Int)) = some (.inl (u, u.c, v, n, ((i + 1 : Nat) : Int))) := by
      intro i hi n e
      have hn : (i : Int) < (u.m.words.length : Int) := by omega
      simp only [T_law15_CollideOther_14, S_law15_CollideOther_14, cond_dec, if_pos hn, if_pos (Int.natCast_nonneg i), l1, Int.toNat_natCast, e, beq_self_eq_true, cond_true]
      rw [wrap_id (by omega) (by omega)]
      rfl
    have hend : ∀ n : Int, T_law15_CollideOther_14 (u, u.c, v, n, (u.m.words.length : Int)) = some (.inr (.inl n)) := by
      intro n
      simp [T_law15_CollideOther_14, S_law15_CollideOther_14]
    rcases hwords with e | ⟨a, w, a0, a1, e, hw⟩
    · exact ⟨0, whileM_for (fun i => (u, u.c, v, 0, (i : Int))) u.m.words.length (fun i hi => hsame i hi 0 (by rw [e])) (hend 0), by omega⟩
    · by_cases hww : w = wordAt u a
      · refine ⟨0, whileM_for (fun i => (u, u.c, v, 0, (i : Int))) u.m.words.length (fun i hi => hsame i hi 0 ?_) (hend 0), by omega⟩
        rw [e]
        by_cases ea : a.toNat = i
        · rw [← ea, getD_set_self (by omega), hww]
        · rw [getD_set_ne ea]
      · have hva : v.m.words.getD a.toNat 0 = w := by rw [e]; exact getD_set_self (by omega)
        refine ⟨1, ?_, by omega⟩
        have hfin := whileM_for (step := T_law15_CollideOther_14) (fun i => (u, u.c, v, (if a < (i : Int) then 1 else 0 : Int), (i : Int))) u.m.words.length (y := .inl 1) (fun i hi => ?_) ?_
        · have e0 : ((if a < ((0 : Nat) : Int) then 1 else 0 : Int)) = 0 := if_neg (by omega)
          simp only [e0] at hfin
          exact hfin
        · by_cases ea : (i : Int) = a
          · have hn : (i : Int) < (u.m.words.length : Int) := by omega
            have hia : a.toNat = i := by omega
            have hnot : ¬ a < (i : Int) := by omega
            have hyes : a < ((i + 1 : Nat) : Int) := by omega
            simp only [if_neg hnot, if_pos hyes]
            have hvi : v.m.words.getD i 0 = w := by rw [← hia]; exact hva
            have hui : u.m.words.getD i 0 = wordAt u a := by rw [← hia]
            simp only [T_law15_CollideOther_14, S_law15_CollideOther_14, cond_dec, if_pos hn, if_pos (Int.natCast_nonneg i), l1, Int.toNat_natCast, hvi, hui, C_ref06_Line, ref06_line hF.g.cfg, C_code_Open,
              code_open (i := u.th.item) (l := u.th.layer) (by omega) (by omega) (by omega) (by omega)]
            rw [beq_f hww, cond_false, wrap_id (n := 0 + 1) (by omega) (by omega)]
            have i0 : (0 : Int) ≤ (i : Int) := by omega
            have i1 : (i : Int) < (v.m.words.length : Int) := by omega
            by_cases em : (i : Int) = mineAt u
            · rw [beq_t em, cond_true, other20 hF _ i0 i1 (.inl rfl)]
              simp only [Bool.not_true, cond_false]
              rw [wrap_id (n := (i : Int) + 1) (by omega) (by omega)]
              rfl
            · rw [beq_f em, cond_false]
              rcases hw with hw | ⟨hw, ho⟩ | ⟨hd, hd2, hw⟩
              · exact (em (by omega)).elim
              · rw [beq_t hw, cond_true, beq_t ho, other20 hF _ i0 i1 (.inl rfl)]
                simp only [Bool.not_true, cond_false]
                rw [wrap_id (n := (i : Int) + 1) (by omega) (by omega)]
                rfl
              · rw [beq_f (show w ≠ 0 by omega), cond_false]
                have hsl := slotAt_bounds hF.g.cfg hd2
                rw [other20 hF _ i0 i1 (.inr ⟨_, hsl.2.2.2.2.1.1, hsl.2.2.2.2.1.2, show drawnAt u = (i : Int) by omega, by rw [Int.toNat_natCast, hvi, hw]⟩)]
                simp only [Bool.not_true, cond_false]
                rw [wrap_id (n := (i : Int) + 1) (by omega) (by omega)]
                rfl
          · have e2 : v.m.words.getD i 0 = u.m.words.getD i 0 := by rw [e]; exact getD_set_ne (by omega)
            have e3 : (if a < ((i + 1 : Nat) : Int) then 1 else 0 : Int) = (if a < (i : Int) then 1 else 0) := by
              by_cases c : a < (i : Int)
              · rw [if_pos c, if_pos (by omega)]
              · rw [if_neg c, if_neg (by omega)]
            rw [hsame i hi _ e2, e3]
        · have hyes : a < (u.m.words.length : Int) := a1
          simp only [if_pos hyes]
          exact hend 1
  obtain ⟨n, hn, hn1⟩ := g14
  have q1 : ((v.m.words.length : Int) != (u.m.words.length : Int)) = false := bne_f (by rw [l1])
  have q2 : ((v.m.boxes.length : Int) != (u.m.boxes.length : Int)) = false := bne_f (by rw [l2])
  simp only [q1, q2, cond_false, g8, hn, decide_eq_true hn1]

end Go.Proofs.Mill
