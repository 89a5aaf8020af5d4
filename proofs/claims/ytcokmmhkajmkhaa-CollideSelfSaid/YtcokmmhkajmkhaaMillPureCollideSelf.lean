/- The plain law of CollideSelf. -/
import Derived.Test.YtcokmmhkajmkhaaMillPCollide2
set_option linter.all false
namespace Go.Proofs.Mill

theorem self_fill (w : Int) {u : Turn} (h : FitC u) (hl : u.th.layer ≤ u.c.layers) :
    W_law15_CollideSelf_8 (w, u, u.c, u.m.words, 0) = some (u, fillT u w u.c.width.toNat u.m.words) := by
  have hw := h.g.cfg.width
  refine whileM_for (fun i => (w, u, u.c, fillT u w i u.m.words, (i : Int))) u.c.width.toNat (fun i hi => ?_) ?_
  · obtain ⟨s0, s1, s2⟩ := h.slots hl (j := i) (by omega) (by omega)
    simp only [T_law15_CollideSelf_8, S_law15_CollideSelf_8, cond_dec, C_ref06_Slot, ref06_slot h.g.cfg, fillT_len]
    rw [if_pos (by omega), if_pos s0, if_pos s2, wrap_id (by omega) (by omega)]
    rfl
  · simp only [T_law15_CollideSelf_8, S_law15_CollideSelf_8, cond_dec]
    rw [if_neg (by omega)]

/-- A step at slots that hold a word of nobody else. -/
theorem self_step {u : Turn} (h : FitC u) (hl : u.th.layer ≤ u.c.layers) (hw : 1 ≤ u.th.width ∧ u.th.width ≤ u.c.width) {w : Int} (hn : Num w) (hq : ¬ (1 ≤ w ∧ w ≤ u.c.threads ∧ w ≠ u.t + 1)) :
    ∃ m t, F_collide_Step ({ u with m := { u.m with words := fillT u w u.c.width.toNat u.m.words }, th := { u.th with phase := 19 } } : Turn) =
      some ({ u with m := m, tape := t, th := { u.th with phase := 23, left := u.c.spin } }, true) := by
  have hc := h.g.cfg.width
  have hF : FitC ({ u with m := { u.m with words := fillT u w u.c.width.toNat u.m.words }, th := { u.th with phase := 19 } } : Turn) := h.of rfl rfl (fillT_len ..) (fillT_nums hn _ h.g.nums) rfl rfl rfl rfl rfl rfl rfl
  refine ⟨{ u.m with words := (fillT u w u.c.width.toNat u.m.words).set (drawnAt u).toNat (u.t + 1) }, (belowT u.tape u.th.width).2, ?_⟩
  rw [collide_step hF]
  obtain ⟨b0, b1⟩ := belowT_in u.tape hw.1 (by omega)
  obtain ⟨s0, s1, s2⟩ := h.slots hl b0 (by omega)
  have hd : (fillT u w u.c.width.toNat u.m.words).getD (drawnAt u).toNat 0 = w := by
    have := fillT_at (u := u) (w := w) (k := u.c.width.toNat) (l := u.m.words) (fun j hj => by have := h.slots hl (j := j) (by omega) (by omega); omega) (j := (belowT u.tape u.th.width).1.toNat) (by omega)
    rwa [Int.toNat_of_nonneg b0] at this
  show some (collideT _) = _
  unfold collideT
  rw [if_neg (by show ¬ (19 : Int) = 17; omega), if_neg (by show ¬ (19 : Int) = 18; omega), if_pos rfl]
  unfold swapT
  have e1 : drawnAt ({ u with m := { u.m with words := fillT u w u.c.width.toNat u.m.words }, th := { u.th with phase := 19 } } : Turn) = drawnAt u := rfl
  rw [e1, if_neg (by simp only [drawnAt]; omega)]
  show some ((if 1 ≤ (fillT u w u.c.width.toNat u.m.words).getD (drawnAt u).toNat 0 ∧ (fillT u w u.c.width.toNat u.m.words).getD (drawnAt u).toNat 0 ≤ u.c.threads ∧ (fillT u w u.c.width.toNat u.m.words).getD (drawnAt u).toNat 0 ≠ u.t + 1 then _ else _), true) = _
  rw [hd, if_neg hq]

theorem pure_CollideSelf (u : Turn) (x1 : Int) (o : (valSt celTurn).Ok u) (o1 : (valInt .i64).Ok x1) : F_law15_CollideSelf u x1 = some true := by
  obtain ⟨b, hb, hbig⟩ := law15_big u
  obtain ⟨m, hm, hmay⟩ := law15_layered u
  simp only [F_law15_CollideSelf, C_law15_big, hb, C_law15_shown, law15_shown, C_law15_layered, hm]
  cases b with
  | true => rfl
  | false =>
  cases m with
  | false => rfl
  | true =>
  have hB := hbig rfl
  obtain ⟨hM, hL⟩ := hmay.1 rfl
  have hF := hM.fitC hB o hL
  have hl := hF.g.len
  have ht := hF.g.t
  have hth := hF.g.cfg.threads
  simp only [Bool.not_true, cond_false, cond_dec]
  by_cases a1 : u.th.layer > u.c.layers
  · rw [if_pos a1]
  by_cases a2 : u.th.width < 1
  · rw [if_neg a1, if_pos a2]
  by_cases a3 : u.th.width > u.c.width
  · rw [if_neg a1, if_neg a2, if_pos a3]
  rw [if_neg a1, if_neg a2, if_neg a3, few_true (by omega), cond_true]
  simp only [cond_true, self_fill _ hF (by omega)]
  have k1 : Num (u.t + 1) := ⟨by omega, by omega⟩
  have k2 : Num x1 := lit_ok o1
  rw [wrap_id (n := u.t + 1) (by omega) (by omega)]
  obtain ⟨m1, t1, s1⟩ := self_step hF (by omega) ⟨by omega, by omega⟩ k1 (by omega)
  by_cases b1 : x1 ≥ 1
  · by_cases b2 : x1 ≤ u.c.threads
    · rw [if_pos b1, if_pos b2]
      simp only [C_collide_Step, s1, beq_self_eq_true, cond_true]
    · obtain ⟨m2, t2, s2⟩ := self_step hF (by omega) ⟨by omega, by omega⟩ k2 (by omega)
      rw [if_pos b1, if_neg b2]
      simp only [C_collide_Step, s2, beq_self_eq_true, cond_true]
  · obtain ⟨m2, t2, s2⟩ := self_step hF (by omega) ⟨by omega, by omega⟩ k2 (by omega)
    rw [if_neg b1]
    simp only [C_collide_Step, s2, beq_self_eq_true, cond_true]

end Go.Proofs.Mill
