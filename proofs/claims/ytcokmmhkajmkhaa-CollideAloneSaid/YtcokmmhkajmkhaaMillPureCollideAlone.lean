/- The plain law of CollideAlone. -/
import Derived.Test.YtcokmmhkajmkhaaMillPCollide3
set_option linter.all false
namespace Go.Proofs.Mill

/-- A turn under way. -/
def aloneU (u : Turn) (b : List (List Entry)) (ws : List Int) (p l : Int) (t : Tape) : Turn :=
  { u with m := ⟨ws, b⟩, th := { u.th with phase := p, left := l }, tape := t }

theorem alone_fill {u : Turn} (h : FitC u) (hl : u.th.layer ≤ u.c.layers) :
    W_law15_CollideAlone_6 (u, u.c, u.m.words, 0) = some (u, u.c, fillT u 0 u.c.width.toNat u.m.words) := by
  have hw := h.g.cfg.width
  refine whileM_for (fun i => (u, u.c, fillT u 0 i u.m.words, (i : Int))) u.c.width.toNat (fun i hi => ?_) ?_
  · obtain ⟨s0, s1, s2⟩ := h.slots hl (j := i) (by omega) (by omega)
    simp only [T_law15_CollideAlone_6, S_law15_CollideAlone_6, cond_dec, C_ref06_Slot, ref06_slot h.g.cfg, fillT_len]
    rw [if_pos (by omega), if_pos s0, if_pos s2, wrap_id (by omega) (by omega)]
    rfl
  · simp only [T_law15_CollideAlone_6, S_law15_CollideAlone_6, cond_dec]
    rw [if_neg (by omega)]

structure AloneOK (u : Turn) (b : List (List Entry)) (ws : List Int) (t : Tape) : Prop where
  len : ws.length = u.m.words.length
  nums : ∀ n ∈ ws, Num n
  boxes : b.length = u.m.boxes.length
  box : ∀ x ∈ b, x.length ≤ 1000000
  tape : Num t.at_
  draws : t.l.length ≤ 4294967296

theorem aloneU_fit {u : Turn} (h : FitC u) {b : List (List Entry)} {ws : List Int} {t : Tape} (hk : AloneOK u b ws t) (p l : Int) : FitC (aloneU u b ws p l t) :=
  ⟨⟨h.g.cfg, h.g.t, by show (ws.length : Int) = _; rw [hk.len]; exact h.g.words, by show (b.length : Int) = _; rw [hk.boxes]; exact h.g.boxes, hk.nums, h.g.batch, h.g.kids, hk.box⟩, h.item, h.layer, hk.tape, hk.draws, h.width⟩

theorem pure_CollideAlone (u : Turn) (o : (valSt celTurn).Ok u) : F_law15_CollideAlone u = some true := by
  obtain ⟨b, hb, hbig⟩ := law15_big u
  obtain ⟨m, hm, hmay⟩ := law15_layered u
  simp only [F_law15_CollideAlone, C_law15_big, hb, C_law15_shown, law15_shown, C_law15_layered, hm]
  cases b with
  | true => rfl
  | false =>
  cases m with
  | false => rfl
  | true =>
  have hB := hbig rfl
  obtain ⟨hM, hL⟩ := hmay.1 rfl
  have hF := hM.fitC hB o hL
  have hl := hF.g.len
  have hi := hF.g.cfg.items
  have h2 := hF.item
  have ht := hF.g.t
  have hth := hF.g.cfg.threads
  have hsp := hF.g.cfg.spin
  have hwd := hF.g.cfg.width
  have hbx := hF.g.boxes
  have hbt := hB.batch
  simp only [Bool.not_true, cond_false, cond_dec]
  by_cases a1 : u.th.layer > u.c.layers
  · rw [if_pos a1]
  by_cases a2 : u.th.width < 1
  · rw [if_neg a1, if_pos a2]
  by_cases a3 : u.th.width > u.c.width
  · rw [if_neg a1, if_neg a2, if_pos a3]
  by_cases a5 : ¬ u.th.until_ = 0
  · rw [if_neg a1, if_neg a2, if_neg a3, bne_t a5]; rfl
  have a4 : u.th.until_ = 0 := Classical.byContradiction a5
  rw [if_neg a1, if_neg a2, if_neg a3, bne_f a4, cond_false, few_true (by omega), cond_true]
  simp only [alone_fill hF (by omega)]
  -- the states
  obtain ⟨mn, m0, m1⟩ := hF.mine
  obtain ⟨_, m2, m3⟩ := lineAt_in hF.g.cfg ht.1 ht.2
  obtain ⟨b0, b1⟩ := belowT_in u.tape (n := u.th.width) (by omega) (by omega)
  obtain ⟨s0, s1, s2⟩ := hF.slots (by omega) b0 (show (belowT u.tape u.th.width).1 < u.c.width by omega)
  have hlate : ¬ Late u := fun h => by have := h.1; omega
  obtain ⟨w0, hw0⟩ : ∃ w0, w0 = fillT u 0 u.c.width.toNat u.m.words := ⟨_, rfl⟩
  obtain ⟨bx, hbx0⟩ : ∃ bx, bx = u.m.boxes.set u.t.toNat u.th.batch := ⟨_, rfl⟩
  obtain ⟨t1, ht1⟩ : ∃ t1, t1 = (belowT u.tape u.th.width).2 := ⟨_, rfl⟩
  have l0 : w0.length = u.m.words.length := by rw [hw0, fillT_len]
  have n0 : ∀ n ∈ w0, Num n := by rw [hw0]; exact fillT_nums ⟨by omega, by omega⟩ _ hF.g.nums
  have k0 : AloneOK u u.m.boxes w0 u.tape := ⟨l0, n0, rfl, hF.g.box, hF.tape, hF.draws⟩
  have lb : bx.length = u.m.boxes.length := by rw [hbx0, List.length_set]
  have xb : ∀ x ∈ bx, x.length ≤ 1000000 := by
    intro x hx
    rw [hbx0] at hx
    rcases List.mem_or_eq_of_mem_set hx with hx | rfl
    · exact hF.g.box x hx
    · exact hF.g.batch
  have k1 : AloneOK u bx w0 u.tape := ⟨l0, n0, lb, xb, hF.tape, hF.draws⟩
  obtain ⟨w1, hw1⟩ : ∃ w1, w1 = w0.set (mineAt u).toNat (openW u) := ⟨_, rfl⟩
  have l1 : w1.length = u.m.words.length := by rw [hw1, List.length_set, l0]
  have k2 : AloneOK u bx w1 u.tape := ⟨l1, by rw [hw1]; exact nums_set n0 (openW_num hF) _, lb, xb, hF.tape, hF.draws⟩
  obtain ⟨w2, hw2⟩ : ∃ w2, w2 = w1.set (drawnAt u).toNat (u.t + 1) := ⟨_, rfl⟩
  have l2 : w2.length = u.m.words.length := by rw [hw2, List.length_set, l1]
  have k3 : AloneOK u bx w2 t1 := ⟨l2, by rw [hw2]; exact nums_set k2.nums (num_small (by omega) (by omega)) _, lb, xb, by rw [ht1]; exact belowT_num hF.tape hF.draws _, by rw [ht1, belowT_tape]; exact hF.draws⟩
  have hne : (mineAt u).toNat ≠ (drawnAt u).toNat := by simp only [mineAt, drawnAt] at *; omega
  have e1 : w1.getD (drawnAt u).toNat 0 = 0 := by
    rw [hw1, getD_set_ne hne, hw0]
    have := fillT_at (u := u) (w := 0) (k := u.c.width.toNat) (l := u.m.words) (fun j hj => by have := hF.slots (by omega) (j := j) (by omega) (by omega); omega) (j := (belowT u.tape u.th.width).1.toNat) (by omega)
    rwa [Int.toNat_of_nonneg b0] at this
  have e2 : w2.getD (mineAt u).toNat 0 = openW u := by
    rw [hw2, getD_set_ne hne.symm, hw1]
    exact getD_set_self (by omega)
  -- the steps
  have q1 : F_collide_Step (aloneU u u.m.boxes w0 17 u.th.left u.tape) = some (aloneU u bx w0 18 u.th.left u.tape, true) := by
    rw [cstep17 (aloneU_fit hF k0 _ _) rfl, hbx0]; rfl
  have q2 : F_collide_Step (aloneU u bx w0 18 u.th.left u.tape) = some (aloneU u bx w1 19 u.th.left u.tape, true) := by
    rw [cstep18 (aloneU_fit hF k1 _ _) rfl, hw1]; rfl
  have q3 : F_collide_Step (aloneU u bx w1 19 u.th.left u.tape) = some (aloneU u bx w2 23 u.c.spin t1, true) := by
    rw [cstep19 (aloneU_fit hF k2 _ _) rfl]
    unfold swapT
    have d1 : drawnAt (aloneU u bx w1 19 u.th.left u.tape) = drawnAt u := rfl
    rw [d1, if_neg (by simp only [drawnAt]; omega)]
    show some ((if 1 ≤ w1.getD (drawnAt u).toNat 0 ∧ w1.getD (drawnAt u).toNat 0 ≤ u.c.threads ∧ w1.getD (drawnAt u).toNat 0 ≠ u.t + 1 then _ else _), true) = _
    rw [e1, if_neg (by omega), hw2, ht1]
    rfl
  have q4 : ∀ l : Int, F_collide_Step (aloneU u bx w2 23 l t1) = some (if l > 0 then aloneU u bx w2 23 (wrapA .i64 (l - 1)) t1 else aloneU u bx w2 26 l t1, true) := by
    intro l
    rw [cstep23 (aloneU_fit hF k3 _ _) rfl, spinT_at e2]
    by_cases c : l > 0
    · rw [if_pos c, if_pos (show (aloneU u bx w2 23 l t1).th.left > 0 ∧ ¬ Late (aloneU u bx w2 23 l t1) from ⟨c, hlate⟩)]
      rfl
    · rw [if_neg c, if_neg (show ¬ ((aloneU u bx w2 23 l t1).th.left > 0 ∧ ¬ Late (aloneU u bx w2 23 l t1)) from fun h => c h.1)]
      rfl
  have hrun : ∀ (s v v' : Turn) (w : List Int) (n : Nat), (n : Int) < 60 → v.th.phase ≠ 26 → F_collide_Step v = some (v', true) →
      T_law15_CollideAlone_13 (s, u.c, w, v, (n : Int)) = some (.inl (s, u.c, w, v', ((n + 1 : Nat) : Int))) := by
    intro s v v' w n hn hp hv
    simp only [T_law15_CollideAlone_13, S_law15_CollideAlone_13, cond_dec, C_collide_Step, hv]
    rw [bne_t hp, cond_true, if_pos hn, wrap_id (by omega) (by omega)]
    rfl
  have hloop : W_law15_CollideAlone_13 (aloneU u u.m.boxes w0 17 u.th.left u.tape, u.c, w0, aloneU u u.m.boxes w0 17 u.th.left u.tape, 0) =
      some (.inl (aloneU u u.m.boxes w0 17 u.th.left u.tape, u.c, w0, aloneU u bx w2 26 0 t1, 4 + u.c.spin)) := by
    have st : ∀ (v v' : Turn) (n : Int) (k : Nat), n = (k : Int) → n < 60 → v.th.phase ≠ 26 → F_collide_Step v = some (v', true) →
        W_law15_CollideAlone_13 (aloneU u u.m.boxes w0 17 u.th.left u.tape, u.c, w0, v, n) = W_law15_CollideAlone_13 (aloneU u u.m.boxes w0 17 u.th.left u.tape, u.c, w0, v', n + 1) := by
      intro v v' n k hk hn hp hv
      subst hk
      unfold W_law15_CollideAlone_13
      rw [whileM_eq, hrun _ v v' w0 k hn hp hv]
      rfl
    rw [st _ _ 0 0 rfl (by omega) (by show (17 : Int) ≠ 26; omega) q1, st _ _ (0 + 1) 1 rfl (by omega) (by show (18 : Int) ≠ 26; omega) q2, st _ _ (0 + 1 + 1) 2 rfl (by omega) (by show (19 : Int) ≠ 26; omega) q3]
    have hfin := whileM_for (step := T_law15_CollideAlone_13) (fun i => (aloneU u u.m.boxes w0 17 u.th.left u.tape, u.c, w0, (if (i : Int) ≤ u.c.spin then aloneU u bx w2 23 (u.c.spin - i) t1 else aloneU u bx w2 26 0 t1), (i : Int) + 3)) (u.c.spin.toNat + 1)
      (y := .inl (aloneU u u.m.boxes w0 17 u.th.left u.tape, u.c, w0, aloneU u bx w2 26 0 t1, 4 + u.c.spin)) (fun i hi => ?_) ?_
    · simp only [Int.natCast_zero, if_pos hsp.1, Int.sub_zero] at hfin
      exact hfin
    · have h1 : (i : Int) ≤ u.c.spin := by omega
      simp only [if_pos h1]
      have := hrun (aloneU u u.m.boxes w0 17 u.th.left u.tape) (aloneU u bx w2 23 (u.c.spin - i) t1) _ w0 (i + 3) (by omega) (by show (23 : Int) ≠ 26; omega) (q4 _)
      rw [show ((i + 3 : Nat) : Int) = (i : Int) + 3 by omega, show ((i + 3 + 1 : Nat) : Int) = ((i + 1 : Nat) : Int) + 3 by omega] at this
      rw [this]
      by_cases h3 : ((i + 1 : Nat) : Int) ≤ u.c.spin
      · rw [if_pos (by omega), if_pos h3, wrap_id (by omega) (by omega), show u.c.spin - (i : Int) - 1 = u.c.spin - ((i + 1 : Nat) : Int) by omega]
      · rw [if_neg (by omega), if_neg h3, show u.c.spin - (i : Int) = 0 by omega]
    · have h1 : ¬ (((u.c.spin.toNat + 1 : Nat) : Int) ≤ u.c.spin) := by omega
      simp only [if_neg h1]
      rw [show ((u.c.spin.toNat + 1 : Nat) : Int) + 3 = 4 + u.c.spin by omega]
      rfl
  -- leaving
  have q5 : F_collide_Step (aloneU u bx w2 26 0 t1) = some (onwardT { setW (aloneU u bx w2 26 0 t1) (mineAt u) 0 with th := { u.th with phase := 26, left := 0, width := if u.th.width / 2 > 1 then u.th.width / 2 else 1 } }, true) := by
    rw [cstep26 (aloneU_fit hF k3 _ _) rfl]
    unfold leaveT
    rw [if_pos (show wordAt (aloneU u bx w2 26 0 t1) (mineAt (aloneU u bx w2 26 0 t1)) = openW (aloneU u bx w2 26 0 t1) from e2)]
    rfl
  rw [← hw0]
  simp only [aloneU] at hloop
  rw [hloop]
  simp only [C_ref06_Line, ref06_line hF.g.cfg, C_code_Open, code_open (i := u.th.item) (l := u.th.layer) (by omega) (by omega) (by omega) (by omega)]
  rw [wrap_id (n := 4 + u.c.spin) (by omega) (by omega)]
  have x1 : ((w2.length : Int) != (w0.length : Int)) = false := bne_f (by rw [l2, l0])
  have x2 : (w2.getD (lineAt u.c u.t).toNat 0 != 8 * (16 * u.th.item + u.th.layer + 1) + 4) = false := bne_f e2
  have x3 : ((bx.length : Int) != u.c.threads) = false := bne_f (by rw [lb]; exact hbx)
  have x4 : bx.getD u.t.toNat ([] : List Entry) = u.th.batch := by
    rw [hbx0, List.getD_eq_getElem?_getD, List.getElem?_set_self (by omega), Option.getD_some]
  simp only [bne_self_eq_false, cond_false, x1, x2, x3, x4]
  simp only [mineAt] at m0 m1
  rw [if_pos m0, if_pos (by rw [l2]; exact m1), if_pos ht.1, if_pos (by omega), if_neg (by omega), if_pos ht.1, if_pos (by omega)]
  simp only [C_law15_entries, law15_entries _ (show u.th.batch.length ≤ 4294967296 by omega), C_ref02_Same, same_refl _ (show u.th.batch.length ≤ 4294967296 by omega), Bool.not_true, cond_false]
  simp only [aloneU] at q5
  simp only [C_collide_Step, q5, Bool.not_true, cond_false, onwardT_m]
  have x5 : (((w2.set (lineAt u.c u.t).toNat 0).length : Int) != (w0.length : Int)) = false := bne_f (by rw [List.length_set, l2, l0])
  have x6 : ((w2.set (lineAt u.c u.t).toNat 0).getD (lineAt u.c u.t).toNat 0 != 0) = false := bne_f (getD_set_self (by omega))
  simp only [x5, cond_false, x6]
  rw [if_pos m0, if_pos (by rw [List.length_set, l2]; exact m1)]
  have x7 : wrapA .i64 (u.th.width.tdiv 2) = u.th.width / 2 := by rw [Int.tdiv_eq_ediv_of_nonneg (by omega), wrap_id (by omega) (by omega)]
  rw [x7]
  unfold onwardT
  by_cases c : u.th.layer < u.c.layers
  · rw [if_pos c, if_pos (by exact ⟨c, hlate⟩)]
    simp only [bne_self_eq_false, beq_self_eq_true, cond_false, cond_true]
  · rw [if_neg c, if_neg (by intro h; exact c h.1)]
    simp only [bne_self_eq_false, beq_self_eq_true, cond_false, cond_true]

end Go.Proofs.Mill
