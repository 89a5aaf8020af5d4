/- The plain law of ClimbRace. -/
import Derived.Test.YtcokmmhkajmkhaaMillPClimb2
namespace Go.Proofs.Mill

theorem pure_ClimbRace (u : Turn) (x1 : Int) (o : (valSt celTurn).Ok u) (o1 : (valInt .u8).Ok x1) : F_law13_ClimbRace u x1 = some true := by
  obtain ⟨b, hb, hbig⟩ := law13_big u
  obtain ⟨m, hm, hmay⟩ := law13_may u
  simp only [F_law13_ClimbRace, C_law13_big, hb, C_law13_shown, law13_shown, C_law13_may, hm]
  cases b with
  | true => rfl
  | false =>
  cases m with
  | false => rfl
  | true =>
  have hB := hbig rfl
  have hM := hmay.1 rfl
  have hF := hM.fit hB o
  have hT := hM.t
  have hT2 := hM.cfg.threads
  have hW := hB.words
  have hH := hB.held
  simp only [Bool.not_true, cond_false, C_ref06_Node, ref06_node hM.cfg, cond_dec]
  by_cases ht2 : u.c.threads < 2
  · rw [if_pos ht2]
  rw [if_neg ht2]
  by_cases hn : nodeOf u = -1
  · rw [if_pos (by show nodeOf u < 0; omega)]
  obtain ⟨n0, n1, n2, n3⟩ := hF.node hn
  have hf : fewB ((0 : Nat) + u.m.words.length) = true := few_true (by omega)
  have hx := u8_num o1
  obtain ⟨f0, f1⟩ := tmod_in (a := x1) (b := u.c.threads - 1) hx.1 (by omega)
  rw [if_neg (by show ¬ nodeOf u < 0; omega), hf, cond_true, if_pos (show (0 : Int) ≤ nodeAt u.c u.th.item u.th.node from n0), if_pos (show nodeAt u.c u.th.item u.th.node < (u.m.words.length : Int) from n1),
    wrap_u8 o1, wrap_id (n := u.c.threads - 1) (by omega) (by omega), wrap_id (n := u.t + 1) (by omega) (by omega), wrap_id (n := u.t + 1 + x1.tmod (u.c.threads - 1)) (by omega) (by omega), if_neg (by omega), if_neg (by omega)]
  obtain ⟨g0, g1⟩ := tmod_in (a := u.t + 1 + x1.tmod (u.c.threads - 1)) (b := u.c.threads) (by omega) (by omega)
  generalize (u.t + 1 + x1.tmod (u.c.threads - 1)).tmod u.c.threads = g at g0 g1 ⊢
  have hlt : (nodeOf u).toNat < u.m.words.length := by omega
  simp only [C_code_First, code_first (t := u.t) (by omega) (by omega), C_code_Joined, code_joined (t := g) (by omega) (by omega), C_climb_Step]
  -- both look
  have hU : Fit ({ u with m := { u.m with words := u.m.words.set (nodeOf u).toNat 0 }, th := { u.th with phase := 4 } } : Turn) :=
    hF.of rfl hT (List.length_set ..) (nums_set hF.nums (num_small (by omega) (by omega)) _) hF.held
  have s1 := step_look hU rfl hn
  rw [show wordAt ({ u with m := { u.m with words := u.m.words.set (nodeOf u).toNat 0 }, th := { u.th with phase := 4 } } : Turn) (nodeOf u) = 0 from getD_set_self hlt, look_free] at s1
  have hV : Fit ({ u with t := g, m := { u.m with words := u.m.words.set (nodeOf u).toNat 0 }, th := { u.th with phase := 4 } } : Turn) := hU.of rfl ⟨g0, g1⟩ rfl hU.nums hU.held
  have s2 := step_look hV rfl hn
  rw [show wordAt ({ u with t := g, m := { u.m with words := u.m.words.set (nodeOf u).toNat 0 }, th := { u.th with phase := 4 } } : Turn) (nodeOf u) = 0 from getD_set_self hlt, look_free] at s2
  simp only [s1, s2, bne_self_eq_false, cond_false]
  -- the first one takes
  have hA : Fit ({ u with m := { u.m with words := u.m.words.set (nodeOf u).toNat 0 }, th := { u.th with phase := 5 } } : Turn) := hU.of rfl hT rfl hU.nums hU.held
  have s3 := step_take hA rfl hn
  rw [if_pos (show wordAt ({ u with m := { u.m with words := u.m.words.set (nodeOf u).toNat 0 }, th := { u.th with phase := 5 } } : Turn) (nodeOf u) = 0 from getD_set_self hlt)] at s3
  generalize hXd : takenT _ = X at s3
  have b1 : X.th.held = u.th.held ++ [u.th.node] := by rw [← hXd]; unfold takenT; split <;> rfl
  have b2 : X.m.words = (u.m.words.set (nodeOf u).toNat 0).set (nodeOf u).toNat (8 * (u.t + 1) + 1) := by rw [← hXd]; unfold takenT; split <;> rfl
  have b5 : X.m.words.length = u.m.words.length := by rw [b2, List.length_set, List.length_set]
  have b6 : X.m.words.getD (nodeOf u).toNat 0 = 8 * (u.t + 1) + 1 := by rw [b2]; exact getD_set_self (by rw [List.length_set]; exact hlt)
  have b7 : (X.th.held.length : Int) = (u.th.held.length : Int) + 1 := by rw [b1, List.length_append]; simp
  simp only [s3, b5, List.length_set, bne_self_eq_false, cond_false]
  rw [wrap_id (n := (u.th.held.length : Int) + 1) (by omega) (by omega), bne_f b7, cond_false, if_pos (show (0 : Int) ≤ nodeAt u.c u.th.item u.th.node from n0), if_pos (show nodeAt u.c u.th.item u.th.node < (u.m.words.length : Int) from n1), bne_f b6, cond_false]
  -- the other one comes back
  have hN : ∀ n ∈ X.m.words, Num n := by rw [b2]; exact nums_set (nums_set hF.nums (num_small (by omega) (by omega)) _) (num_small (by omega) (by omega)) _
  have hQ : Fit ({ u with t := g, m := X.m, th := { u.th with phase := 5 } } : Turn) := hF.of rfl ⟨g0, g1⟩ b5 hN hF.held
  have s4 := step_take hQ rfl hn
  rw [if_neg (by rw [show wordAt ({ u with t := g, m := X.m, th := { u.th with phase := 5 } } : Turn) (nodeOf ({ u with t := g, m := X.m, th := { u.th with phase := 5 } } : Turn)) = 8 * (u.t + 1) + 1 from b6]; omega)] at s4
  simp only [s4]
  have hY : Fit ({ u with t := g, m := X.m, th := { u.th with phase := 4 } } : Turn) := hF.of rfl ⟨g0, g1⟩ b5 hN hF.held
  have s5 := step_look hY rfl hn
  rw [show wordAt ({ u with t := g, m := X.m, th := { u.th with phase := 4 } } : Turn) (nodeOf u) = 8 * (u.t + 1) + 1 from b6, look_first hT.1 (by omega)] at s5
  simp only [s5]
  have hZ : Fit ({ u with t := g, m := X.m, th := { u.th with phase := 6, x := 8 * (u.t + 1) + 1 } } : Turn) := hF.of rfl ⟨g0, g1⟩ b5 hN hF.held
  have s6 := step_join hZ rfl hn
  rw [if_pos (show wordAt ({ u with t := g, m := X.m, th := { u.th with phase := 6, x := 8 * (u.t + 1) + 1 } } : Turn) (nodeOf u) = 8 * (u.t + 1) + 1 from b6)] at s6
  generalize hJd : joinedT _ = J at s6
  have c1 : J.th.stop = u.th.node := by rw [← hJd]; rfl
  have c2 : J.m.words = X.m.words.set (nodeOf u).toNat (8 * (g + 1) + 2) := by rw [← hJd]; rfl
  have c5 : J.m.words.length = u.m.words.length := by rw [c2, List.length_set, b5]
  have c6 : J.m.words.getD (nodeOf u).toNat 0 = 8 * (g + 1) + 2 := by rw [c2]; exact getD_set_self (by rw [b5]; exact hlt)
  simp only [s6, c1, c5, beq_self_eq_true, cond_true]
  rw [if_pos (show (0 : Int) ≤ nodeAt u.c u.th.item u.th.node from n0), if_pos (show nodeAt u.c u.th.item u.th.node < (u.m.words.length : Int) from n1), beq_t c6]

end Go.Proofs.Mill
