/- The plain law of ClimbJoins. -/
import Derived.Test.YtcokmmhkajmkhaaMillPClimb2
namespace Go.Proofs.Mill

theorem pure_ClimbJoins (u : Turn) (x1 x2 : Int) (o : (valSt celTurn).Ok u) (o1 : (valInt .u8).Ok x1) (o2 : (valInt .u8).Ok x2) : F_law13_ClimbJoins u x1 x2 = some true := by
  obtain ⟨b, hb, hbig⟩ := law13_big u
  obtain ⟨m, hm, hmay⟩ := law13_may u
  simp only [F_law13_ClimbJoins, C_law13_big, hb, C_law13_shown, law13_shown, C_law13_may, hm]
  cases b with
  | true => rfl
  | false =>
  cases m with
  | false => rfl
  | true =>
  have hB := hbig rfl
  have hM := hmay.1 rfl
  have hF := hM.fit hB o
  have hS := hB.sm (n := 4294967296) (by omega)
  have hT := hM.t
  have hT2 := hM.cfg.threads
  have hW := hB.words
  have hH := hB.held
  simp only [Bool.not_true, cond_false, C_ref06_Node, ref06_node hM.cfg, cond_dec]
  by_cases hn : nodeOf u = -1
  · rw [if_pos (by show nodeOf u < 0; omega)]
  obtain ⟨n0, n1, n2, n3⟩ := hF.node hn
  obtain ⟨f0, f1⟩ := tmod_in (a := x1) (b := u.c.threads) (u8_num o1).1 (by omega)
  obtain ⟨g0, g1⟩ := tmod_in (a := x2) (b := u.c.threads) (u8_num o2).1 (by omega)
  have hf : fewB ((0 : Nat) + u.m.words.length) = true := few_true (by omega)
  rw [wrap_u8 o1, wrap_u8 o2, if_neg (by show ¬ nodeOf u < 0; omega), if_neg (by omega), hf, cond_true]
  generalize x1.tmod u.c.threads = f at f0 f1 ⊢
  generalize x2.tmod u.c.threads = g at g0 g1 ⊢
  have hlt : (nodeOf u).toNat < u.m.words.length := by omega
  simp only [C_code_First, code_first (t := f) (by omega) (by omega), C_code_Joined, code_joined (t := u.t) (by omega) (by omega), C_climb_Step, C_thread_Late, thread_late, C_law13_its, C_ref10_Alike]
  rw [if_pos (show (0 : Int) ≤ nodeAt u.c u.th.item u.th.node from n0), if_pos (show nodeAt u.c u.th.item u.th.node < (u.m.words.length : Int) from n1)]
  -- the first step
  have hU : Fit ({ u with m := { u.m with words := u.m.words.set (nodeOf u).toNat (8 * (f + 1) + 1) }, th := { u.th with phase := 4 } } : Turn) :=
    hF.of rfl hT (List.length_set ..) (nums_set hF.nums (num_small (by omega) (by omega)) _) hF.held
  have s1 := step_look hU rfl hn
  rw [show wordAt ({ u with m := { u.m with words := u.m.words.set (nodeOf u).toNat (8 * (f + 1) + 1) }, th := { u.th with phase := 4 } } : Turn) (nodeOf u) = 8 * (f + 1) + 1 from getD_set_self hlt, look_first f0 (by omega)] at s1
  simp only [s1]
  -- the second
  have hA : Fit ({ u with m := { u.m with words := u.m.words.set (nodeOf u).toNat (8 * (f + 1) + 1) }, th := { u.th with phase := 6, x := 8 * (f + 1) + 1 } } : Turn) := ⟨hU.cfg, hU.t, hU.words, hU.nums, hU.held⟩
  have s2 := step_join hA rfl hn
  rw [if_pos (show wordAt ({ u with m := { u.m with words := u.m.words.set (nodeOf u).toNat (8 * (f + 1) + 1) }, th := { u.th with phase := 6, x := 8 * (f + 1) + 1 } } : Turn) (nodeOf u) = 8 * (f + 1) + 1 from getD_set_self hlt)] at s2
  generalize hBd : joinedT _ = B at s2
  have b1 : B.th.stop = u.th.node := by rw [← hBd]; rfl
  have b2 : B.m.words = (u.m.words.set (nodeOf u).toNat (8 * (f + 1) + 1)).set (nodeOf u).toNat (8 * (u.t + 1) + 2) := by rw [← hBd]; rfl
  have b3 : B.th.phase ≠ 4 := by rw [← hBd]; exact over_phase _
  have b4 : B.m.boxes = u.m.boxes := by rw [← hBd]; rfl
  have b5 : B.m.words.length = u.m.words.length := by rw [b2, List.length_set, List.length_set]
  have b6 : B.m.words.getD (nodeOf u).toNat 0 = 8 * (u.t + 1) + 2 := by rw [b2]; exact getD_set_self (by rw [List.length_set]; exact hlt)
  simp only [s2, Bool.not_true, cond_false, bne_self_eq_false, b1, b5, List.length_set]
  rw [if_pos (show (0 : Int) ≤ nodeAt u.c u.th.item u.th.node from n0), if_pos (show nodeAt u.c u.th.item u.th.node < (u.m.words.length : Int) from n1), bne_f b6, cond_false, beq_f b3, cond_false, if_neg (by omega)]
  -- the third
  have hV : Fit (Turn.mk u.c g u.now B.m { u.th with phase := 4 } ⟨[], 0⟩ [] false) :=
    hF.of rfl ⟨g0, g1⟩ b5 (by show ∀ n ∈ B.m.words, Num n; rw [b2]; exact nums_set (nums_set hF.nums (num_small (by omega) (by omega)) _) (num_small (by omega) (by omega)) _) hF.held
  have s3 := step_look hV rfl hn
  rw [show wordAt (Turn.mk u.c g u.now B.m { u.th with phase := 4 } ⟨[], 0⟩ [] false) (nodeOf u) = 8 * (u.t + 1) + 2 from b6, look_joined hT.1 (by omega)] at s3
  have hSV : Sm 4294967296 (Turn.mk u.c g u.now B.m { u.th with phase := 4 } ⟨[], 0⟩ [] false) := ⟨by show B.m.words.length ≤ _; omega, by show B.m.boxes.length ≤ _; rw [b4]; exact hS.boxes, by show ∀ b ∈ B.m.boxes, _; rw [b4]; exact hS.box, hS.batch, hS.kids, hS.held, by show 0 ≤ _; omega, by show 0 ≤ _; omega⟩
  rw [s3]
  by_cases hL : Late (Turn.mk u.c g u.now B.m { u.th with phase := 4 } ⟨[], 0⟩ [] false)
  · rw [decide_eq_true hL, if_pos hL]
    simp only [cond_true]
    rw [bne_t (over_phase _), cond_true]
    exact congrArg some (beq_t rfl)
  · rw [decide_eq_false hL, if_neg hL]
    simp only [cond_true, cond_false, law13_its _ hSV, alike_refl _ hSV]

end Go.Proofs.Mill
