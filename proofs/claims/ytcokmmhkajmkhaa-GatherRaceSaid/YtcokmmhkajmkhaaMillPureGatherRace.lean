/- The plain law of GatherRace. -/
import Derived.Test.YtcokmmhkajmkhaaMillPureGatherWaits
set_option linter.all false
namespace Go.Proofs.Mill

theorem pure_GatherRace (u : Turn) (x1 : Int) (o : (valSt celTurn).Ok u) (o1 : (valInt .u8).Ok x1) : F_law14_GatherRace u x1 = some true := by
  obtain ⟨b, hb, hbig⟩ := law14_big u
  obtain ⟨m, hm, hmay⟩ := law14_may u
  simp only [F_law14_GatherRace, C_law14_big, hb, C_law14_shown, law14_shown, C_law14_may, hm]
  cases b with
  | true => rfl
  | false =>
  cases m with
  | false => rfl
  | true =>
  have hB := hbig rfl
  have hM := hmay.1 rfl
  have hF := hM.fitG hB o
  have hS := hB.sm (n := 4294967296) (by omega)
  have hc := hM.cfg
  have ht := hc.threads
  have hT := hM.t
  have hl := hF.len
  simp only [Bool.not_true, cond_false, cond_dec, C_ref06_Node, ref06_node hc]
  by_cases h0 : u.th.at_ < 0
  · rw [if_pos h0]
  rw [if_neg h0]
  by_cases h1 : u.th.at_ ≥ (u.th.held.length : Int)
  · rw [if_pos h1]
  rw [if_neg h1, if_pos (by omega), if_pos (by omega), ← heldAt_in h0 h1]
  by_cases hn : heldAt u = -1
  · rw [if_pos (by omega)]
  obtain ⟨n0, n1⟩ := hF.held hn
  obtain ⟨g0, g1⟩ := tmod_in (a := x1) (b := u.c.threads) (u8_num o1).1 (by omega)
  rw [wrap_u8 o1, if_neg (by omega), few_true (by omega), cond_true]
  generalize x1.tmod u.c.threads = g at g0 g1 ⊢
  simp only [C_code_First, code_first (t := u.t) (by omega) (by omega), C_code_Joined, code_joined (t := g) (by omega) (by omega), List.length_set]
  rw [if_pos n0, if_pos n1]
  have hlt : (heldAt u).toNat < u.m.words.length := by omega
  have hn1 := nums_set hF.nums (num_small (w := 8 * (u.t + 1) + 1) (by omega) (by omega)) (heldAt u).toNat
  have hn2 := nums_set hn1 (num_small (w := 8 * (g + 1) + 2) (by omega) (by omega)) (heldAt u).toNat
  have f7 : FitG ({ u with m := { u.m with words := u.m.words.set (heldAt u).toNat (8 * (u.t + 1) + 1) }, th := { u.th with phase := 7 } } : Turn) := hF.of rfl rfl (List.length_set ..) hn1 rfl rfl rfl
  have s7 := (gather_first f7 hn (getD_set_self hlt)).1 rfl
  have hw : ((u.m.words.set (heldAt u).toNat (8 * (u.t + 1) + 1)).set (heldAt u).toNat (8 * (g + 1) + 2)).getD (heldAt u).toNat 0 = 8 * (g + 1) + 2 := getD_set_self (by rw [List.length_set]; exact hlt)
  have f8 : FitG ({ u with m := { u.m with words := (u.m.words.set (heldAt u).toNat (8 * (u.t + 1) + 1)).set (heldAt u).toNat (8 * (g + 1) + 2) }, th := { u.th with phase := 8 } } : Turn) := hF.of rfl rfl (by rw [List.length_set, List.length_set]) hn2 rfl rfl rfl
  have f9 : FitG ({ u with m := { u.m with words := (u.m.words.set (heldAt u).toNat (8 * (u.t + 1) + 1)).set (heldAt u).toNat (8 * (g + 1) + 2) }, th := { u.th with phase := 7 } } : Turn) := hF.of rfl rfl (by rw [List.length_set, List.length_set]) hn2 rfl rfl rfl
  have s8 := (gather_waits f8 g0 (by omega) hn hw).2 rfl
  have s9 := (gather_waits f9 g0 (by omega) hn hw).1 rfl
  have hS9 : Sm 4294967296 ({ u with m := { u.m with words := (u.m.words.set (heldAt u).toNat (8 * (u.t + 1) + 1)).set (heldAt u).toNat (8 * (g + 1) + 2) }, th := { u.th with phase := 7 } } : Turn) := hS.same (by rw [List.length_set, List.length_set]) rfl rfl rfl rfl rfl rfl
  simp only [C_gather_Step, s7]
  rw [few_true (by omega), cond_true, if_neg (by omega), if_pos n0, if_pos n1]
  simp only [s8, s9, beq_self_eq_true, cond_true, List.length_set, if_pos n0, if_pos n1, C_law14_its, law14_its _ hS9, C_ref10_Alike, alike_refl _ hS9]

end Go.Proofs.Mill
