/- The plain law of CollideCaught. -/
import Derived.Test.YtcokmmhkajmkhaaMillPCollide2
set_option linter.all false
namespace Go.Proofs.Mill

theorem caught_step {u : Turn} (h : FitC u) (hp : u.th.phase = 20 ∨ u.th.phase = 23 ∨ u.th.phase = 26) (hw : wordAt u (mineAt u) ≠ openW u) : F_collide_Step u = some ({ u with th := { u.th with phase := 13 } }, true) := by
  rw [collide_step h]
  have mn := h.mine.1
  unfold collideT
  rcases hp with hp | hp | hp
  · rw [if_neg (by omega), if_neg (by omega), if_neg (by omega), if_pos hp]
    unfold comparedT
    rw [if_neg mn, if_neg hw]
  · rw [if_neg (by omega), if_neg (by omega), if_neg (by omega), if_neg (by omega), if_neg (by omega), if_neg (by omega), if_pos hp]
    unfold spinT
    rw [if_pos hw]
  · rw [if_neg (by omega), if_neg (by omega), if_neg (by omega), if_neg (by omega), if_neg (by omega), if_neg (by omega), if_neg (by omega), if_neg (by omega), if_pos hp]
    unfold leaveT
    rw [if_neg hw]

theorem pure_CollideCaught (u : Turn) (x1 x2 : Int) (o : (valSt celTurn).Ok u) (o1 : (valInt .i64).Ok x1) (o2 : (valInt .u8).Ok x2) : F_law15_CollideCaught u x1 x2 = some true := by
  obtain ⟨b, hb, hbig⟩ := law15_big u
  obtain ⟨m, hm, hmay⟩ := law15_layered u
  simp only [F_law15_CollideCaught, C_law15_big, hb, C_law15_shown, law15_shown, C_law15_layered, hm]
  cases b with
  | true => rfl
  | false =>
  cases m with
  | false => rfl
  | true =>
  have hB := hbig rfl
  obtain ⟨hM, hL⟩ := hmay.1 rfl
  have hF := hM.fitC hB o hL
  have hS := hB.sm (n := 4294967296) (by omega)
  have hi := hF.g.cfg.items
  have h2 := hF.item
  have hl := hF.g.len
  obtain ⟨mn, m0, m1⟩ := hF.mine
  simp only [Bool.not_true, cond_false, cond_dec, C_code_Open, code_open (i := u.th.item) (l := u.th.layer) (by omega) (by omega) (by omega) (by omega)]
  by_cases e : x1 = openW u
  · rw [beq_t e, cond_true]
  rw [beq_f e, cond_false]
  obtain ⟨g0, g1⟩ := tmod_in (a := x2) (b := 3) (u8_num o2).1 (by omega)
  rw [wrap_u8 o2, few_true (by omega), cond_true]
  simp only [C_ref06_Line, ref06_line hF.g.cfg]
  rw [if_pos m0, if_pos m1, if_pos g0, if_pos (by simp only [List.length_cons, List.length_nil]; omega)]
  have hn := nums_set hF.g.nums (w := x1) (lit_ok o1) (mineAt u).toNat
  have key : ∀ p : Int, p = 20 ∨ p = 23 ∨ p = 26 → F_collide_Step ({ u with m := { u.m with words := u.m.words.set (mineAt u).toNat x1 }, th := { u.th with phase := p } } : Turn) =
      some ({ u with m := { u.m with words := u.m.words.set (mineAt u).toNat x1 }, th := { u.th with phase := 13 } }, true) := by
    intro p hp
    refine caught_step (hF.of rfl rfl (List.length_set ..) hn rfl rfl rfl rfl rfl rfl rfl) hp ?_
    show (u.m.words.set (mineAt u).toNat x1).getD (mineAt u).toNat 0 ≠ openW u
    rw [getD_set_self (by omega)]
    exact e
  have hS3 : Sm 4294967296 ({ u with m := { u.m with words := u.m.words.set (mineAt u).toNat x1 }, th := { u.th with phase := 13 } } : Turn) := hS.same (List.length_set ..) rfl rfl rfl rfl rfl rfl
  have hp : ((20 : Int) :: (23 : Int) :: (26 : Int) :: ([] : List Int)).getD (x2.tmod 3).toNat 0 = 20 ∨ ((20 : Int) :: (23 : Int) :: (26 : Int) :: ([] : List Int)).getD (x2.tmod 3).toNat 0 = 23 ∨ ((20 : Int) :: (23 : Int) :: (26 : Int) :: ([] : List Int)).getD (x2.tmod 3).toNat 0 = 26 := by
    generalize x2.tmod 3 = g at g0 g1
    have : g = 0 ∨ g = 1 ∨ g = 2 := by omega
    rcases this with rfl | rfl | rfl <;> simp
  simp only [C_collide_Step, key _ hp, cond_true, C_law15_its, law15_its _ hS3, C_ref10_Alike, alike_refl _ hS3]

end Go.Proofs.Mill
