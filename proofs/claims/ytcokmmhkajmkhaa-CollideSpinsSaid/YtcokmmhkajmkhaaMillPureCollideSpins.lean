/- The plain law of CollideSpins. -/
import Derived.Test.YtcokmmhkajmkhaaMillPCollide3
set_option linter.all false
namespace Go.Proofs.Mill

/-- A turn that spins. -/
def spunU (u : Turn) (l p : Int) : Turn :=
  { u with m := { u.m with words := u.m.words.set (lineAt u.c u.t).toNat (8 * (16 * u.th.item + u.th.layer + 1) + 4) }, th := { u.th with phase := p, left := l } }

theorem spunU_fit {u : Turn} (h : FitC u) (l p : Int) : FitC (spunU u l p) :=
  h.of rfl rfl (List.length_set ..) (nums_set h.g.nums (openW_num h) _) rfl rfl rfl rfl rfl rfl rfl

theorem spunU_step {u : Turn} (h : FitC u) (l : Int) : F_collide_Step (spunU u l 23) = some (if l > 0 ∧ ¬ Late u then spunU u (wrapA .i64 (l - 1)) 23 else spunU u l 26, true) := by
  rw [cstep23 (spunU_fit h l 23) rfl, spinT_at]
  · rfl
  · exact getD_set_self (by have := h.mine; simp only [mineAt] at this; omega)

theorem pure_CollideSpins (u : Turn) (x1 : Int) (o : (valSt celTurn).Ok u) (o1 : (valInt .u8).Ok x1) : F_law15_CollideSpins u x1 = some true := by
  obtain ⟨b, hb, hbig⟩ := law15_big u
  obtain ⟨m, hm, hmay⟩ := law15_layered u
  simp only [F_law15_CollideSpins, C_law15_big, hb, C_law15_shown, law15_shown, C_law15_layered, hm]
  cases b with
  | true => rfl
  | false =>
  cases m with
  | false => rfl
  | true =>
  have hB := hbig rfl
  obtain ⟨hM, hL⟩ := hmay.1 rfl
  have hF := hM.fitC hB o hL
  have hi := hF.g.cfg.items
  have h2 := hF.item
  have hl := hF.g.len
  obtain ⟨mn, m0, m1⟩ := hF.mine
  obtain ⟨g0, g1⟩ := tmod_in (a := x1) (b := 30) (u8_num o1).1 (by omega)
  simp only [Bool.not_true, cond_false, cond_dec, C_code_Open, code_open (i := u.th.item) (l := u.th.layer) (by omega) (by omega) (by omega) (by omega), C_ref06_Line, ref06_line hF.g.cfg]
  rw [wrap_u8 o1, few_true (by omega), cond_true, if_pos m0, if_pos m1]
  generalize x1.tmod 30 = L at g0 g1 ⊢
  have hrun : ∀ (w : List Int) (l : Int) (n : Nat) (v : Turn), (n : Int) < 50 → F_collide_Step (spunU u l 23) = some (v, true) →
      T_law15_CollideSpins_11 (spunU u L 23, w, spunU u l 23, (n : Int)) = some (.inl (spunU u L 23, w, v, ((n + 1 : Nat) : Int))) := by
    intro w l n v hn hv
    simp only [T_law15_CollideSpins_11, S_law15_CollideSpins_11, cond_dec, C_collide_Step, hv]
    rw [show (spunU u l 23).th.phase = 23 from rfl, beq_self_eq_true, cond_true, if_pos hn, wrap_id (by omega) (by omega)]
    rfl
  have hend : ∀ (w : List Int) (l n : Int), T_law15_CollideSpins_11 (spunU u L 23, w, spunU u l 26, n) = some (.inr (.inl (spunU u L 23, w, spunU u l 26, n))) := fun w l n => rfl
  by_cases hla : Late u
  · have hw : ∀ w : List Int, W_law15_CollideSpins_11 (spunU u L 23, w, spunU u L 23, 0) = some (.inl (spunU u L 23, w, spunU u L 26, 1)) := by
      intro w
      refine whileM_for (fun i => (spunU u L 23, w, (if i = 0 then spunU u L 23 else spunU u L 26), (i : Int))) 1 (fun i hi => ?_) (hend w L 1)
      have : i = 0 := by omega
      subst this
      exact hrun w L 0 _ (by omega) (by rw [spunU_step hF, if_neg (fun h => h.2 hla)]; rfl)
    have hw := hw (u.m.words.set (lineAt u.c u.t).toNat (8 * (16 * u.th.item + u.th.layer + 1) + 4))
    simp only [spunU] at hw
    rw [hw]
    simp only [C_thread_Late, thread_late]
    rw [decide_eq_true (show Late { u with m := { u.m with words := u.m.words.set (lineAt u.c u.t).toNat (8 * (16 * u.th.item + u.th.layer + 1) + 4) }, th := { u.th with phase := 23, left := L } } from hla)]
    rfl
  · have hw : ∀ w : List Int, W_law15_CollideSpins_11 (spunU u L 23, w, spunU u L 23, 0) = some (.inl (spunU u L 23, w, spunU u 0 26, L + 1)) := by
      intro w
      have hfin := whileM_for (step := T_law15_CollideSpins_11) (fun i => (spunU u L 23, w, (if (i : Int) ≤ L then spunU u (L - i) 23 else spunU u 0 26), (i : Int))) (L.toNat + 1) (y := .inl (spunU u L 23, w, spunU u 0 26, L + 1)) (fun i hi => ?_) ?_
      · simp only [Int.natCast_zero, if_pos g0, Int.sub_zero] at hfin
        exact hfin
      · have h1 : (i : Int) ≤ L := by omega
        simp only [if_pos h1]
        refine hrun w (L - i) i _ (by omega) ?_
        rw [spunU_step hF]
        by_cases h3 : ((i + 1 : Nat) : Int) ≤ L
        · rw [if_pos (by exact ⟨by omega, hla⟩), if_pos h3, wrap_id (by omega) (by omega), show L - (i : Int) - 1 = L - ((i + 1 : Nat) : Int) by omega]
        · rw [if_neg (by intro h; omega), if_neg h3, show L - (i : Int) = 0 by omega]
      · have h1 : ¬ (((L.toNat + 1 : Nat) : Int) ≤ L) := by omega
        have h3 : ((L.toNat + 1 : Nat) : Int) = L + 1 := by omega
        simp only [if_neg h1]
        rw [h3]
        exact hend w 0 (L + 1)
    have hw := hw (u.m.words.set (lineAt u.c u.t).toNat (8 * (16 * u.th.item + u.th.layer + 1) + 4))
    simp only [spunU] at hw
    rw [hw]
    simp only [C_thread_Late, thread_late]
    rw [decide_eq_false (show ¬ Late { u with m := { u.m with words := u.m.words.set (lineAt u.c u.t).toNat (8 * (16 * u.th.item + u.th.layer + 1) + 4) }, th := { u.th with phase := 23, left := L } } from hla), cond_false,
      wrap_id (n := L + 1) (by omega) (by omega)]
    simp only [beq_self_eq_true, cond_true]

end Go.Proofs.Mill
