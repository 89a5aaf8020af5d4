/- The plain law of GatherLeaves. -/
import Derived.Test.YtcokmmhkajmkhaaMillPGather2
set_option linter.all false
namespace Go.Proofs.Mill

theorem pure_GatherLeaves (u : Turn) (o : (valSt celTurn).Ok u) : F_law14_GatherLeaves u = some true := by
  obtain ⟨b, hb, hbig⟩ := law14_big u
  obtain ⟨m, hm, hmay⟩ := law14_may u
  simp only [F_law14_GatherLeaves, C_law14_big, hb, C_law14_shown, law14_shown, C_law14_may, hm]
  cases m with
  | false => cases b <;> rfl
  | true =>
  have hM := hmay.1 rfl
  have hc := hM.cfg
  have ht := hc.threads
  have hT := hM.t
  simp only [cond_true, C_ref06_Node, ref06_node hc]
  cases b with
  | true => rfl
  | false =>
  have hB := hbig rfl
  have hF := hM.fitG hB o
  have hl := hF.len
  have hbx := hM.boxes
  have hbt := hB.batch
  simp only [Bool.not_true, cond_false, cond_dec]
  by_cases hn : nodeAt u.c u.th.item u.th.stop = -1
  · rw [if_pos (by omega)]
  obtain ⟨n0, n1⟩ := hF.node hn
  rw [if_neg (by omega)]
  generalize hat : nodeAt u.c u.th.item u.th.stop = at' at hn n0 n1 ⊢
  have f11 : FitG ({ u with th := { u.th with phase := 11 } } : Turn) := hF.of rfl rfl rfl hF.nums rfl rfl rfl
  have s1 : F_gather_Step ({ u with th := { u.th with phase := 11 } } : Turn) = some ({ u with m := { u.m with boxes := u.m.boxes.set u.t.toNat u.th.batch }, th := { u.th with phase := 12 } }, true) := by
    rw [gather_step f11]; rfl
  have f12 : FitG ({ u with m := { u.m with boxes := u.m.boxes.set u.t.toNat u.th.batch }, th := { u.th with phase := 12 } } : Turn) :=
    ⟨hF.cfg, hF.t, hF.words, by show ((u.m.boxes.set _ _).length : Int) = _; rw [List.length_set]; exact hF.boxes, hF.nums, hF.batch, hF.kids, fun x hx => by
      rcases List.mem_or_eq_of_mem_set hx with hx | rfl
      · exact hF.box x hx
      · exact hF.batch⟩
  have s2 : F_gather_Step ({ u with m := { u.m with boxes := u.m.boxes.set u.t.toNat u.th.batch }, th := { u.th with phase := 12 } } : Turn) =
      some ({ u with m := ⟨u.m.words.set at'.toNat (8 * (u.t + 1) + 3), u.m.boxes.set u.t.toNat u.th.batch⟩, th := { u.th with phase := 13 } }, true) := by
    rw [gather_step f12]
    unfold gatherT
    have e : nodeAt u.c u.th.item u.th.stop ≠ -1 := by rw [hat]; exact hn
    rw [if_neg (by show ¬ (12 : Int) = 7; omega), if_neg (by show ¬ (12 : Int) = 8; omega), if_neg (by show ¬ (12 : Int) = 9; omega), if_neg (by show ¬ (12 : Int) = 10; omega), if_neg (by show ¬ (12 : Int) = 11; omega), if_pos rfl]
    show some ((if nodeAt u.c u.th.item u.th.stop = -1 then _ else _), true) = _
    rw [if_neg e, hat]
  have hbox : (u.m.boxes.set u.t.toNat u.th.batch).getD u.t.toNat ([] : List Entry) = u.th.batch := by
    rw [List.getD_eq_getElem?_getD, List.getElem?_set_self (by omega), Option.getD_some]
  simp only [C_gather_Step, s1, s2, Bool.not_true, cond_false, List.length_set, bne_self_eq_false]
  rw [if_pos (by omega), if_pos (by omega), hbox, if_neg (by omega)]
  have hw : W_law14_GatherLeaves_13 ({ u with th := { u.th with phase := 11 } }, at', { u with m := { u.m with boxes := u.m.boxes.set u.t.toNat u.th.batch }, th := { u.th with phase := 12 } },
      { u with m := ⟨u.m.words.set at'.toNat (8 * (u.t + 1) + 3), u.m.boxes.set u.t.toNat u.th.batch⟩, th := { u.th with phase := 13 } }, 0) =
      some (.inl ({ u with th := { u.th with phase := 11 } }, at', { u with m := { u.m with boxes := u.m.boxes.set u.t.toNat u.th.batch }, th := { u.th with phase := 12 } },
      { u with m := ⟨u.m.words.set at'.toNat (8 * (u.t + 1) + 3), u.m.boxes.set u.t.toNat u.th.batch⟩, th := { u.th with phase := 13 } })) := by
    refine whileM_for (fun i => ({ u with th := { u.th with phase := 11 } }, at', { u with m := { u.m with boxes := u.m.boxes.set u.t.toNat u.th.batch }, th := { u.th with phase := 12 } },
      { u with m := ⟨u.m.words.set at'.toNat (8 * (u.t + 1) + 3), u.m.boxes.set u.t.toNat u.th.batch⟩, th := { u.th with phase := 13 } }, (i : Int))) u.m.words.length (fun i hi => ?_) ?_
    · have h1 : (i : Int) < (u.m.words.length : Int) := by omega
      simp only [T_law14_GatherLeaves_13, S_law14_GatherLeaves_13, cond_dec, List.length_set, if_pos h1, if_pos (Int.natCast_nonneg i), Int.toNat_natCast]
      rw [wrap_id (by omega) (by omega)]
      by_cases e : (i : Int) = at'
      · rw [bne_f e]; rfl
      · rw [bne_t e, cond_true, getD_set_ne (by omega), bne_self_eq_false]; rfl
    · simp [T_law14_GatherLeaves_13, S_law14_GatherLeaves_13]
  simp only [hw, List.length_set]
  rw [if_pos (by omega), if_pos (by omega), hbox]
  have hwd : (u.m.words.set at'.toNat (8 * (u.t + 1) + 3)).getD at'.toNat 0 = 8 * (u.t + 1) + 3 := getD_set_self (by omega)
  simp only [C_law14_entries, law14_entries _ (show u.th.batch.length ≤ 4294967296 by omega), C_ref02_Same, same_refl _ (show u.th.batch.length ≤ 4294967296 by omega), cond_true, if_pos n0, if_pos n1, C_code_Deposited, code_deposited (t := u.t) (by omega) (by omega), hwd, beq_self_eq_true]

end Go.Proofs.Mill
