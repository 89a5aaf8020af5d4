/- The plain law of ClimbOther. -/
import Derived.Test.YtcokmmhkajmkhaaMillPureClimbSteps
set_option linter.all false
namespace Go.Proofs.Mill

/-- What a step changes. -/
structure Little (u v : Turn) : Prop where
  words : v.m.words = u.m.words ∨ v.m.words = u.m.words.set (nodeOf u).toNat (8 * (u.t + 1) + 1) ∨ v.m.words = u.m.words.set (nodeOf u).toNat (8 * (u.t + 1) + 2)
  boxes : v.m.boxes = u.m.boxes

theorem climbT_little (u : Turn) : Little u (climbT u).1 := by
  have o : ∀ {v : Turn}, Little u v → Little u (overT v) := fun {v} h => ⟨h.words, h.boxes⟩
  have s : Little u u := ⟨.inl rfl, rfl⟩
  unfold climbT
  by_cases p4 : u.th.phase = 4
  · rw [if_pos p4]
    show Little u (if nodeOf u = -1 then u else lookT u _)
    unfold lookT
    repeat' split
    all_goals first | exact s | exact ⟨.inl rfl, rfl⟩
  rw [if_neg p4]
  by_cases p5 : u.th.phase = 5
  · rw [if_pos p5]
    show Little u (if nodeOf u = -1 then u else if wordAt u (nodeOf u) = 0 then takenT _ else _)
    unfold takenT
    repeat' split
    all_goals first | exact s | exact ⟨.inl rfl, rfl⟩ | exact ⟨.inr (.inl rfl), rfl⟩
  rw [if_neg p5]
  by_cases p6 : u.th.phase = 6
  · rw [if_pos p6]
    show Little u (if nodeOf u = -1 then u else if wordAt u (nodeOf u) = u.th.x then joinedT _ else _)
    repeat' split
    all_goals first | exact s | exact ⟨.inl rfl, rfl⟩ | exact ⟨.inr (.inr rfl), rfl⟩
  rw [if_neg p6]
  exact s

theorem getD_set_self {l : List Int} {i : Nat} {a : Int} (h : i < l.length) : (l.set i a).getD i 0 = a := by
  rw [List.getD_eq_getElem?_getD, List.getElem?_set_self h, Option.getD_some]
theorem getD_set_ne {l : List Int} {i j : Nat} {a : Int} (h : i ≠ j) : (l.set i a).getD j 0 = l.getD j 0 := by
  rw [List.getD_eq_getElem?_getD, List.getD_eq_getElem?_getD, List.getElem?_set_ne h]

theorem pure_ClimbOther (u : Turn) (o : (valSt celTurn).Ok u) : F_law13_ClimbOther u = some true := by
  obtain ⟨b, hb, hbig⟩ := law13_big u
  obtain ⟨m, hm, hmay⟩ := law13_may u
  simp only [F_law13_ClimbOther, C_law13_big, hb, C_law13_shown, law13_shown, C_law13_may, hm]
  cases b with
  | true => rfl
  | false =>
  cases m with
  | false => rfl
  | true =>
  have hB := hbig rfl
  have hM := hmay.1 rfl
  have hF := hM.fit hB o
  have hT := hM.t
  have hT2 := hM.cfg.threads
  obtain ⟨hw, hx⟩ := climbT_little u
  have hwl : (climbT u).1.m.words.length = u.m.words.length := by rcases hw with h | h | h <;> rw [h] <;> simp
  simp only [Bool.not_true, cond_false, C_climb_Step, climb_step hF, hwl, hx, bne_self_eq_false]
  generalize hv : (climbT u).1 = v at *
  have h7 : W_law13_ClimbOther_7 (u, v, 0) = some (.inl (u, v)) := by
    refine whileM_for (fun i => (u, v, (i : Int))) u.m.boxes.length (fun i hi => ?_) ?_
    · have h1 : (i : Int) < (u.m.boxes.length : Int) := by omega
      have h2 := hB.boxes
      have h3 : (u.m.boxes.getD i ([] : List Entry)).length ≤ 4294967296 := by
        have := hB.box (u.m.boxes.getD i []) (by rw [List.getD_eq_getElem?_getD, List.getElem?_eq_getElem hi, Option.getD_some]; exact List.getElem_mem hi)
        omega
      simp only [T_law13_ClimbOther_7, S_law13_ClimbOther_7, cond_dec, if_pos h1, if_pos (Int.natCast_nonneg i), hx, C_law13_entries, Int.toNat_natCast, law13_entries _ h3, C_ref02_Same, same_refl _ h3, Bool.not_true, cond_false]
      rw [wrap_id (by omega) (by omega)]
      rfl
    · simp [T_law13_ClimbOther_7, S_law13_ClimbOther_7]
  have h13 : W_law13_ClimbOther_13 (u, v, nodeOf u, 0) = some (.inl ()) := by
    refine whileM_for (fun i => (u, v, nodeOf u, (i : Int))) u.m.words.length (fun i hi => ?_) ?_
    · have h1 : (i : Int) < (u.m.words.length : Int) := by omega
      have h2 := hB.words
      simp only [T_law13_ClimbOther_13, S_law13_ClimbOther_13, cond_dec, if_pos h1, if_pos (Int.natCast_nonneg i), hwl, Int.toNat_natCast, C_code_First, code_first (t := u.t) (by omega) (by omega), C_code_Joined, code_joined (t := u.t) (by omega) (by omega)]
      rw [wrap_id (n := (i : Int) + 1) (by omega) (by omega)]
      by_cases e : v.m.words.getD i 0 = u.m.words.getD i 0
      · rw [bne_f e]
        rfl
      · rw [bne_t e, cond_true]
        have hi2 : (nodeOf u).toNat = i := by
          rcases hw with h | h | h
          · exact (e (by rw [h])).elim
          · by_cases hne : (nodeOf u).toNat = i
            · exact hne
            · exact (e (by rw [h, getD_set_ne hne])).elim
          · by_cases hne : (nodeOf u).toNat = i
            · exact hne
            · exact (e (by rw [h, getD_set_ne hne])).elim
        by_cases hn : nodeOf u = -1
        · exfalso
          have : v = u := by
            rw [← hv]
            unfold climbT
            rw [if_pos hn, if_pos hn, if_pos hn]
            repeat' split
            all_goals rfl
          exact e (by rw [this])
        obtain ⟨n0, _⟩ := hF.node hn
        have hi3 : (i : Int) = nodeOf u := by omega
        rw [bne_f hi3, cond_false]
        have hval : v.m.words.getD i 0 = 8 * (u.t + 1) + 1 ∨ v.m.words.getD i 0 = 8 * (u.t + 1) + 2 := by
          rcases hw with h | h | h
          · exact (e (by rw [h])).elim
          · left; rw [h, hi2, getD_set_self hi]
          · right; rw [h, hi2, getD_set_self hi]
        rcases hval with h | h
        · rw [bne_f h]; rfl
        · rw [bne_t (by omega : v.m.words.getD i 0 ≠ 8 * (u.t + 1) + 1), bne_f h]; rfl
    · simp [T_law13_ClimbOther_13, S_law13_ClimbOther_13]
  simp only [h7, C_ref06_Node, ref06_node hM.cfg, h13]

end Go.Proofs.Mill
