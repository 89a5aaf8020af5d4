/- The plain law of MachineOne. -/
import Derived.Test.YtecgogmolkjhjaaGreatMillPStep
import Derived.Test.YtecgogmolkjhjaaGreatMillPMachine
namespace Go.Proofs.Mill
set_option linter.all false

/-- One word, or one box, at most. -/
def One (m n : Memo) : Prop := (∃ a w, n = { m with words := m.words.set a w }) ∨ (∃ i b, n = { m with boxes := m.boxes.set i b }) ∨ n = m

theorem One.refl (m : Memo) : One m m := .inr (.inr rfl)
theorem One.word (m : Memo) (a : Nat) (w : Int) : One m { m with words := m.words.set a w } := .inl ⟨a, w, rfl⟩
theorem One.box (m : Memo) (i : Nat) (b : List Entry) : One m { m with boxes := m.boxes.set i b } := .inr (.inl ⟨i, b, rfl⟩)
theorem One.same {m n k : Memo} (h : One m n) (e : k = n) : One m k := e ▸ h

theorem settleT_m (u : Turn) : (settleT u).m = u.m := by unfold settleT; split <;> rfl
theorem startT_m (u : Turn) : (startT u).m = u.m := by unfold startT; repeat' split
                                                       all_goals rfl
theorem lookT_m (u : Turn) (w : Int) : (lookT u w).m = u.m := by unfold lookT; repeat' split
                                                                 all_goals rfl
theorem takenT_m (u : Turn) : (takenT u).m = u.m := by unfold takenT; split <;> rfl
theorem onwardT_m (u : Turn) : (onwardT u).m = u.m := by unfold onwardT; split <;> rfl

theorem clearT_one (u : Turn) : One u.m (clearT u).1.m := by
  unfold clearT
  split
  · exact (One.word u.m _ 0).same (startT_m _)
  · exact One.refl _

theorem shareT_one (u : Turn) : One u.m (shareT u).1.m := by
  unfold shareT
  split
  · show One u.m (if _ then _ else _ : Turn).m
    split <;> exact One.refl _
  split
  · exact (One.refl u.m).same (settleT_m _)
  split
  · show One u.m (if _ then _ else _ : Turn).m
    split
    · exact One.refl _
    · split
      · exact One.refl _
      · exact One.word u.m _ _
  split
  · show One u.m (if _ then _ else _ : Turn).m
    split
    · exact One.refl _
    · split
      · exact One.refl _
      · exact (One.word u.m _ _).same (settleT_m _)
  exact One.refl _

theorem commitS_one (u : Turn) : One u.m (commitS u).1.m := by
  unfold commitS
  split
  · show One u.m (comparedU u).m
    unfold comparedU
    split
    · exact (One.word u.m _ _).same (settleT_m _)
    · exact One.refl _
  split
  · show One u.m (if _ then _ else _ : Turn).m
    split
    · exact (One.refl u.m).same (settleT_m _)
    · split
      · exact (One.refl u.m).same (onwardT_m _)
      · exact One.refl _
  exact One.refl _

theorem climbT_one (u : Turn) : One u.m (climbT u).1.m := by
  unfold climbT
  split
  · show One u.m (if _ then _ else _ : Turn).m
    split
    · exact One.refl _
    · exact (One.refl u.m).same (lookT_m _ _)
  split
  · show One u.m (if _ then _ else _ : Turn).m
    split
    · exact One.refl _
    · split
      · exact (One.word u.m _ _).same (takenT_m _)
      · exact One.refl _
  split
  · show One u.m (if _ then _ else _ : Turn).m
    split
    · exact One.refl _
    · split
      · exact One.word u.m _ _
      · exact One.refl _
  exact One.refl _

theorem gatherT_one (u : Turn) : One u.m (gatherT u).1.m := by
  unfold gatherT
  repeat' split
  all_goals first
    | exact One.refl _
    | exact One.word u.m _ _
    | exact One.box u.m _ _

theorem collideT_one (u : Turn) : One u.m (collideT u).1.m := by
  unfold collideT
  split
  · exact One.box u.m _ _
  split
  · exact One.word u.m _ _
  split
  · show One u.m (swapT u).m
    unfold swapT
    repeat' split
    all_goals first | exact One.refl _ | exact One.word u.m _ _
  split
  · show One u.m (comparedT u u.t 21 13).m
    unfold comparedT
    repeat' split
    all_goals first | exact One.refl _ | exact One.word u.m _ _
  split
  · show One u.m (comparedT u u.th.who 22 24).m
    unfold comparedT
    repeat' split
    all_goals first | exact One.refl _ | exact One.word u.m _ _
  split
  · show One u.m (absorbT u).m
    unfold absorbT
    split <;> exact One.refl _
  split
  · show One u.m (spinT u).m
    unfold spinT
    repeat' split
    all_goals exact One.refl _
  split
  · exact One.word u.m _ _
  split
  · show One u.m (leaveT u).m
    unfold leaveT
    split
    · exact (One.word u.m _ _).same (onwardT_m _)
    · exact One.refl _
  exact One.refl _

theorem machineT_one (u : Turn) : One u.m (machineT u).m := by
  unfold machineT
  split
  · exact One.refl _
  split
  · exact clearT_one (begT u)
  split
  · exact shareT_one (begT u)
  split
  · exact commitS_one (begT u)
  split
  · exact climbT_one (begT u)
  split
  · exact gatherT_one (begT u)
  split
  · exact collideT_one (begT u)
  exact One.refl _

theorem law16_layered (u : Turn) : ∃ b, F_law16_layered u = some b ∧ (b = true ↔ May u ∧ (17 ≤ u.th.phase → 1 ≤ u.th.layer ∧ u.th.layer ≤ 3)) := by
  obtain ⟨m, hm, hmay⟩ := law16_may u
  simp only [F_law16_layered, C_law16_may, hm, cond_dec]
  cases m with
  | false => exact ⟨false, rfl, by simp, fun h => by have := hmay.2 h.1; cases this⟩
  | true =>
    have hM := hmay.1 rfl
    simp only [cond_true]
    by_cases h0 : u.th.phase < 17
    · rw [if_pos h0]
      exact ⟨true, rfl, fun _ => ⟨hM, fun h => by omega⟩, fun _ => rfl⟩
    rw [if_neg h0]
    by_cases h1 : u.th.layer ≥ 1
    · rw [if_pos h1]
      exact ⟨_, rfl, fun h => ⟨hM, fun _ => ⟨h1, of_decide_eq_true h⟩⟩, fun h => decide_eq_true (h.2 (by omega)).2⟩
    · rw [if_neg h1]
      exact ⟨_, rfl, by simp, fun h => (h1 (h.2 (by omega)).1).elim⟩

theorem turn_nums {u : Turn} (h : (valSt celTurn).Ok u) : Num u.tape.at_ ∧ Num u.th.width ∧ Num u.th.left ∧ Num u.c.lo ∧ Num u.c.hi ∧ Num u.th.x ∧ Num u.c.init := by
  have h1 : ∀ x : Int, AV.int .i64 x ∈ celTurn.enc u → Num x := fun x hx => lit_ok (h _ hx)
  refine ⟨h1 _ ?_, h1 _ ?_, h1 _ ?_, h1 _ ?_, h1 _ ?_, h1 _ ?_, h1 _ ?_⟩ <;>
  · simp only [celTurn, celAs, celApp, celMemo, celLst, celConfig, celInt, celBool, celTape, celThread, celOp, List.mem_append, List.mem_singleton]
    simp

theorem turn_batch {u : Turn} (h : (valSt celTurn).Ok u) : ∀ e ∈ u.th.batch, Num e.op.v := by
  have h1 : AV.lst .entry u.th.batch ∈ celTurn.enc u := by
    simp only [celTurn, celAs, celApp, celMemo, celLst, celConfig, celInt, celBool, celTape, celThread, celOp, List.mem_append, List.mem_singleton]
    simp
  obtain ⟨_, h2⟩ := h _ h1
  intro e he
  have h3 : D.Ok (.i e.op.v) := h2 e he _ (by simp [Ty.enc, encEntry])
  cases h3 with
  | int h => exact lit_ok h

theorem May.fitM {u : Turn} (h : May u) (b : Big u) (o : (valSt celTurn).Ok u) (hl : 17 ≤ u.th.phase → 1 ≤ u.th.layer ∧ u.th.layer ≤ 3) : FitM u := by
  obtain ⟨n1, n2, n3, n4, n5, n6, _⟩ := turn_nums o
  exact ⟨h.fitG b o, by have := b.held; omega, h.item, hl, n1, by have := b.tape; omega, n2, n4, n5, n6, turn_batch o⟩

/-- What is counted at one place at most. -/
theorem words_loop {u v : Turn} (hl : v.m.words.length = u.m.words.length) (hs : u.m.words.length ≤ 1000) {p : Nat} (hp : ∀ j, j ≠ p → v.m.words.getD j 0 = u.m.words.getD j 0) :
    ∃ n, W_law16_MachineOne_8 (u, v, 0, 0) = some (u, v, n) ∧ 0 ≤ n ∧ n ≤ 1 ∧ (v.m.words = u.m.words → n = 0) := by
  have hex : ∃ y, whileM T_law16_MachineOne_8 (u, v, 0, 0) = some y ∧ (y.1 = u ∧ y.2.1 = v ∧ 0 ≤ y.2.2 ∧ y.2.2 ≤ 1 ∧ (v.m.words = u.m.words → y.2.2 = 0)) := by
   refine whileM_ex (step := T_law16_MachineOne_8)
    (fun x => x.1 = u ∧ x.2.1 = v ∧ 0 ≤ x.2.2.2 ∧ x.2.2.2 ≤ (u.m.words.length : Int) ∧ 0 ≤ x.2.2.1 ∧ x.2.2.1 ≤ (if (p : Int) < x.2.2.2 then 1 else 0) ∧ (v.m.words = u.m.words → x.2.2.1 = 0))
    (fun x => ((u.m.words.length : Int) - x.2.2.2).toNat) (fun y => y.1 = u ∧ y.2.1 = v ∧ 0 ≤ y.2.2 ∧ y.2.2 ≤ 1 ∧ (v.m.words = u.m.words → y.2.2 = 0)) ?_ (x := (u, v, 0, 0)) ⟨rfl, rfl, Int.le_refl _, Int.natCast_nonneg _, Int.le_refl _, by show (0 : Int) ≤ _; split <;> omega, fun _ => rfl⟩
   rintro ⟨a, b, n, i⟩ ⟨rfl, rfl, h3, h4, h5, h6, h7⟩
   simp only at h3 h4 h5 h6 h7
   have hl' : b.m.words.length = a.m.words.length := hl
   have hs' : a.m.words.length ≤ 1000 := hs
   show (∃ x', S_law16_MachineOne_8 a b n i = _ ∧ _) ∨ ∃ y, S_law16_MachineOne_8 a b n i = _ ∧ _
   unfold S_law16_MachineOne_8
   simp only [cond_dec]
   by_cases hi : i < (a.m.words.length : Int)
   · left
     rw [if_pos hi, if_pos h3, if_pos (by omega), if_pos h3, if_pos hi, wrap_id (n := i + 1) (by omega) (by omega)]
     have hn : n ≤ 1 := by split at h6 <;> omega
     by_cases e : b.m.words.getD i.toNat 0 = a.m.words.getD i.toNat 0
     · rw [bne_f e]
       refine ⟨_, rfl, ⟨rfl, rfl, by simp only; omega, by simp only; omega, h5, ?_, h7⟩, by simp only; omega⟩
       simp only
       split at h6 <;> split <;> omega
     · rw [bne_t e]
       have hip : i.toNat = p := Classical.byContradiction fun hne => e (hp _ hne)
       rw [if_neg (by omega)] at h6
       refine ⟨_, rfl, ⟨rfl, rfl, by simp only; omega, by simp only; omega, ?_, ?_, fun h => (e (by rw [h])).elim⟩, by simp only; omega⟩
       · simp only; rw [wrap_id (by omega) (by omega)]; omega
       · simp only; rw [wrap_id (by omega) (by omega), if_pos (by omega)]; omega
   · right
     rw [if_neg hi]
     refine ⟨_, rfl, rfl, rfl, h5, ?_, h7⟩
     show n ≤ 1
     split at h6 <;> omega
  obtain ⟨⟨a, b, n⟩, h1, rfl, rfl, h3, h4, h5⟩ := hex
  exact ⟨n, h1, h3, h4, h5⟩

theorem same_some {a b : List Entry} (ha : a.length ≤ 4294967296) (hb : b.length ≤ 4294967296) : ∃ q, F_ref02_Same a b = some q := by
  unfold F_ref02_Same
  by_cases hl : (a.length : Int) = (b.length : Int)
  · rw [bne_f hl]
    simp only [cond_false]
    obtain ⟨y, h1, _⟩ := whileM_ex (step := T_ref02_Same_4) (fun x => x.1 = a ∧ x.2.1 = b ∧ 0 ≤ x.2.2 ∧ x.2.2 ≤ (a.length : Int)) (fun x => ((a.length : Int) - x.2.2).toNat) (fun _ => True) (by
      rintro ⟨a', b', i⟩ ⟨rfl, rfl, h3, h4⟩
      simp only at h3 h4
      have hl' : (a'.length : Int) = (b'.length : Int) := hl
      have ha' : a'.length ≤ 4294967296 := ha
      show (∃ x', S_ref02_Same_4 a' b' i = _ ∧ _) ∨ ∃ y, S_ref02_Same_4 a' b' i = _ ∧ _
      unfold S_ref02_Same_4
      simp only [cond_dec]
      by_cases hi : i < (a'.length : Int)
      · rw [if_pos hi, if_pos h3, if_pos hi, if_pos h3, if_pos (by omega), wrap_id (by omega) (by omega)]
        generalize (!((a'.getD i.toNat dEntry).t == (b'.getD i.toNat dEntry).t && ((a'.getD i.toNat dEntry).op.tag == (b'.getD i.toNat dEntry).op.tag && ((a'.getD i.toNat dEntry).op.v == (b'.getD i.toNat dEntry).op.v && true) && true))) = q
        cases q with
        | true => exact .inr ⟨_, rfl, trivial⟩
        | false => exact .inl ⟨_, rfl, ⟨rfl, rfl, by simp only; omega, by simp only; omega⟩, by simp only; omega⟩
      · rw [if_neg hi]
        exact .inr ⟨_, rfl, trivial⟩) (x := (a, b, 0)) ⟨rfl, rfl, Int.le_refl _, Int.natCast_nonneg _⟩
    show ∃ q, (match W_ref02_Same_4 (a, b, 0) with | some (.inl y1) => some true | some (.inr y2) => some y2 | none => none) = some q
    rw [show W_ref02_Same_4 (a, b, 0) = some y from h1]
    cases y <;> exact ⟨_, rfl⟩
  · rw [bne_t hl]
    exact ⟨_, rfl⟩

theorem boxes_loop {u v : Turn} (hl : v.m.boxes.length = u.m.boxes.length) (hs : u.m.boxes.length ≤ 1000) (hu : ∀ b ∈ u.m.boxes, b.length ≤ 4294967296) (hv : ∀ b ∈ v.m.boxes, b.length ≤ 4294967296) {p : Nat}
    (hp : ∀ j, j ≠ p → v.m.boxes.getD j [] = u.m.boxes.getD j []) {n0 : Int} (hn0 : 0 ≤ n0) (hn1 : n0 ≤ 1) (hn : v.m.boxes = u.m.boxes ∨ n0 = 0) :
    ∃ n, W_law16_MachineOne_13 (u, v, n0, 0) = some n ∧ n ≤ 1 := by
  refine whileM_ex (step := T_law16_MachineOne_13)
    (fun x => x.1 = u ∧ x.2.1 = v ∧ 0 ≤ x.2.2.2 ∧ x.2.2.2 ≤ (u.m.boxes.length : Int) ∧ 0 ≤ x.2.2.1 ∧ ((v.m.boxes = u.m.boxes ∧ x.2.2.1 ≤ 1) ∨ x.2.2.1 ≤ (if (p : Int) < x.2.2.2 then 1 else 0)))
    (fun x => ((u.m.boxes.length : Int) - x.2.2.2).toNat) (fun y => y ≤ 1) ?_ (x := (u, v, n0, 0)) ⟨rfl, rfl, Int.le_refl _, Int.natCast_nonneg _, hn0, ?_⟩
  · rintro ⟨a, b, n, i⟩ ⟨rfl, rfl, h3, h4, h5, h6⟩
    simp only at h3 h4 h5 h6
    have hl' : b.m.boxes.length = a.m.boxes.length := hl
    have hs' : a.m.boxes.length ≤ 1000 := hs
    show (∃ x', S_law16_MachineOne_13 a b n i = _ ∧ _) ∨ ∃ y, S_law16_MachineOne_13 a b n i = _ ∧ _
    unfold S_law16_MachineOne_13
    simp only [cond_dec]
    have hn1 : n ≤ 1 := by
      rcases h6 with h | h
      · exact h.2
      · split at h <;> omega
    by_cases hi : i < (a.m.boxes.length : Int)
    · left
      have getA : (a.m.boxes.getD i.toNat ([] : List Entry)).length ≤ 4294967296 := by
        have h1 : i.toNat < a.m.boxes.length := by omega
        rw [List.getD_eq_getElem?_getD, List.getElem?_eq_getElem h1, Option.getD_some]
        exact hu _ (List.getElem_mem _)
      have getB : (b.m.boxes.getD i.toNat ([] : List Entry)).length ≤ 4294967296 := by
        have h1 : i.toNat < b.m.boxes.length := by omega
        rw [List.getD_eq_getElem?_getD, List.getElem?_eq_getElem h1, Option.getD_some]
        exact hv _ (List.getElem_mem _)
      obtain ⟨q, hq⟩ := same_some getA getB
      rw [if_pos hi, if_pos h3, if_pos hi]
      simp only [C_law16_entries, law16_entries _ getA]
      rw [if_pos h3, if_pos (show i < (b.m.boxes.length : Int) by omega), wrap_id (n := i + 1) (by omega) (by omega)]
      simp only [law16_entries _ getB, C_ref02_Same, hq]
      have wi : wrapA .i64 (i + 1) = i + 1 := wrap_id (by omega) (by omega)
      cases q with
      | true =>
        refine ⟨_, rfl, ⟨rfl, rfl, by simp only; omega, by simp only; omega, h5, ?_⟩, by simp only; omega⟩
        simp only
        rcases h6 with h | h
        · exact .inl h
        · right; split at h <;> split <;> omega
      | false =>
        have hne : b.m.boxes.getD i.toNat [] ≠ a.m.boxes.getD i.toNat [] := by
          intro e
          rw [e, same_refl _ getA] at hq
          cases hq
        have hip : i.toNat = p := Classical.byContradiction fun h => hne (hp _ h)
        have hbx : ¬ b.m.boxes = a.m.boxes := fun e => hne (by rw [e])
        have h6 : n ≤ (if (p : Int) < i then 1 else 0) := h6.elim (fun h => (hbx h.1).elim) (fun h => h)
        rw [if_neg (by omega)] at h6
        have wn : wrapA .i64 (n + 1) = n + 1 := wrap_id (by omega) (by omega)
        refine ⟨_, rfl, ⟨rfl, rfl, by simp only; omega, by simp only; omega, by simp only; omega, .inr ?_⟩, by simp only; omega⟩
        simp only
        rw [wn, if_pos (by omega)]; omega
    · right
      rw [if_neg hi]
      exact ⟨_, rfl, hn1⟩
  · simp only
    rcases hn with h | h
    · exact .inl ⟨h, hn1⟩
    · right; split <;> omega

/-- Its own box, at most. -/
def Box1 (u : Turn) (m : Memo) : Prop := m.boxes = u.m.boxes ∨ m.boxes = u.m.boxes.set u.t.toNat u.th.batch
theorem Box1.same {u : Turn} {m k : Memo} (h : Box1 u m) (e : k = m) : Box1 u k := e ▸ h

theorem gatherT_box (u : Turn) : Box1 u (gatherT u).1.m := by
  unfold gatherT
  repeat' split
  all_goals first | exact .inl rfl | exact .inr rfl

theorem collideT_box (u : Turn) : Box1 u (collideT u).1.m := by
  unfold collideT
  split
  · exact .inr rfl
  split
  · exact .inl rfl
  split
  · show Box1 u (swapT u).m
    unfold swapT
    repeat' split
    all_goals exact .inl rfl
  split
  · show Box1 u (comparedT u u.t 21 13).m
    unfold comparedT
    repeat' split
    all_goals exact .inl rfl
  split
  · show Box1 u (comparedT u u.th.who 22 24).m
    unfold comparedT
    repeat' split
    all_goals exact .inl rfl
  split
  · show Box1 u (absorbT u).m
    unfold absorbT
    split <;> exact .inl rfl
  split
  · show Box1 u (spinT u).m
    unfold spinT
    repeat' split
    all_goals exact .inl rfl
  split
  · exact .inl rfl
  split
  · show Box1 u (leaveT u).m
    unfold leaveT
    split
    · exact (show Box1 u (setW u (mineAt u) 0).m from .inl rfl).same (onwardT_m _)
    · exact .inl rfl
  exact .inl rfl

theorem shareT_box (u : Turn) : Box1 u (shareT u).1.m := by
  unfold shareT
  split
  · show Box1 u (if _ then _ else _ : Turn).m
    split <;> exact .inl rfl
  split
  · exact (show Box1 u u.m from .inl rfl).same (settleT_m _)
  split
  · show Box1 u (if _ then _ else _ : Turn).m
    split
    · exact .inl rfl
    · split <;> exact .inl rfl
  split
  · show Box1 u (if _ then _ else _ : Turn).m
    split
    · exact .inl rfl
    · split
      · exact .inl rfl
      · exact (show Box1 u (setW u (lineAt u.c (kidAt u).t) 5).m from .inl rfl).same (settleT_m _)
  exact .inl rfl

theorem commitS_box (u : Turn) : Box1 u (commitS u).1.m := by
  unfold commitS
  split
  · show Box1 u (comparedU u).m
    unfold comparedU
    split
    · exact (show Box1 u (setW u (cellAt u.c u.th.item) u.th.y).m from .inl rfl).same (settleT_m _)
    · exact .inl rfl
  split
  · show Box1 u (if _ then _ else _ : Turn).m
    split
    · exact (show Box1 u u.m from .inl rfl).same (settleT_m _)
    · split
      · exact (show Box1 u u.m from .inl rfl).same (onwardT_m _)
      · exact .inl rfl
  exact .inl rfl

theorem climbT_box (u : Turn) : Box1 u (climbT u).1.m := by
  unfold climbT
  split
  · show Box1 u (if _ then _ else _ : Turn).m
    split
    · exact .inl rfl
    · exact (show Box1 u u.m from .inl rfl).same (lookT_m _ _)
  split
  · show Box1 u (if _ then _ else _ : Turn).m
    split
    · exact .inl rfl
    · split
      · exact (show Box1 u (wroteT u (nodeOf u) (8 * (u.t + 1) + 1)).m from .inl rfl).same (takenT_m _)
      · exact .inl rfl
  split
  · show Box1 u (if _ then _ else _ : Turn).m
    split
    · exact .inl rfl
    · split <;> exact .inl rfl
  exact .inl rfl

theorem machineT_box1 (u : Turn) : Box1 u (machineT u).m := by
  unfold machineT
  split
  · exact .inl rfl
  split
  · left
    unfold clearT
    split
    · show (startT _).m.boxes = _
      rw [startT_m]; rfl
    · rfl
  split
  · exact shareT_box (begT u)
  split
  · exact commitS_box (begT u)
  split
  · exact climbT_box (begT u)
  split
  · exact gatherT_box (begT u)
  split
  · exact collideT_box (begT u)
  exact .inl rfl

theorem machineT_box {u : Turn} (h : FitM u) (hB : Big u) : ∀ b ∈ (machineT u).m.boxes, b.length ≤ 4294967296 := by
  intro b hb
  have hbx : ∀ b ∈ u.m.boxes, b.length ≤ 4294967296 := fun b h => by have := hB.box b h; omega
  have hbt : u.th.batch.length ≤ 4294967296 := by have := hB.batch; omega
  rcases machineT_box1 u with e | e
  · rw [e] at hb; exact hbx b hb
  · rw [e] at hb
    rcases List.mem_or_eq_of_mem_set hb with h | rfl
    · exact hbx b h
    · exact hbt

theorem pure_MachineOne (u : Turn) (o : (valSt celTurn).Ok u) : F_law16_MachineOne u = some true := by
  obtain ⟨b, hb, hbig⟩ := law16_big u
  obtain ⟨m, hm, hmay⟩ := law16_layered u
  simp only [F_law16_MachineOne, C_law16_big, hb, C_law16_shown, law16_shown, C_law16_layered, hm]
  cases b with
  | true => rfl
  | false =>
  cases m with
  | false => rfl
  | true =>
  have hB := hbig rfl
  obtain ⟨hM, hL⟩ := hmay.1 rfl
  have hF := hM.fitM hB o hL
  simp only [Bool.not_true, cond_false, C_machine_Step, machine_step hF]
  obtain ⟨v, hv⟩ : ∃ v, v = machineT u := ⟨_, rfl⟩
  have h1 : One u.m v.m := hv ▸ machineT_one u
  rw [← hv]
  have hlw : v.m.words.length = u.m.words.length := by
    rcases h1 with ⟨a, w, h⟩ | ⟨i, b, h⟩ | h <;> rw [h] <;> simp
  have hlb : v.m.boxes.length = u.m.boxes.length := by
    rcases h1 with ⟨a, w, h⟩ | ⟨i, b, h⟩ | h <;> rw [h] <;> simp
  rw [bne_f (by omega), bne_f (by omega)]
  simp only [cond_false]
  have hbu : ∀ b ∈ u.m.boxes, b.length ≤ 4294967296 := fun b h => by have := hB.box b h; omega
  have hs := hB.words
  have hsb := hB.boxes
  have hbv : ∀ b ∈ v.m.boxes, b.length ≤ 4294967296 := by
    rw [hv]
    exact machineT_box hF hB
  obtain ⟨pw, hpw, pb, hpb, hor⟩ : ∃ pw, (∀ j, j ≠ pw → v.m.words.getD j 0 = u.m.words.getD j 0) ∧ ∃ pb, (∀ j, j ≠ pb → v.m.boxes.getD j [] = u.m.boxes.getD j []) ∧ (v.m.boxes = u.m.boxes ∨ v.m.words = u.m.words) := by
    rcases h1 with ⟨a, w, h⟩ | ⟨i, b, h⟩ | h
    · refine ⟨a, fun j hj => ?_, 0, fun j _ => by rw [h], .inl (by rw [h])⟩
      rw [h]
      simp only [List.getD_eq_getElem?_getD]
      rw [List.getElem?_set_ne (Ne.symm hj)]
    · refine ⟨0, fun j _ => by rw [h], i, fun j hj => ?_, .inr (by rw [h])⟩
      rw [h]
      simp only [List.getD_eq_getElem?_getD]
      rw [List.getElem?_set_ne (Ne.symm hj)]
    · exact ⟨0, fun j _ => by rw [h], 0, fun j _ => by rw [h], .inl (by rw [h])⟩
  obtain ⟨n, hn, n0, n1, n2⟩ := words_loop hlw (by omega) hpw
  rw [hn]
  simp only
  obtain ⟨k, hk, k1⟩ := boxes_loop hlb (by omega) hbu hbv hpb n0 n1 (hor.elim .inl fun h => .inr (n2 h))
  rw [hk]
  simp only
  rw [decide_eq_true k1]
end Go.Proofs.Mill
