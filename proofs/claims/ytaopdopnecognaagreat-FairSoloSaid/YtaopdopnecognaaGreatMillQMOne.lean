/- The plain law of MachineOne. -/
import Derived.Test.YtaopdopnecognaaGreatMillQStep
import Derived.Test.YtaopdopnecognaaGreatMillQMachine
namespace Go.Proofs.Mill
set_option linter.all false

/-- One word, or one box, at most. -/
def One (m n : Memo) : Prop := (∃ a w, n = { m with words := m.words.set a w }) ∨ (∃ i b, n = { m with boxes := m.boxes.set i b }) ∨ n = m

theorem One.refl (m : Memo) : One m m := .inr (.inr rfl)
theorem One.word (m : Memo) (a : Nat) (w : Int) : One m { m with words := m.words.set a w } := .inl ⟨a, w, rfl⟩
theorem One.box (m : Memo) (i : Nat) (b : List Entry) : One m { m with boxes := m.boxes.set i b } := .inr (.inl ⟨i, b, rfl⟩)
theorem One.same {m n k : Memo} (h : One m n) (e : k = n) : One m k := e ▸ h

theorem settleT_m (u : Turn) : (settleT u).m = u.m := by unfold settleT; split <;> rfl
theorem startT_m (u : Turn) : (startT u).m = u.m := by unfold startT; repeat' split
                                                       all_goals rfl
theorem lookT_m (u : Turn) (w : Int) : (lookT u w).m = u.m := by unfold lookT; repeat' split
                                                                 all_goals rfl
theorem takenT_m (u : Turn) : (takenT u).m = u.m := by unfold takenT; split <;> rfl
theorem onwardT_m (u : Turn) : (onwardT u).m = u.m := by unfold onwardT; split <;> rfl

theorem clearT_one (u : Turn) : One u.m (clearT u).1.m := by
  unfold clearT
  split
  · exact (One.word u.m _ 0).same (startT_m _)
  · exact One.refl _

theorem shareT_one (u : Turn) : One u.m (shareT u).1.m := by
  unfold shareT
  split
  · show One u.m (if _ then _ else _ : Turn).m
    split <;> exact One.refl _
  split
  · exact (One.refl u.m).same (settleT_m _)
  split
  · show One u.m (if _ then _ else _ : Turn).m
    split
    · exact One.refl _
    · split
      · exact One.refl _
      · exact One.word u.m _ _
  split
  · show One u.m (if _ then _ else _ : Turn).m
    split
    · exact One.refl _
    · split
      · exact One.refl _
      · exact (One.word u.m _ _).same (settleT_m _)
  exact One.refl _

theorem commitS_one (u : Turn) : One u.m (commitS u).1.m := by
  unfold commitS
  split
  · show One u.m (comparedU u).m
    unfold comparedU
    split
    · exact (One.word u.m _ _).same (settleT_m _)
    · exact One.refl _
  split
  · show One u.m (if _ then _ else _ : Turn).m
    split
    · exact (One.refl u.m).same (settleT_m _)
    · split
      · exact (One.refl u.m).same (onwardT_m _)
      · exact One.refl _
  exact One.refl _

theorem climbT_one (u : Turn) : One u.m (climbT u).1.m := by
  unfold climbT
  split
  · show One u.m (if _ then _ else _ : Turn).m
    split
    · exact One.refl _
    · exact (One.refl u.m).same (lookT_m _ _)
  split
  · show One u.m (if _ then _ else _ : Turn).m
    split
    · exact One.refl _
    · split
      · exact (One.word u.m _ _).same (takenT_m _)
      · exact One.refl _
  split
  · show One u.m (if _ then _ else _ : Turn).m
    split
    · exact One.refl _
    · split
      · exact One.word u.m _ _
      · exact One.refl _
  exact One.refl _

theorem gatherT_one (u : Turn) : One u.m (gatherT u).1.m := by
  unfold gatherT
  repeat' split
  all_goals first
    | exact One.refl _
    | exact One.word u.m _ _
    | exact One.box u.m _ _

theorem collideT_one (u : Turn) : One u.m (collideT u).1.m := by
  unfold collideT
  split
  · exact One.box u.m _ _
  split
  · exact One.word u.m _ _
  split
  · show One u.m (swapT u).m
    unfold swapT
    repeat' split
    all_goals first | exact One.refl _ | exact One.word u.m _ _
  split
  · show One u.m (comparedT u u.t 21 13).m
    unfold comparedT
    repeat' split
    all_goals first | exact One.refl _ | exact One.word u.m _ _
  split
  · show One u.m (comparedT u u.th.who 22 24).m
    unfold comparedT
    repeat' split
    all_goals first | exact One.refl _ | exact One.word u.m _ _
  split
  · show One u.m (absorbT u).m
    unfold absorbT
    split <;> exact One.refl _
  split
  · show One u.m (spinT u).m
    unfold spinT
    repeat' split
    all_goals exact One.refl _
  split
  · exact One.word u.m _ _
  split
  · show One u.m (leaveT u).m
    unfold leaveT
    split
    · exact (One.word u.m _ _).same (onwardT_m _)
    · exact One.refl _
  exact One.refl _

theorem machineT_one (u : Turn) : One u.m (machineT u).m := by
  unfold machineT
  split
  · exact One.refl _
  split
  · exact clearT_one (begT u)
  split
  · exact shareT_one (begT u)
  split
  · exact commitS_one (begT u)
  split
  · exact climbT_one (begT u)
  split
  · exact gatherT_one (begT u)
  split
  · exact collideT_one (begT u)
  exact One.refl _

theorem turn_nums {u : Turn} (h : (valSt celTurn).Ok u) : Num u.tape.at_ ∧ Num u.th.width ∧ Num u.th.left ∧ Num u.c.lo ∧ Num u.c.hi ∧ Num u.th.x ∧ Num u.c.init := by
  have h1 : ∀ x : Int, AV.int .i64 x ∈ celTurn.enc u → Num x := fun x hx => lit_ok (h _ hx)
  refine ⟨h1 _ ?_, h1 _ ?_, h1 _ ?_, h1 _ ?_, h1 _ ?_, h1 _ ?_, h1 _ ?_⟩ <;>
  · simp only [celTurn, celAs, celApp, celMemo, celLst, celConfig, celInt, celBool, celTape, celThread, celOp, List.mem_append, List.mem_singleton]
    simp

theorem turn_batch {u : Turn} (h : (valSt celTurn).Ok u) : ∀ e ∈ u.th.batch, Num e.op.v := by
  have h1 : AV.lst .entry u.th.batch ∈ celTurn.enc u := by
    simp only [celTurn, celAs, celApp, celMemo, celLst, celConfig, celInt, celBool, celTape, celThread, celOp, List.mem_append, List.mem_singleton]
    simp
  obtain ⟨_, h2⟩ := h _ h1
  intro e he
  have h3 : D.Ok (.i e.op.v) := h2 e he _ (by simp [Ty.enc, encEntry])
  cases h3 with
  | int h => exact lit_ok h

theorem May.fitM {u : Turn} (h : May u) (b : Big u) (o : (valSt celTurn).Ok u) (hl : 17 ≤ u.th.phase → 1 ≤ u.th.layer ∧ u.th.layer ≤ 3) : FitM u := by
  obtain ⟨n1, n2, n3, n4, n5, n6, _⟩ := turn_nums o
  exact ⟨h.fitG b o, by have := b.held; omega, h.item, hl, n1, by have := b.tape; omega, n2, n4, n5, n6, turn_batch o⟩

/-- Its own box, at most. -/
def Box1 (u : Turn) (m : Memo) : Prop := m.boxes = u.m.boxes ∨ m.boxes = u.m.boxes.set u.t.toNat u.th.batch
theorem Box1.same {u : Turn} {m k : Memo} (h : Box1 u m) (e : k = m) : Box1 u k := e ▸ h

theorem gatherT_box (u : Turn) : Box1 u (gatherT u).1.m := by
  unfold gatherT
  repeat' split
  all_goals first | exact .inl rfl | exact .inr rfl

theorem collideT_box (u : Turn) : Box1 u (collideT u).1.m := by
  unfold collideT
  split
  · exact .inr rfl
  split
  · exact .inl rfl
  split
  · show Box1 u (swapT u).m
    unfold swapT
    repeat' split
    all_goals exact .inl rfl
  split
  · show Box1 u (comparedT u u.t 21 13).m
    unfold comparedT
    repeat' split
    all_goals exact .inl rfl
  split
  · show Box1 u (comparedT u u.th.who 22 24).m
    unfold comparedT
    repeat' split
    all_goals exact .inl rfl
  split
  · show Box1 u (absorbT u).m
    unfold absorbT
    split <;> exact .inl rfl
  split
  · show Box1 u (spinT u).m
    unfold spinT
    repeat' split
    all_goals exact .inl rfl
  split
  · exact .inl rfl
  split
  · show Box1 u (leaveT u).m
    unfold leaveT
    split
    · exact (show Box1 u (setW u (mineAt u) 0).m from .inl rfl).same (onwardT_m _)
    · exact .inl rfl
  exact .inl rfl

theorem shareT_box (u : Turn) : Box1 u (shareT u).1.m := by
  unfold shareT
  split
  · show Box1 u (if _ then _ else _ : Turn).m
    split <;> exact .inl rfl
  split
  · exact (show Box1 u u.m from .inl rfl).same (settleT_m _)
  split
  · show Box1 u (if _ then _ else _ : Turn).m
    split
    · exact .inl rfl
    · split <;> exact .inl rfl
  split
  · show Box1 u (if _ then _ else _ : Turn).m
    split
    · exact .inl rfl
    · split
      · exact .inl rfl
      · exact (show Box1 u (setW u (lineAt u.c (kidAt u).t) 5).m from .inl rfl).same (settleT_m _)
  exact .inl rfl

theorem commitS_box (u : Turn) : Box1 u (commitS u).1.m := by
  unfold commitS
  split
  · show Box1 u (comparedU u).m
    unfold comparedU
    split
    · exact (show Box1 u (setW u (cellAt u.c u.th.item) u.th.y).m from .inl rfl).same (settleT_m _)
    · exact .inl rfl
  split
  · show Box1 u (if _ then _ else _ : Turn).m
    split
    · exact (show Box1 u u.m from .inl rfl).same (settleT_m _)
    · split
      · exact (show Box1 u u.m from .inl rfl).same (onwardT_m _)
      · exact .inl rfl
  exact .inl rfl

theorem climbT_box (u : Turn) : Box1 u (climbT u).1.m := by
  unfold climbT
  split
  · show Box1 u (if _ then _ else _ : Turn).m
    split
    · exact .inl rfl
    · exact (show Box1 u u.m from .inl rfl).same (lookT_m _ _)
  split
  · show Box1 u (if _ then _ else _ : Turn).m
    split
    · exact .inl rfl
    · split
      · exact (show Box1 u (wroteT u (nodeOf u) (8 * (u.t + 1) + 1)).m from .inl rfl).same (takenT_m _)
      · exact .inl rfl
  split
  · show Box1 u (if _ then _ else _ : Turn).m
    split
    · exact .inl rfl
    · split <;> exact .inl rfl
  exact .inl rfl

theorem machineT_box1 (u : Turn) : Box1 u (machineT u).m := by
  unfold machineT
  split
  · exact .inl rfl
  split
  · left
    unfold clearT
    split
    · show (startT _).m.boxes = _
      rw [startT_m]; rfl
    · rfl
  split
  · exact shareT_box (begT u)
  split
  · exact commitS_box (begT u)
  split
  · exact climbT_box (begT u)
  split
  · exact gatherT_box (begT u)
  split
  · exact collideT_box (begT u)
  exact .inl rfl

theorem machineT_box {u : Turn} (h : FitM u) (hB : Big u) : ∀ b ∈ (machineT u).m.boxes, b.length ≤ 4294967296 := by
  intro b hb
  have hbx : ∀ b ∈ u.m.boxes, b.length ≤ 4294967296 := fun b h => by have := hB.box b h; omega
  have hbt : u.th.batch.length ≤ 4294967296 := by have := hB.batch; omega
  rcases machineT_box1 u with e | e
  · rw [e] at hb; exact hbx b hb
  · rw [e] at hb
    rcases List.mem_or_eq_of_mem_set hb with h | rfl
    · exact hbx b h
    · exact hbt

end Go.Proofs.Mill
