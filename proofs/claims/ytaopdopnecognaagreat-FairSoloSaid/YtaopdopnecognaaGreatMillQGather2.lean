/- A thread that gathers: what the laws share. -/
import Derived.Test.YtaopdopnecognaaGreatMillQGather
import Derived.KernelRfl
set_option linter.all false
namespace Go.Proofs.Mill


theorem May.fitG {u : Turn} (h : May u) (b : Big u) (o : (valSt celTurn).Ok u) : FitG u :=
  ⟨h.cfg, h.t, h.words, h.boxes, turn_words o, by have := b.batch; omega, by have := b.kids; omega, fun x hx => by have := b.box x hx; omega⟩

theorem Sm.same {n : Nat} {u v : Turn} (h : Sm n u) (hw : v.m.words.length = u.m.words.length) (hb : v.m.boxes = u.m.boxes) (h1 : v.th.batch = u.th.batch) (h2 : v.th.kids = u.th.kids) (h3 : v.th.held = u.th.held) (h4 : v.tape = u.tape) (h5 : v.log = u.log) : Sm n v :=
  ⟨by rw [hw]; exact h.words, by rw [hb]; exact h.boxes, by rw [hb]; exact h.box, by rw [h1]; exact h.batch, by rw [h2]; exact h.kids, by rw [h3]; exact h.held, by rw [h4]; exact h.tape, by rw [h5]; exact h.log⟩

theorem takeT_sm {n : Nat} {u : Turn} {who : Int} {b : List Entry} (h : Sm n u) (h1 : u.th.batch.length + b.length ≤ n) (h2 : u.th.kids.length + 1 ≤ n) : Sm n (takeT u who b) :=
  ⟨h.words, h.boxes, h.box, by show (u.th.batch ++ b).length ≤ n; rw [List.length_append]; exact h1, by show (u.th.kids ++ [_]).length ≤ n; rw [List.length_append]; exact h2, h.held, h.tape, h.log⟩

theorem gatherT_sm {u : Turn} (h : FitG u) (b : Big u) : Sm 4294967296 (gatherT u).1 := by
  have hs := b.sm (n := 4294967296) (by omega)
  have hb := b.batch
  have hk := b.kids
  unfold gatherT
  by_cases p7 : u.th.phase = 7
  · rw [if_pos p7]
    show Sm _ (if heldAt u = -1 then u else _)
    repeat' split
    all_goals first | exact hs | exact ⟨hs.words, hs.boxes, hs.box, hs.batch, hs.kids, hs.held, hs.tape, hs.log⟩
  rw [if_neg p7]
  have sw : ∀ a w : Int, Sm 4294967296 (setW u a w) := fun a w => hs.same (List.length_set ..) rfl rfl rfl rfl rfl rfl
  by_cases p8 : u.th.phase = 8
  · rw [if_pos p8]
    show Sm _ (if heldAt u = -1 then u else _)
    repeat' split
    · exact hs
    · exact (sw _ _).same rfl rfl rfl rfl rfl rfl rfl
    · exact hs.same rfl rfl rfl rfl rfl rfl rfl
  rw [if_neg p8]
  by_cases p9 : u.th.phase = 9
  · rw [if_pos p9]
    show Sm _ (if u.th.who < 0 ∨ u.th.who ≥ (u.m.boxes.length : Int) then u else _)
    split
    · exact hs
    · have hl := h.boxLen u.th.who.toNat
      have := takeT_sm (who := u.th.who) (b := u.m.boxes.getD u.th.who.toNat []) hs (by omega) (by omega)
      exact this.same rfl rfl rfl rfl rfl rfl rfl
  rw [if_neg p9]
  by_cases p10 : u.th.phase = 10
  · rw [if_pos p10]
    show Sm _ (if heldAt u = -1 then u else _)
    split
    · exact hs
    · exact (sw _ _).same rfl rfl rfl rfl rfl rfl rfl
  rw [if_neg p10]
  by_cases p11 : u.th.phase = 11
  · rw [if_pos p11]
    refine ⟨hs.words, by show (u.m.boxes.set _ _).length ≤ _; rw [List.length_set]; exact hs.boxes, fun x hx => ?_, hs.batch, hs.kids, hs.held, hs.tape, hs.log⟩
    rcases List.mem_or_eq_of_mem_set hx with hx | rfl
    · exact hs.box x hx
    · exact hs.batch
  rw [if_neg p11]
  by_cases p12 : u.th.phase = 12
  · rw [if_pos p12]
    show Sm _ (if nodeAt u.c u.th.item u.th.stop = -1 then u else _)
    split
    · exact hs
    · exact (sw _ _).same rfl rfl rfl rfl rfl rfl rfl
  rw [if_neg p12]
  exact hs

/-- Fit depends on little. -/
theorem FitG.of {u v : Turn} (h : FitG u) (hc : v.c = u.c) (ht : v.t = u.t) (hl : v.m.words.length = u.m.words.length) (hn : ∀ n ∈ v.m.words, Num n) (hb : v.m.boxes = u.m.boxes) (h1 : v.th.batch = u.th.batch) (h2 : v.th.kids = u.th.kids) : FitG v :=
  ⟨by rw [hc]; exact h.cfg, by rw [hc, ht]; exact h.t, by rw [hc, hl]; exact h.words, by rw [hb, hc]; exact h.boxes, hn, by rw [h1]; exact h.batch, by rw [h2]; exact h.kids, by rw [hb]; exact h.box⟩

theorem gather_first {u : Turn} (h : FitG u) (hn : heldAt u ≠ -1) (hw : wordAt u (heldAt u) = 8 * (u.t + 1) + 1) :
    (u.th.phase = 7 → F_gather_Step u = some ({ u with th := { u.th with phase := 8 } }, true)) ∧ (u.th.phase = 8 → F_gather_Step u = some (nextT (setW u (heldAt u) 0), true)) := by
  constructor <;> intro hp <;> rw [gather_step h] <;> unfold gatherT
  · rw [if_pos hp, if_neg hn, if_pos hw]
  · rw [if_neg (by omega), if_pos hp, if_neg hn, if_pos hw]

theorem heldAt_in {u : Turn} (h0 : ¬ u.th.at_ < 0) (h1 : ¬ u.th.at_ ≥ (u.th.held.length : Int)) : heldAt u = nodeAt u.c u.th.item (u.th.held.getD u.th.at_.toNat 0) := by
  unfold heldAt; rw [if_neg (by omega)]

end Go.Proofs.Mill
