/- A thread in a funnel: its steps, phase by phase. -/
import Derived.Test.YtcokmmhkajmkhaaMillPCollide2
set_option linter.all false
namespace Go.Proofs.Mill

section
variable {u : Turn}
theorem cstep17 (h : FitC u) (p : u.th.phase = 17) : F_collide_Step u = some ({ u with m := { u.m with boxes := u.m.boxes.set u.t.toNat u.th.batch }, th := { u.th with phase := 18 } }, true) := by
  rw [collide_step h]; unfold collideT; rw [if_pos p]
theorem cstep18 (h : FitC u) (p : u.th.phase = 18) : F_collide_Step u = some ({ setW u (mineAt u) (openW u) with th := { u.th with phase := 19 } }, true) := by
  rw [collide_step h]; unfold collideT; rw [if_neg (by omega), if_pos p]
theorem cstep19 (h : FitC u) (p : u.th.phase = 19) : F_collide_Step u = some (swapT u, true) := by
  rw [collide_step h]; unfold collideT; rw [if_neg (by omega), if_neg (by omega), if_pos p]
theorem cstep20 (h : FitC u) (p : u.th.phase = 20) : F_collide_Step u = some (comparedT u u.t 21 13, true) := by
  rw [collide_step h]; unfold collideT; rw [if_neg (by omega), if_neg (by omega), if_neg (by omega), if_pos p]
theorem cstep21 (h : FitC u) (p : u.th.phase = 21) : F_collide_Step u = some (comparedT u u.th.who 22 24, true) := by
  rw [collide_step h]; unfold collideT; rw [if_neg (by omega), if_neg (by omega), if_neg (by omega), if_neg (by omega), if_pos p]
theorem cstep22 (h : FitC u) (p : u.th.phase = 22) : F_collide_Step u = some (absorbT u, true) := by
  rw [collide_step h]; unfold collideT; rw [if_neg (by omega), if_neg (by omega), if_neg (by omega), if_neg (by omega), if_neg (by omega), if_pos p]
theorem cstep23 (h : FitC u) (p : u.th.phase = 23) : F_collide_Step u = some (spinT u, true) := by
  rw [collide_step h]; unfold collideT; rw [if_neg (by omega), if_neg (by omega), if_neg (by omega), if_neg (by omega), if_neg (by omega), if_neg (by omega), if_pos p]
theorem cstep24 (h : FitC u) (p : u.th.phase = 24) : F_collide_Step u = some ({ setW u (mineAt u) (openW u) with th := { u.th with phase := 23, left := u.c.spin } }, true) := by
  rw [collide_step h]; unfold collideT; rw [if_neg (by omega), if_neg (by omega), if_neg (by omega), if_neg (by omega), if_neg (by omega), if_neg (by omega), if_neg (by omega), if_pos p]
theorem cstep26 (h : FitC u) (p : u.th.phase = 26) : F_collide_Step u = some (leaveT u, true) := by
  rw [collide_step h]; unfold collideT
  rw [if_neg (by omega), if_neg (by omega), if_neg (by omega), if_neg (by omega), if_neg (by omega), if_neg (by omega), if_neg (by omega), if_neg (by omega), if_pos p]
end

theorem spinT_at {u : Turn} (h : wordAt u (mineAt u) = openW u) : spinT u = if u.th.left > 0 ∧ ¬ Late u then { u with th := { u.th with left := wrapA .i64 (u.th.left - 1) } } else { u with th := { u.th with phase := 26 } } := by
  unfold spinT; rw [if_neg (fun hh => hh h)]

theorem comparedT_so {u : Turn} {t so no : Int} (h : lineAt u.c t ≠ -1) (h2 : wordAt u (lineAt u.c t) = openW u) : comparedT u t so no = { setW u (lineAt u.c t) 0 with th := { u.th with phase := so } } := by
  unfold comparedT; rw [if_neg h, if_pos h2]
theorem comparedT_no {u : Turn} {t so no : Int} (h : lineAt u.c t ≠ -1) (h2 : wordAt u (lineAt u.c t) ≠ openW u) : comparedT u t so no = { u with th := { u.th with phase := no } } := by
  unfold comparedT; rw [if_neg h, if_neg h2]

theorem openW_num {u : Turn} (h : FitC u) : Num (openW u) := by
  have h1 := h.item
  have h2 := h.layer
  have h3 := h.g.cfg.items
  constructor <;> simp only [openW] <;> omega

theorem belowT_num {t : Tape} (h : Num t.at_) (hl : t.l.length ≤ 4294967296) (n : Int) : Num (belowT t n).2.at_ := by
  unfold belowT
  split
  · exact h
  · show Num (drawT t).2.at_
    unfold drawT
    split
    · exact h
    · show Num (wrapA .i64 (t.at_ + 1))
      rw [wrap_id (by omega) (by omega)]
      constructor <;> omega

end Go.Proofs.Mill
