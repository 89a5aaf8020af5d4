/- The plain law of MachineCell. -/
import Derived.Test.YtaopdopnecognaaGreatMillQStart
namespace Go.Proofs.Mill
set_option linter.all false

theorem bl1 {u : Turn} (p : u.th.phase = 1) (hb : u.c.backend = 1) : machineT u = { setW (begT u) (lineAt u.c u.t) 0 with th := { u.th with phase := 2 } } := by
  unfold machineT
  rw [if_neg (by omega), if_pos (by unfold clearT; rw [if_pos (show (begT u).th.phase = 1 from p)])]
  unfold clearT
  rw [if_pos (show (begT u).th.phase = 1 from p)]
  simp only
  unfold startT
  rw [if_neg (show ¬ ((setW (begT u) (lineAt (begT u).c (begT u).t) 0).c.backend = 2 ∧ (setW (begT u) (lineAt (begT u).c (begT u).t) 0).c.depth > 0) from fun h => by have h1 : u.c.backend = 2 := h.1; omega),
    if_neg (show ¬ ((setW (begT u) (lineAt (begT u).c (begT u).t) 0).c.backend = 3 ∧ (setW (begT u) (lineAt (begT u).c (begT u).t) 0).c.layers > 0) from fun h => by have h1 : u.c.backend = 3 := h.1; omega)]
  rfl

theorem commit_phase {u : Turn} (p : u.th.phase = 2 ∨ u.th.phase = 3 ∨ u.th.phase = 25) : machineT u = (commitS (begT u)).1 := by
  unfold machineT
  have c1 : ¬ (clearT (begT u)).2 = true := by
    unfold clearT
    rw [if_neg (show ¬ (begT u).th.phase = 1 from fun h => by have h : u.th.phase = 1 := h; omega)]
    simp
  have c2 : ¬ (shareT (begT u)).2 = true := by
    have e : (begT u).th.phase = u.th.phase := rfl
    unfold shareT
    rw [e, if_neg (by omega), if_neg (by omega), if_neg (by omega), if_neg (by omega)]
    simp
  have c3 : (commitS (begT u)).2 = true := by
    have e : (begT u).th.phase = u.th.phase := rfl
    unfold commitS
    rw [e]
    by_cases p3 : u.th.phase = 3
    · rw [if_pos p3]
    · rw [if_neg p3, if_pos (by omega)]
  rw [if_neg (by omega), if_neg c1, if_neg c2, if_pos c3]

theorem getD_set_ne' {l : List Int} {i j : Nat} {a : Int} (h : i ≠ j) : (l.set i a).getD j 0 = l.getD j 0 := by
  rw [List.getD_eq_getElem?_getD, List.getD_eq_getElem?_getD, List.getElem?_set_ne h]

/-- A commit of one op alone. -/
theorem commitT_alone {u : Turn} {x : Int} (hk : u.th.kids = []) (hl : u.log = []) (hb : u.th.batch.length = 1) : (commitT u x).done = true ∧ (commitT u x).log.length = 1 ∧ (commitT u x).th.held = u.th.held ∧ (commitT u x).th.kids = [] ∧ (commitT u x).th.layer = u.th.layer := by
  unfold commitT settleT
  rw [if_pos (show ({ u with th := { u.th with at_ := 0, x := x }, log := u.log ++ marksT u x } : Turn).th.at_ < 0 ∨ ({ u with th := { u.th with at_ := 0, x := x }, log := u.log ++ marksT u x } : Turn).th.at_ ≥ (({ u with th := { u.th with at_ := 0, x := x }, log := u.log ++ marksT u x } : Turn).th.kids.length : Int) from .inr (by
    show (0 : Int) ≥ (u.th.kids.length : Int)
    rw [hk]; simp))]
  refine ⟨rfl, ?_, rfl, hk, rfl⟩
  show (u.log ++ marksT u x).length = 1
  rw [hl, List.nil_append, marksT_length, hb]

end Go.Proofs.Mill
