/- A node that is taken, and joined. -/
import Derived.Test.YtcokmmhkajmkhaaMillPureClimbOther
set_option linter.all false
namespace Go.Proofs.Mill

theorem u8_num {x : Int} (h : (valInt .u8).Ok x) : 0 ≤ x ∧ x ≤ 255 := by
  have h' : (Lit.int .u8 x).wf = true := h
  simp [Lit.wf, IntKind.has, IntKind.min, IntKind.max, IntKind.signed, IntKind.bits] at h'
  omega
theorem wrap_u8 {x : Int} (h : (valInt .u8).Ok x) : IntKind.i64.wrap x = x := by
  obtain ⟨h1, h2⟩ := u8_num h
  simp [IntKind.wrap, IntKind.signed, IntKind.bits]
  omega

theorem tmod_in {a b : Int} (h0 : 0 ≤ a) (h1 : 1 ≤ b) : 0 ≤ a.tmod b ∧ a.tmod b < b := ⟨Int.tmod_nonneg b h0, Int.tmod_lt_of_pos a (by omega)⟩

theorem kind_first {t : Int} (h0 : 0 ≤ t) (h1 : t < 16) : kindOf (8 * (t + 1) + 1) = 1 := by
  unfold kindOf
  rw [if_neg (by omega), if_neg (by omega), if_pos (by omega)]; omega
theorem kind_joined {t : Int} (h0 : 0 ≤ t) (h1 : t < 16) : kindOf (8 * (t + 1) + 2) = 2 := by
  unfold kindOf
  rw [if_neg (by omega), if_neg (by omega), if_pos (by omega)]; omega

theorem nums_set {l : List Int} (h : ∀ n ∈ l, Num n) {w : Int} (hw : Num w) (i : Nat) : ∀ n ∈ l.set i w, Num n := by
  intro n hn
  rcases List.mem_or_eq_of_mem_set hn with h1 | rfl
  · exact h n h1
  · exact hw

theorem num_small {w : Int} (h0 : 0 ≤ w) (h1 : w ≤ 1000000) : Num w := ⟨by omega, by omega⟩

/-- A step that looks at a node. -/
theorem step_look {u : Turn} (h : Fit u) (hp : u.th.phase = 4) (hn : nodeOf u ≠ -1) : F_climb_Step u = some (lookT u (wordAt u (nodeOf u)), true) := by
  rw [climb_step h]; unfold climbT; rw [if_pos hp, if_neg hn]
theorem step_take {u : Turn} (h : Fit u) (hp : u.th.phase = 5) (hn : nodeOf u ≠ -1) :
    F_climb_Step u = some (if wordAt u (nodeOf u) = 0 then takenT (wroteT u (nodeOf u) (8 * (u.t + 1) + 1)) else { u with th := { u.th with phase := 4 } }, true) := by
  rw [climb_step h]; unfold climbT; rw [if_neg (by omega), if_pos hp, if_neg hn]
theorem step_join {u : Turn} (h : Fit u) (hp : u.th.phase = 6) (hn : nodeOf u ≠ -1) :
    F_climb_Step u = some (if wordAt u (nodeOf u) = u.th.x then joinedT (wroteT u (nodeOf u) (8 * (u.t + 1) + 2)) else { u with th := { u.th with phase := 4 } }, true) := by
  rw [climb_step h]; unfold climbT; rw [if_neg (by omega), if_neg (by omega), if_pos hp, if_neg hn]

theorem look_first {u : Turn} {t : Int} (h0 : 0 ≤ t) (h1 : t < 16) : lookT u (8 * (t + 1) + 1) = { u with th := { u.th with phase := 6, x := 8 * (t + 1) + 1 } } := by
  unfold lookT; rw [if_pos (kind_first h0 h1)]
theorem look_joined {u : Turn} {t : Int} (h0 : 0 ≤ t) (h1 : t < 16) : lookT u (8 * (t + 1) + 2) = if Late u then overT u else u := by
  unfold lookT; rw [kind_joined h0 h1, if_neg (by omega), if_neg (by omega)]
theorem look_free (u : Turn) : lookT u 0 = { u with th := { u.th with phase := 5 } } := rfl

theorem over_phase (u : Turn) : (overT u).th.phase ≠ 4 := by
  show (if _ then (7 : Int) else if _ then 11 else 2) ≠ 4
  split
  · omega
  · split <;> omega

/-- Fit depends on little. -/
theorem Fit.of {u v : Turn} (h : Fit u) (hc : v.c = u.c) (ht : 0 ≤ v.t ∧ v.t < u.c.threads) (hl : v.m.words.length = u.m.words.length) (hn : ∀ n ∈ v.m.words, Num n) (hh : v.th.held.length ≤ 4294967295) : Fit v :=
  ⟨by rw [hc]; exact h.cfg, by rw [hc]; exact ht, by rw [hc, hl]; exact h.words, hn, hh⟩

end Go.Proofs.Mill
