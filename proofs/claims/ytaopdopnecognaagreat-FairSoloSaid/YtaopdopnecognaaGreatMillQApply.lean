/- Ops, and what logs and histories come to. -/
import Derived.Test.YtaopdopnecognaaGreatMillQClimb
set_option linter.all false
namespace Go.Proofs.Mill

theorem wrap_num (n : Int) : Num (wrapA .i64 n) := by
  rw [wrapA_eq]
  simp only [Num, IntKind.wrap, IntKind.signed, IntKind.bits]
  constructor <;> simp <;> omega
theorem wrap_val (n : Int) : ∃ k : Int, wrapA .i64 n = n + k * 18446744073709551616 := by
  rw [wrapA_eq]
  simp only [IntKind.wrap, IntKind.signed, IntKind.bits]
  refine ⟨-((n + 9223372036854775808) / 18446744073709551616), ?_⟩
  simp
  omega
/-- Two numbers of 64 bits that differ by whole rounds are the same. -/
theorem num_eq {a b k : Int} (ha : Num a) (hb : Num b) (h : a = b + k * 18446744073709551616) : a = b := by
  unfold Num at ha hb
  omega
theorem wrap_u64 {n : Int} (h0 : 0 ≤ n) (h1 : n < 18446744073709551616) : wrapA .u64 n = n := by
  rw [wrapA_eq]
  simp [IntKind.wrap, IntKind.signed, IntKind.bits]
  omega
theorem u64_val (n : Int) : ∃ k : Int, IntKind.u64.wrap n = n + k * 18446744073709551616 ∧ 0 ≤ IntKind.u64.wrap n ∧ IntKind.u64.wrap n < 18446744073709551616 := by
  refine ⟨-(n / 18446744073709551616), ?_⟩
  simp [IntKind.wrap, IntKind.signed, IntKind.bits]
  omega
theorem u64_valA (n : Int) : ∃ k : Int, wrapA .u64 n = n + k * 18446744073709551616 ∧ 0 ≤ wrapA .u64 n ∧ wrapA .u64 n < 18446744073709551616 := by
  rw [wrapA_eq]
  exact u64_val n

theorem ite_some {α : Type} {c : Bool} {a b : Option α} (ha : a.isSome = true) (hb : b.isSome = true) : (bif c then a else b).isSome = true := by cases c <;> assumption
theorem ite_all {α : Type} {P : α → Prop} {c : Bool} {a b : Option α} (ha : ∀ r, a = some r → P r) (hb : ∀ r, b = some r → P r) : ∀ r, (bif c then a else b) = some r → P r := by cases c <;> assumption

theorem ref01_some (o : Op) (x lo hi : Int) : ∃ r, F_ref01_Apply o x lo hi = some r := by
  refine Option.isSome_iff_exists.1 ?_
  simp only [F_ref01_Apply, C_ref01_sum, F_ref01_sum]
  repeat' first | rfl | refine ite_some ?_ ?_

/-- What an op comes to. -/
noncomputable def App (o : Op) (x lo hi : Int) : Int × Bool := (F_ref01_Apply o x lo hi).getD (0, false)
theorem ref01_apply (o : Op) (x lo hi : Int) : F_ref01_Apply o x lo hi = some (App o x lo hi) := by
  obtain ⟨r, h⟩ := ref01_some o x lo hi
  rw [App, h]
  rfl

theorem app_num {o : Op} {x lo hi : Int} (hx : Num x) (hv : Num o.v) (hlo : Num lo) : Num (App o x lo hi).1 := by
  have h := ref01_apply o x lo hi
  revert h
  generalize App o x lo hi = r
  revert r
  simp only [F_ref01_Apply, C_ref01_sum, F_ref01_sum]
  repeat' refine ite_all (P := fun r : Int × Bool => Num r.1) ?_ ?_
  all_goals (intro r h; obtain rfl := Option.some.inj h)
  all_goals first | exact wrap_num _ | exact hx | exact hv | exact hlo | (simp only; split <;> assumption)

theorem u64_diff {x lo : Int} (hx : Num x) (hlo : Num lo) (h : lo ≤ x) : wrapA .u64 (IntKind.u64.wrap x - IntKind.u64.wrap lo) = x - lo := by
  unfold Num at hx hlo
  obtain ⟨k2, e2, l2, u2⟩ := u64_val x
  obtain ⟨k3, e3, l3, u3⟩ := u64_val lo
  obtain ⟨k4, e4, l4, u4⟩ := u64_valA (IntKind.u64.wrap x - IntKind.u64.wrap lo)
  generalize wrapA .u64 (IntKind.u64.wrap x - IntKind.u64.wrap lo) = z at *
  generalize IntKind.u64.wrap x = a at *
  generalize IntKind.u64.wrap lo = b at *
  omega
theorem wrap_sub {x v : Int} : wrapA .i64 (x + wrapA .i64 (0 - v)) = wrapA .i64 (x - v) := by
  rw [wrapA_eq, wrapA_eq, wrapA_eq]
  simp [IntKind.wrap, IntKind.signed, IntKind.bits]
  omega
theorem apply_9 {x v s lo k : Int} (hx : Num x) (hv : Num v) (hlo : Num lo) (e : s = x - v + k * 18446744073709551616) (hs : Num s) (a1 : ¬ v < 0) (a2 : ¬ x < lo) :
    (if s ≤ x then if s ≥ lo then some (s, true) else some (lo, true) else some (lo, true)) = if v ≥ x - lo then some (lo, true) else some (s, true) := by
  unfold Num at *
  by_cases a3 : v ≥ x - lo
  · rw [if_pos a3]
    by_cases a4 : s ≤ x
    · rw [if_pos a4]
      by_cases a5 : s ≥ lo
      · rw [if_pos a5, show s = lo by omega]
      · rw [if_neg a5]
    · rw [if_neg a4]
  · rw [if_neg a3, if_pos (by omega), if_pos (by omega)]
theorem apply_8 {x v s lo hi : Int} : (match (bif decide (v ≥ 0) then bif decide (s ≥ x) then bif decide (s < lo) then some true else some (decide (s > hi))
      else bif decide (v < 0) then bif decide (s < x) then bif decide (s < lo) then some true else some (decide (s > hi)) else some true else some true
    else bif decide (v < 0) then bif decide (s < x) then bif decide (s < lo) then some true else some (decide (s > hi)) else some true else some true : Option Bool) with
    | some y1 => bif !y1 then some (s, true) else some (x, false)
    | none => none) =
    bif !(decide (v ≥ 0) == decide (s ≥ x)) then some (x, false) else bif decide (s < lo) then some (x, false) else bif decide (s > hi) then some (x, false) else some (s, true) := by
  by_cases a1 : v ≥ 0
  · have d1 : decide (v ≥ 0) = true := decide_eq_true a1
    have d0 : decide (v < 0) = false := decide_eq_false (by omega)
    by_cases a2 : s ≥ x
    · have d2 : decide (s ≥ x) = true := decide_eq_true a2
      simp only [d1, d2, cond_true, beq_self_eq_true, Bool.not_true, cond_false]
      cases decide (s < lo) <;> cases decide (s > hi) <;> rfl
    · have d2 : decide (s ≥ x) = false := decide_eq_false a2
      simp only [d1, d2, d0, cond_true, cond_false]
      rfl
  · have d1 : decide (v ≥ 0) = false := decide_eq_false a1
    have d0 : decide (v < 0) = true := decide_eq_true (by omega)
    by_cases a2 : s < x
    · have d2 : decide (s ≥ x) = false := decide_eq_false (by omega)
      have d3 : decide (s < x) = true := decide_eq_true a2
      simp only [d1, d2, d0, d3, cond_true, beq_self_eq_true, Bool.not_true, cond_false]
      cases decide (s < lo) <;> cases decide (s > hi) <;> rfl
    · have d2 : decide (s ≥ x) = true := decide_eq_true (by omega)
      have d3 : decide (s < x) = false := decide_eq_false a2
      simp only [d1, d2, d0, d3, cond_true, cond_false]
      rfl

theorem apply_eq {o : Op} {x lo hi : Int} (hx : Num x) (hv : Num o.v) (hlo : Num lo) (hhi : Num hi) : F_oper_Apply o x lo hi = F_ref01_Apply o x lo hi := by
  obtain ⟨t, v⟩ := o
  simp only at hv
  unfold F_oper_Apply F_ref01_Apply
  simp only
  have n : ∀ j : Int, t ≠ j → (t == j) = false := fun j h => by simpa using h
  have y : ∀ j : Int, t = j → (t == j) = true := fun j h => by simpa using h
  by_cases t1 : t = 1
  · rw [n 2 (by omega), y 1 t1]; rfl
  by_cases t2 : t = 2
  · rw [n 1 (by omega), y 2 t2]
    simp only [cond_true, cond_false]
    rw [wrap_sub]
  by_cases t3 : t = 3
  · rw [n 1 (by omega), n 2 (by omega), y 3 t3]; rfl
  by_cases t4 : t = 4
  · rw [n 1 (by omega), n 2 (by omega), n 3 (by omega), y 4 t4]; rfl
  by_cases t5 : t = 5
  · rw [n 1 (by omega), n 2 (by omega), n 3 (by omega), n 4 (by omega), y 5 t5]
    have : (if x > v then x else v) = if v > x then v else x := by split <;> split <;> omega
    simp only [cond_true, cond_false, this]
  by_cases t6 : t = 6
  · rw [n 1 (by omega), n 2 (by omega), n 3 (by omega), n 4 (by omega), n 5 (by omega), y 6 t6]
    have : (if x < v then x else v) = if v < x then v else x := by split <;> split <;> omega
    simp only [cond_true, cond_false, this]
  by_cases t7 : t = 7
  · rw [n 1 (by omega), n 2 (by omega), n 3 (by omega), n 4 (by omega), n 5 (by omega), n 6 (by omega), y 7 t7]
    simp only [cond_true, cond_false]
  by_cases t8 : t = 8
  · rw [n 1 (by omega), n 2 (by omega), n 3 (by omega), n 4 (by omega), n 5 (by omega), n 6 (by omega), n 7 (by omega), n 9 (by omega), y 8 t8]
    simp only [cond_true, cond_false, C_oper_beyond, F_oper_beyond, C_ref01_sum, F_ref01_sum]
    exact apply_8
  by_cases t9 : t = 9
  · rw [n 1 (by omega), n 2 (by omega), n 3 (by omega), n 4 (by omega), n 5 (by omega), n 6 (by omega), n 7 (by omega), n 8 (by omega), y 9 t9]
    simp only [cond_true, cond_false, cond_dec]
    by_cases a1 : v < 0
    · rw [if_pos a1, if_pos a1]
    rw [if_neg a1, if_neg a1]
    by_cases a2 : x < lo
    · rw [if_pos a2, if_pos a2]
    rw [if_neg a2, if_neg a2]
    obtain ⟨k, e⟩ := wrap_val (x - v)
    have f1 : IntKind.u64.wrap v = v := by
      obtain ⟨k1, e1, l1, u1⟩ := u64_val v
      generalize IntKind.u64.wrap v = z at *
      unfold Num at hv
      omega
    rw [f1, u64_diff hx hlo (by omega)]
    exact apply_9 hx hv hlo e (wrap_num _) a1 a2
  rw [n 1 t1, n 2 t2, n 3 t3, n 4 t4, n 5 t5, n 6 t6, n 7 t7, n 8 t8, n 9 t9]
  rfl

theorem oper_apply {o : Op} {x lo hi : Int} (hx : Num x) (hv : Num o.v) (hlo : Num lo) (hhi : Num hi) : F_oper_Apply o x lo hi = some (App o x lo hi) := by
  rw [apply_eq hx hv hlo hhi, ref01_apply]

/-! Lists. -/
end Go.Proofs.Mill
