/- Ops, and what logs and histories come to. -/
import Derived.Test.YtcokmmhkajmkhaaMillPHBase
set_option linter.all false
namespace Go.Proofs.Mill

theorem wrap_num (n : Int) : Num (wrapA .i64 n) := by
  rw [wrapA_eq]
  simp only [Num, IntKind.wrap, IntKind.signed, IntKind.bits]
  constructor <;> simp <;> omega
theorem wrap_val (n : Int) : ∃ k : Int, wrapA .i64 n = n + k * 18446744073709551616 := by
  rw [wrapA_eq]
  simp only [IntKind.wrap, IntKind.signed, IntKind.bits]
  refine ⟨-((n + 9223372036854775808) / 18446744073709551616), ?_⟩
  simp
  omega
/-- Two numbers of 64 bits that differ by whole rounds are the same. -/
theorem num_eq {a b k : Int} (ha : Num a) (hb : Num b) (h : a = b + k * 18446744073709551616) : a = b := by
  unfold Num at ha hb
  omega
theorem wrap_u64 {n : Int} (h0 : 0 ≤ n) (h1 : n < 18446744073709551616) : wrapA .u64 n = n := by
  rw [wrapA_eq]
  simp [IntKind.wrap, IntKind.signed, IntKind.bits]
  omega
theorem u64_val (n : Int) : ∃ k : Int, IntKind.u64.wrap n = n + k * 18446744073709551616 ∧ 0 ≤ IntKind.u64.wrap n ∧ IntKind.u64.wrap n < 18446744073709551616 := by
  refine ⟨-(n / 18446744073709551616), ?_⟩
  simp [IntKind.wrap, IntKind.signed, IntKind.bits]
  omega
theorem u64_valA (n : Int) : ∃ k : Int, wrapA .u64 n = n + k * 18446744073709551616 ∧ 0 ≤ wrapA .u64 n ∧ wrapA .u64 n < 18446744073709551616 := by
  rw [wrapA_eq]
  exact u64_val n

theorem ite_some {α : Type} {c : Bool} {a b : Option α} (ha : a.isSome = true) (hb : b.isSome = true) : (bif c then a else b).isSome = true := by cases c <;> assumption
theorem ite_all {α : Type} {P : α → Prop} {c : Bool} {a b : Option α} (ha : ∀ r, a = some r → P r) (hb : ∀ r, b = some r → P r) : ∀ r, (bif c then a else b) = some r → P r := by cases c <;> assumption

theorem ref01_some (o : Op) (x lo hi : Int) : ∃ r, F_ref01_Apply o x lo hi = some r := by
  refine Option.isSome_iff_exists.1 ?_
  simp only [F_ref01_Apply, C_ref01_sum, F_ref01_sum]
  repeat' first | rfl | refine ite_some ?_ ?_

/-- What an op comes to. -/
noncomputable def App (o : Op) (x lo hi : Int) : Int × Bool := (F_ref01_Apply o x lo hi).getD (0, false)
theorem ref01_apply (o : Op) (x lo hi : Int) : F_ref01_Apply o x lo hi = some (App o x lo hi) := by
  obtain ⟨r, h⟩ := ref01_some o x lo hi
  rw [App, h]
  rfl

theorem app_num {o : Op} {x lo hi : Int} (hx : Num x) (hv : Num o.v) (hlo : Num lo) : Num (App o x lo hi).1 := by
  have h := ref01_apply o x lo hi
  revert h
  generalize App o x lo hi = r
  revert r
  simp only [F_ref01_Apply, C_ref01_sum, F_ref01_sum]
  repeat' refine ite_all (P := fun r : Int × Bool => Num r.1) ?_ ?_
  all_goals (intro r h; obtain rfl := Option.some.inj h)
  all_goals first | exact wrap_num _ | exact hx | exact hv | exact hlo | (simp only; split <;> assumption)

theorem u64_diff {x lo : Int} (hx : Num x) (hlo : Num lo) (h : lo ≤ x) : wrapA .u64 (IntKind.u64.wrap x - IntKind.u64.wrap lo) = x - lo := by
  unfold Num at hx hlo
  obtain ⟨k2, e2, l2, u2⟩ := u64_val x
  obtain ⟨k3, e3, l3, u3⟩ := u64_val lo
  obtain ⟨k4, e4, l4, u4⟩ := u64_valA (IntKind.u64.wrap x - IntKind.u64.wrap lo)
  generalize wrapA .u64 (IntKind.u64.wrap x - IntKind.u64.wrap lo) = z at *
  generalize IntKind.u64.wrap x = a at *
  generalize IntKind.u64.wrap lo = b at *
  omega
theorem wrap_sub {x v : Int} : wrapA .i64 (x + wrapA .i64 (0 - v)) = wrapA .i64 (x - v) := by
  rw [wrapA_eq, wrapA_eq, wrapA_eq]
  simp [IntKind.wrap, IntKind.signed, IntKind.bits]
  omega
theorem apply_9 {x v s lo k : Int} (hx : Num x) (hv : Num v) (hlo : Num lo) (e : s = x - v + k * 18446744073709551616) (hs : Num s) (a1 : ¬ v < 0) (a2 : ¬ x < lo) :
    (if s ≤ x then if s ≥ lo then some (s, true) else some (lo, true) else some (lo, true)) = if v ≥ x - lo then some (lo, true) else some (s, true) := by
  unfold Num at *
  by_cases a3 : v ≥ x - lo
  · rw [if_pos a3]
    by_cases a4 : s ≤ x
    · rw [if_pos a4]
      by_cases a5 : s ≥ lo
      · rw [if_pos a5, show s = lo by omega]
      · rw [if_neg a5]
    · rw [if_neg a4]
  · rw [if_neg a3, if_pos (by omega), if_pos (by omega)]
theorem apply_8 {x v s lo hi : Int} : (match (bif decide (v ≥ 0) then bif decide (s ≥ x) then bif decide (s < lo) then some true else some (decide (s > hi))
      else bif decide (v < 0) then bif decide (s < x) then bif decide (s < lo) then some true else some (decide (s > hi)) else some true else some true
    else bif decide (v < 0) then bif decide (s < x) then bif decide (s < lo) then some true else some (decide (s > hi)) else some true else some true : Option Bool) with
    | some y1 => bif !y1 then some (s, true) else some (x, false)
    | none => none) =
    bif !(decide (v ≥ 0) == decide (s ≥ x)) then some (x, false) else bif decide (s < lo) then some (x, false) else bif decide (s > hi) then some (x, false) else some (s, true) := by
  by_cases a1 : v ≥ 0
  · have d1 : decide (v ≥ 0) = true := decide_eq_true a1
    have d0 : decide (v < 0) = false := decide_eq_false (by omega)
    by_cases a2 : s ≥ x
    · have d2 : decide (s ≥ x) = true := decide_eq_true a2
      simp only [d1, d2, cond_true, beq_self_eq_true, Bool.not_true, cond_false]
      cases decide (s < lo) <;> cases decide (s > hi) <;> rfl
    · have d2 : decide (s ≥ x) = false := decide_eq_false a2
      simp only [d1, d2, d0, cond_true, cond_false]
      rfl
  · have d1 : decide (v ≥ 0) = false := decide_eq_false a1
    have d0 : decide (v < 0) = true := decide_eq_true (by omega)
    by_cases a2 : s < x
    · have d2 : decide (s ≥ x) = false := decide_eq_false (by omega)
      have d3 : decide (s < x) = true := decide_eq_true a2
      simp only [d1, d2, d0, d3, cond_true, beq_self_eq_true, Bool.not_true, cond_false]
      cases decide (s < lo) <;> cases decide (s > hi) <;> rfl
    · have d2 : decide (s ≥ x) = true := decide_eq_true (by omega)
      have d3 : decide (s < x) = false := decide_eq_false a2
      simp only [d1, d2, d0, d3, cond_true, cond_false]
      rfl

theorem apply_eq {o : Op} {x lo hi : Int} (hx : Num x) (hv : Num o.v) (hlo : Num lo) (hhi : Num hi) : F_oper_Apply o x lo hi = F_ref01_Apply o x lo hi := by
  obtain ⟨t, v⟩ := o
  simp only at hv
  unfold F_oper_Apply F_ref01_Apply
  simp only
  have n : ∀ j : Int, t ≠ j → (t == j) = false := fun j h => by simpa using h
  have y : ∀ j : Int, t = j → (t == j) = true := fun j h => by simpa using h
  by_cases t1 : t = 1
  · rw [n 2 (by omega), y 1 t1]; rfl
  by_cases t2 : t = 2
  · rw [n 1 (by omega), y 2 t2]
    simp only [cond_true, cond_false]
    rw [wrap_sub]
  by_cases t3 : t = 3
  · rw [n 1 (by omega), n 2 (by omega), y 3 t3]; rfl
  by_cases t4 : t = 4
  · rw [n 1 (by omega), n 2 (by omega), n 3 (by omega), y 4 t4]; rfl
  by_cases t5 : t = 5
  · rw [n 1 (by omega), n 2 (by omega), n 3 (by omega), n 4 (by omega), y 5 t5]
    have : (if x > v then x else v) = if v > x then v else x := by split <;> split <;> omega
    simp only [cond_true, cond_false, this]
  by_cases t6 : t = 6
  · rw [n 1 (by omega), n 2 (by omega), n 3 (by omega), n 4 (by omega), n 5 (by omega), y 6 t6]
    have : (if x < v then x else v) = if v < x then v else x := by split <;> split <;> omega
    simp only [cond_true, cond_false, this]
  by_cases t7 : t = 7
  · rw [n 1 (by omega), n 2 (by omega), n 3 (by omega), n 4 (by omega), n 5 (by omega), n 6 (by omega), y 7 t7]
    simp only [cond_true, cond_false]
  by_cases t8 : t = 8
  · rw [n 1 (by omega), n 2 (by omega), n 3 (by omega), n 4 (by omega), n 5 (by omega), n 6 (by omega), n 7 (by omega), n 9 (by omega), y 8 t8]
    simp only [cond_true, cond_false, C_oper_beyond, F_oper_beyond, C_ref01_sum, F_ref01_sum]
    exact apply_8
  by_cases t9 : t = 9
  · rw [n 1 (by omega), n 2 (by omega), n 3 (by omega), n 4 (by omega), n 5 (by omega), n 6 (by omega), n 7 (by omega), n 8 (by omega), y 9 t9]
    simp only [cond_true, cond_false, cond_dec]
    by_cases a1 : v < 0
    · rw [if_pos a1, if_pos a1]
    rw [if_neg a1, if_neg a1]
    by_cases a2 : x < lo
    · rw [if_pos a2, if_pos a2]
    rw [if_neg a2, if_neg a2]
    obtain ⟨k, e⟩ := wrap_val (x - v)
    have f1 : IntKind.u64.wrap v = v := by
      obtain ⟨k1, e1, l1, u1⟩ := u64_val v
      generalize IntKind.u64.wrap v = z at *
      unfold Num at hv
      omega
    rw [f1, u64_diff hx hlo (by omega)]
    exact apply_9 hx hv hlo e (wrap_num _) a1 a2
  rw [n 1 t1, n 2 t2, n 3 t3, n 4 t4, n 5 t5, n 6 t6, n 7 t7, n 8 t8, n 9 t9]
  rfl

theorem oper_apply {o : Op} {x lo hi : Int} (hx : Num x) (hv : Num o.v) (hlo : Num lo) (hhi : Num hi) : F_oper_Apply o x lo hi = some (App o x lo hi) := by
  rw [apply_eq hx hv hlo hhi, ref01_apply]

/-! Lists. -/
theorem filter_next {α : Type} (p : α → Bool) (l : List α) (d : α) (i : Nat) (h : i < l.length) : (l.take (i + 1)).filter p = if p (l.getD i d) = true then (l.take i).filter p ++ [l.getD i d] else (l.take i).filter p := by
  rw [← take_next l d i h, List.filter_append]
  by_cases hp : p (l.getD i d) = true
  · rw [if_pos hp, List.filter_cons_of_pos hp, List.filter_nil]
  · rw [if_neg hp, List.filter_cons_of_neg hp, List.filter_nil, List.append_nil]

/-- Rounds over a list that none leaves. -/
theorem foldX_all {σ ρ α : Type} {step : σ → α → Option (σ ⊕ ρ)} {f : σ → α → σ} (I : σ → Prop) : ∀ (l : List α) (st : σ), I st → (∀ st, I st → ∀ x ∈ l, step st x = some (.inl (f st x)) ∧ I (f st x)) → foldX step l st = some (.inl (l.foldl f st))
  | [], st, _, _ => rfl
  | x :: l, st, h0, h => by
    obtain ⟨h1, h2⟩ := h st h0 x (List.mem_cons_self ..)
    unfold foldX
    rw [h1]
    exact foldX_all I l (f st x) h2 fun st hs y hy => h st hs y (List.mem_cons_of_mem _ hy)

/-- Numbers as they come in. -/
def MarkOK (m : Mark) : Prop := Num m.op.v
def EventOK (e : Event) : Prop := Num e.op.v ∧ Num e.prior
def ConfOK (c : Config) : Prop := Num c.init ∧ Num c.lo ∧ Num c.hi

theorem conf_ok {c : Config} (o : (valSt celConfig).Ok c) : ConfOK c := by
  have h1 : ∀ x : Int, AV.int .i64 x ∈ celConfig.enc c → Num x := fun x hx => lit_ok (o _ hx)
  refine ⟨h1 _ ?_, h1 _ ?_, h1 _ ?_⟩ <;> simp [celConfig, celAs, celApp, celInt, celBool]
theorem mark_ok {m : Mark} (h : Ty.Ok .mark m) : MarkOK m := by
  have := h (.int .i64 m.op.v) (by simp [Ty.enc, encMark])
  cases this with
  | int h => exact lit_ok h
theorem event_ok {e : Event} (h : Ty.Ok .event e) : EventOK e := by
  constructor
  · have := h (.int .i64 e.op.v) (by simp [Ty.enc, encEvent])
    cases this with
    | int h => exact lit_ok h
  · have := h (.int .i64 e.prior) (by simp [Ty.enc, encEvent])
    cases this with
    | int h => exact lit_ok h
theorem marks_ok {l : List Mark} (h : (valLst .mark).Ok l) : ∀ m ∈ l, MarkOK m := fun m hm => mark_ok (h.2 m hm)
theorem events_ok {l : List Event} (h : (valLst .event).Ok l) : ∀ e ∈ l, EventOK e := fun e he => event_ok (h.2 e he)

/-! What a log makes of a cell. -/
noncomputable def stepR (lo hi : Int) (st : Int × Bool) (m : Mark) : Int × Bool := ((App m.op st.1 lo hi).1, st.2 && st.1 == m.prior)
noncomputable def replay (c : Config) (l : List Mark) (k : Int) : Int × Bool := (l.filter fun m => m.item == k).foldl (stepR c.lo c.hi) (c.init, true)

theorem ref18_replay (c : Config) (l : List Mark) (k : Int) (h : l.length ≤ 4294967296) : F_ref18_Replay c l k = some (replay c l k) := by
  have hw : W_ref18_Replay_4 (l, k, c, c.init, true, 0) = some (replay c l k) := by
    refine whileM_for (fun i => (l, k, c, (((l.take i).filter fun m => m.item == k).foldl (stepR c.lo c.hi) (c.init, true)).1, (((l.take i).filter fun m => m.item == k).foldl (stepR c.lo c.hi) (c.init, true)).2, (i : Int))) l.length (fun i hi => ?_) ?_
    · have h1 : (i : Int) < (l.length : Int) := by omega
      rw [filter_next _ l dMark i hi]
      simp only [T_ref18_Replay_4, S_ref18_Replay_4, C_ref01_Apply, ref01_apply, cond_dec, if_pos h1, if_pos (Int.natCast_nonneg i), Int.toNat_natCast]
      rw [wrap_id (by omega) (by omega)]
      cases hp : (l.getD i dMark).item == k with
      | false => rfl
      | true =>
        simp only [cond_true, if_true, List.foldl_append, List.foldl_cons, List.foldl_nil]
        generalize List.foldl (stepR c.lo c.hi) (c.init, true) _ = z
        obtain ⟨x, b⟩ := z
        have e : ((l.getD i dMark).prior == x) = (x == (l.getD i dMark).prior) := BEq.comm
        cases b with
        | true => simp only [cond_true, stepR, Bool.true_and, e]; rfl
        | false => simp only [cond_false, stepR, Bool.false_and]; rfl
    · simp [T_ref18_Replay_4, S_ref18_Replay_4, replay]
  simp only [F_ref18_Replay, hw]

theorem ref18_own (l : List Mark) (k : Int) (h : l.length ≤ 4294967296) : F_ref18_own l k = some (l.filter fun m => m.t == k) := by
  have hw : W_ref18_own_3 (l, k, [], 0) = some (l.filter fun m => m.t == k) := by
    refine whileM_for (fun i => (l, k, (l.take i).filter (fun m => m.t == k), (i : Int))) l.length (fun i hi => ?_) ?_
    · have h1 : (i : Int) < (l.length : Int) := by omega
      have h3 := List.length_filter_le (fun m : Mark => m.t == k) (l.take i)
      rw [List.length_take] at h3
      have h2 : ∀ x : Mark, fewB (((l.take i).filter fun m => m.t == k).length + [x].length) = true := fun x => few_true (by simp only [List.length_cons, List.length_nil]; omega)
      rw [filter_next _ l dMark i hi]
      simp only [T_ref18_own_3, S_ref18_own_3, cond_dec, if_pos h1, if_pos (Int.natCast_nonneg i), Int.toNat_natCast, h2, cond_true]
      rw [wrap_id (by omega) (by omega)]
      cases hp : (l.getD i dMark).t == k <;> rfl
    · simp [T_ref18_own_3, S_ref18_own_3]
  simp only [F_ref18_own, hw]

/-- The events of a thread that count. -/
def evts (l : List Event) (k : Int) : List Event := l.filter fun e => e.t == k && e.kind != 3

theorem ref18_events (l : List Event) (k : Int) (h : l.length ≤ 4294967296) : F_ref18_events l k = some (evts l k) := by
  have hw : W_ref18_events_3 (l, k, [], 0) = some (evts l k) := by
    refine whileM_for (fun i => (l, k, evts (l.take i) k, (i : Int))) l.length (fun i hi => ?_) ?_
    · have h1 : (i : Int) < (l.length : Int) := by omega
      have h3 := List.length_filter_le (fun e : Event => e.t == k && e.kind != 3) (l.take i)
      rw [List.length_take] at h3
      have h2 : ∀ x : Event, fewB ((evts (l.take i) k).length + [x].length) = true := fun x => few_true (by simp only [List.length_cons, List.length_nil, evts]; omega)
      simp only [T_ref18_events_3, S_ref18_events_3, cond_dec, if_pos h1, if_pos (Int.natCast_nonneg i), Int.toNat_natCast, h2, cond_true]
      rw [wrap_id (by omega) (by omega)]
      have e := filter_next (fun e : Event => e.t == k && e.kind != 3) l dEvent i hi
      unfold evts
      rw [e]
      cases hp : (l.getD i dEvent).t == k with
      | false => simp only [hp, Bool.false_and, cond_false]; rfl
      | true =>
        cases hq : (l.getD i dEvent).kind != 3 with
        | false => simp only [hp, hq, Bool.and_false, cond_false, cond_true]; rfl
        | true => simp only [hp, hq, Bool.and_true, cond_true, if_true]; rfl
    · simp [T_ref18_events_3, S_ref18_events_3, evts]
  simp only [F_ref18_events, hw]

end Go.Proofs.Mill
