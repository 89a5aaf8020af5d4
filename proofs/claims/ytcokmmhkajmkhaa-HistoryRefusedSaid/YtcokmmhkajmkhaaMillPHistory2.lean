/- What the program's functions over logs and histories come to, and the references'. -/
import Derived.Test.YtcokmmhkajmkhaaMillPHistory
set_option linter.all false
namespace Go.Proofs.Mill

theorem fold1_eq {σ : Type} {it : ItV} {step : σ → it.α → Option (σ ⊕ Empty)} {z : it.κ × σ} {y : σ} (hb : it.okB z.1 = true) (h : foldX step (it.els z.1) z.2 = some (.inl y)) : fold1 it step z = some y := by
  unfold fold1
  rw [hb, h]
  rfl
theorem fold2_eq {σ ρ : Type} {it : ItV} {step : σ → it.α → Option (σ ⊕ ρ)} {z : it.κ × σ} {y : Option (σ ⊕ ρ)} (hb : it.okB z.1 = true) (h : foldX step (it.els z.1) z.2 = y) : fold2 it step z = y := by
  unfold fold2
  rw [hb, h]
  rfl

theorem stepR_fold (c : Config) : ∀ (L : List Mark) (z : Int × Bool), L.foldl (fun (st : Config × Int × Bool) m => (st.1, stepR st.1.lo st.1.hi st.2 m)) (c, z) = (c, L.foldl (stepR c.lo c.hi) z)
  | [], _ => rfl
  | m :: L, z => by rw [List.foldl_cons, List.foldl_cons]; exact stepR_fold c L _

theorem history_replay {c : Config} {l : List Mark} (k : Int) (hc : ConfOK c) (hl : ∀ m ∈ l, MarkOK m) (h : l.length ≤ 4294967296) : F_history_Replay c l k = some (replay c l k) := by
  have hf := foldX_all (ρ := Empty) (step := T_history_Replay_3) (f := fun (st : Config × Int × Bool) m => (st.1, stepR st.1.lo st.1.hi st.2 m)) (fun st => st.1 = c ∧ Num st.2.1) (l.filter fun m => m.item == k) (c, c.init, true) ⟨rfl, hc.1⟩ (by
    rintro ⟨c', x, b⟩ ⟨rfl, hx⟩ m hm
    have hm := hl m (List.mem_filter.1 hm).1
    simp only at hx
    refine ⟨?_, rfl, app_num hx hm hc.2.1⟩
    simp only [T_history_Replay_3, S_history_Replay_3, C_oper_Apply, oper_apply hx hm hc.2.1 hc.2.2]
    cases b <;> rfl)
  rw [stepR_fold] at hf
  have hw : W_history_Replay_3 ((l, k), c, c.init, true) = some (c, replay c l k) := fold1_eq (it := itReplay) (few_true h) hf
  simp only [F_history_Replay, hw]

theorem replay_num {c : Config} {l : List Mark} (k : Int) (hc : ConfOK c) (hl : ∀ m ∈ l, MarkOK m) : Num (replay c l k).1 := by
  have key : ∀ (L : List Mark) (z : Int × Bool), (∀ m ∈ L, MarkOK m) → Num z.1 → Num (L.foldl (stepR c.lo c.hi) z).1 := by
    intro L
    induction L with
    | nil => intro z _ h; exact h
    | cons m L ih =>
      intro z hL h
      exact ih _ (fun x hx => hL x (List.mem_cons_of_mem _ hx)) (app_num h (hL m (List.mem_cons_self ..)) hc.2.1)
  exact key _ _ (fun m hm => hl m (List.mem_filter.1 hm).1) hc.1

/-! Pending. -/
def noEvent : Event := ⟨0, 0, 0, ⟨0, 0⟩, 0, false, 0⟩
def pend (L : List Event) : Event × Bool := match L.getLast? with
  | some e => bif e.kind == 1 then (e, true) else (noEvent, false)
  | none => (noEvent, false)

theorem last_fold : ∀ (L : List Event) (z : Event × Bool), L.foldl (fun _ e => (e, e.kind == (1 : Int))) z = match L.getLast? with | some e => (e, e.kind == (1 : Int)) | none => z
  | [], _ => rfl
  | e :: L, z => by
    rw [List.foldl_cons, last_fold L, List.getLast?_cons]
    cases L.getLast? <;> rfl

theorem history_pending {l : List Event} (k : Int) (h : l.length ≤ 4294967296) : F_history_Pending l k = some (pend (evts l k)) := by
  have hf := foldX_all (ρ := Empty) (step := T_history_Pending_2) (f := fun (_ : Event × Bool) e => (e, e.kind == (1 : Int))) (fun _ => True) (evts l k) (noEvent, false) trivial (fun _ _ _ _ => ⟨rfl, trivial⟩)
  rw [last_fold] at hf
  have hw : W_history_Pending_2 ((l, k), noEvent, false) = some (match (evts l k).getLast? with | some e => (e, e.kind == (1 : Int)) | none => (noEvent, false)) := fold1_eq (it := itEvents) (few_true h) hf
  have hw : W_history_Pending_2 ((l, k), Event.mk (0 : Int) (0 : Int) (0 : Int) (Op.mk (0 : Int) (0 : Int)) (0 : Int) false (0 : Int), false) = _ := hw
  simp only [F_history_Pending, hw, pend]
  cases (evts l k).getLast? with
  | none => rfl
  | some e => cases he : e.kind == (1 : Int) <;> simp [he, noEvent]

theorem ref18_pending {l : List Event} (k : Int) (h : l.length ≤ 4294967296) : F_ref18_Pending l k = some (pend (evts l k)) := by
  have hlen := List.length_filter_le (fun e : Event => e.t == k && e.kind != 3) l
  simp only [F_ref18_Pending, C_ref18_events, ref18_events l k h, pend]
  unfold evts at *
  generalize l.filter (fun e => e.t == k && e.kind != 3) = L at *
  cases hL : L with
  | nil => rfl
  | cons e0 L0 =>
    rw [← hL]
    have hn : 0 < L.length := by rw [hL]; simp
    have h0 : ((L.length : Int) == 0) = false := beq_eq_false_iff_ne.2 (by omega)
    have w : wrapA .i64 ((L.length : Int) - 1) = ((L.length - 1 : Nat) : Int) := by rw [wrap_id (by omega) (by omega)]; omega
    have b0 : decide ((0 : Int) ≤ ((L.length - 1 : Nat) : Int)) = true := decide_eq_true (by omega)
    have b1 : decide (((L.length - 1 : Nat) : Int) < (L.length : Int)) = true := decide_eq_true (by omega)
    have e : L.getLast? = some (L.getD (L.length - 1) dEvent) := by
      rw [List.getLast?_eq_getElem?, List.getD_eq_getElem?_getD, List.getElem?_eq_getElem (by omega), Option.getD_some]
    rw [e]
    simp only [h0, w, b0, b1, cond_true, cond_false, Int.toNat_natCast]
    cases hk : (L.getD (L.length - 1) dEvent).kind == (1 : Int) with
    | true => rw [show ((L.getD (L.length - 1) dEvent).kind != (1 : Int)) = false by rw [bne, hk]; rfl]; rfl
    | false => rw [show ((L.getD (L.length - 1) dEvent).kind != (1 : Int)) = true by rw [bne, hk]; rfl]; rfl

/-! Counts. -/
def count (l : List Event) (k : Int) : Int := ((l.filter fun e => e.kind == k).length : Int)
theorem count_le (l : List Event) (k : Int) : 0 ≤ count l k ∧ count l k ≤ l.length := by
  have := List.length_filter_le (fun e : Event => e.kind == k) l
  unfold count
  omega
theorem count_next (l : List Event) (k : Int) (i : Nat) (h : i < l.length) : count (l.take (i + 1)) k = if (l.getD i dEvent).kind = k then count (l.take i) k + 1 else count (l.take i) k := by
  unfold count
  rw [filter_next _ l dEvent i h]
  by_cases hk : (l.getD i dEvent).kind = k
  · rw [if_pos (by simpa using hk), if_pos hk, List.length_append]; rfl
  · rw [if_neg (by simpa using hk), if_neg hk]
theorem count_wrap {l : List Event} (k : Int) (h : l.length ≤ 4294967296) (i : Nat) : wrapA .i64 (count (l.take i) k + 1) = count (l.take i) k + 1 := by
  have h1 := count_le (l.take i) k
  have : (l.take i).length ≤ l.length := by rw [List.length_take]; omega
  exact wrap_id (by omega) (by omega)

theorem history_counts {l : List Event} (h : l.length ≤ 4294967296) : F_history_Counts l = some (count l 1, count l 2, count l 3) := by
  have hw : W_history_Counts_2 (0, 0, 0, l, l.length, 0) = some (count l 1, count l 2, count l 3) := by
    refine whileM_for (fun i => (count (l.take i) 1, count (l.take i) 2, count (l.take i) 3, l, (l.length : Int), (i : Int))) l.length (fun i hi => ?_) ?_
    · have h1 : decide ((i : Int) < (l.length : Int)) = true := decide_eq_true (by omega)
      have h2 : decide ((0 : Int) ≤ (i : Int)) = true := decide_eq_true (by omega)
      rw [count_next l 1 i hi, count_next l 2 i hi, count_next l 3 i hi]
      simp only [T_history_Counts_2, S_history_Counts_2, h1, h2, cond_true, Int.toNat_natCast, count_wrap _ h]
      rw [wrap_id (by omega) (by omega)]
      generalize (l.getD i dEvent).kind = q
      by_cases q1 : q = 1
      · subst q1; rfl
      by_cases q2 : q = 2
      · subst q2; rfl
      by_cases q3 : q = 3
      · subst q3; rfl
      rw [show (q == 1) = false by simpa using q1, show (q == 2) = false by simpa using q2, show (q == 3) = false by simpa using q3, if_neg q1, if_neg q2, if_neg q3]
      rfl
    · simp [T_history_Counts_2, S_history_Counts_2]
  simp only [F_history_Counts, hw]

theorem ref18_counts {l : List Event} (h : l.length ≤ 4294967296) : F_ref18_Counts l = some (count l 1, count l 2, count l 3) := by
  have hw : W_ref18_Counts_3 (l, (0, 0, 0, 0), 0) = some (0, count l 1, count l 2, count l 3) := by
    refine whileM_for (fun i => (l, ((0 : Int), count (l.take i) 1, count (l.take i) 2, count (l.take i) 3), (i : Int))) l.length (fun i hi => ?_) ?_
    · have h1 : decide ((i : Int) < (l.length : Int)) = true := decide_eq_true (by omega)
      have h2 : decide ((0 : Int) ≤ (i : Int)) = true := decide_eq_true (by omega)
      rw [count_next l 1 i hi, count_next l 2 i hi, count_next l 3 i hi]
      simp only [T_ref18_Counts_3, S_ref18_Counts_3, h1, h2, cond_true, Int.toNat_natCast, count_wrap _ h]
      rw [wrap_id (n := (i : Int) + 1) (by omega) (by omega)]
      by_cases q1 : (l.getD i dEvent).kind = 1
      · simp only [q1]; rfl
      by_cases q2 : (l.getD i dEvent).kind = 2
      · simp only [q2]; rfl
      by_cases q3 : (l.getD i dEvent).kind = 3
      · simp only [q3]; rfl
      rw [if_neg q1, if_neg q2, if_neg q3]
      by_cases a : (l.getD i dEvent).kind ≥ 1
      · simp only [decide_eq_true a, show decide ((l.getD i dEvent).kind ≤ 3) = false from decide_eq_false (by omega)]; rfl
      · simp only [decide_eq_false a]; rfl
    · simp [T_ref18_Counts_3, S_ref18_Counts_3]
  simp only [F_ref18_Counts, hw]

/-! Answers. -/
/-- Whether a mark is that of a call and of its answer. -/
noncomputable def fit (c : Config) (m : Mark) (call e : Event) : Bool :=
  (e.op.tag == call.op.tag && (e.op.v == call.op.v && true)) && (e.item == call.item) && (m.op.tag == e.op.tag && (m.op.v == e.op.v && true)) && (m.item == e.item) && (m.prior == e.prior) && (e.did == (App e.op e.prior c.lo c.hi).2) && decide (call.step < m.step) && decide (m.step ≤ e.step)

theorem chain8 {α : Type} {a b c d e f g h : Bool} {N F : α} : (bif !a then F else bif !b then F else bif !c then F else bif !d then F else bif !e then F else bif !f then F else bif !g then F else bif !h then F else N) = bif a && b && c && d && e && f && g && h then N else F := by
  cases a <;> cases b <;> cases c <;> cases d <;> cases e <;> cases f <;> cases g <;> cases h <;> rfl
theorem chain6 {a b c d e f g h i j : Bool} : (bif a && (b && true) && (c && true) then bif d && (e && true) && (f && true) then bif g then bif h then bif i then some j else some false else some false else some false else some false else some false) =
    some ((a && (b && true)) && c && (d && (e && true)) && f && g && h && i && j) := by
  cases a <;> cases b <;> cases c <;> cases d <;> cases e <;> cases f <;> cases g <;> cases h <;> cases i <;> rfl

theorem history_answered {c : Config} (m : Mark) (call : Event) {e : Event} (hc : ConfOK c) (he : EventOK e) : F_history_answered c m call e = some (fit c m call e) := by
  simp only [F_history_answered, C_oper_Apply, oper_apply he.2 he.1 hc.2.1 hc.2.2, C_history_of, F_history_of, fit]
  rw [chain6]
  rw [BEq.comm (a := m.op.tag), BEq.comm (a := m.op.v), BEq.comm (a := m.item), BEq.comm (a := e.did)]

theorem collect_own (l : List Mark) (k : Int) (h : l.length ≤ 4294967296) : F_slices_Collect_thread_Mark (l, k) = some (l.filter fun m => m.t == k) := by
  have key : ∀ (L A : List Mark), A.length + L.length ≤ 4294967296 → foldX T_slices_AppendSeq_thread_Mark_2 L A = some (.inl (A ++ L)) := by
    intro L
    induction L with
    | nil => intro A _; rw [List.append_nil]; rfl
    | cons m L ih =>
      intro A hA
      rw [List.length_cons] at hA
      unfold foldX
      simp only [T_slices_AppendSeq_thread_Mark_2, S_slices_AppendSeq_thread_Mark_2, List.length_cons, List.length_nil]
      rw [few_true (by omega)]
      simp only [cond_true]
      rw [ih _ (by rw [List.length_append, List.length_cons, List.length_nil]; omega), List.append_assoc]
      rfl
  have hle := List.length_filter_le (fun m : Mark => m.t == k) l
  have hw : W_slices_AppendSeq_thread_Mark_2 ((l, k), []) = some (l.filter fun m => m.t == k) := fold1_eq (it := itOwn) (few_true h) (by
    have := key (l.filter fun m => m.t == k) [] (by rw [List.length_nil]; omega)
    rw [List.nil_append] at this
    exact this)
  simp only [F_slices_Collect_thread_Mark, C_slices_AppendSeq_thread_Mark, F_slices_AppendSeq_thread_Mark, hw]

/-- The rounds of both. -/
theorem answers_rounds {c : Config} {own : List Mark} {evs : List Event} (hc : ConfOK c) (he : ∀ e ∈ evs, EventOK e) (h : evs.length ≤ 4294967296) (ho : own.length ≤ 4294967296) :
    ∀ (d i : Nat), i + d = evs.length → i / 2 ≤ own.length → ∀ call, (i % 2 = 1 → call = evs.getD (i - 1) dEvent) →
      (foldX T_history_Answers_5 (evs.drop i) (c, false, own.drop (i / 2), call, i % 2 == 1) = some (.inr false) ∧ whileM T_ref18_Answers_4 (c, own, evs, (i : Int)) = some (.inr false)) ∨
      (∃ call', foldX T_history_Answers_5 (evs.drop i) (c, false, own.drop (i / 2), call, i % 2 == 1) = some (.inl (c, false, own.drop (evs.length / 2), call', evs.length % 2 == 1)) ∧ (evs.length % 2 = 1 → call' = evs.getD (evs.length - 1) dEvent) ∧
        evs.length / 2 ≤ own.length ∧ whileM T_ref18_Answers_4 (c, own, evs, (i : Int)) = some (.inl (own, evs))) := by
  intro d
  induction d with
  | zero =>
    intro i hi hk call hcall
    obtain rfl : i = evs.length := by omega
    refine .inr ⟨call, ?_, hcall, hk, ?_⟩
    · rw [List.drop_length]; rfl
    · rw [whileM_eq]
      simp [T_ref18_Answers_4, S_ref18_Answers_4]
  | succ d ih =>
    intro i hi hk call hcall
    have hlt : i < evs.length := by omega
    have hd : evs.drop i = evs.getD i dEvent :: evs.drop (i + 1) := by
      rw [List.drop_eq_getElem_cons hlt, List.getD_eq_getElem?_getD, List.getElem?_eq_getElem hlt, Option.getD_some]
    have hev : EventOK (evs.getD i dEvent) := by
      refine he _ ?_
      rw [List.getD_eq_getElem?_getD, List.getElem?_eq_getElem hlt, Option.getD_some]
      exact List.getElem_mem hlt
    have d2 : wrapA .i64 ((i : Int).tdiv 2) = ((i / 2 : Nat) : Int) := by rw [Int.tdiv_eq_ediv_of_nonneg (by omega), wrap_id (by omega) (by omega)]; omega
    have m2 : (i : Int).tmod 2 = ((i % 2 : Nat) : Int) := by rw [Int.tmod_eq_emod_of_nonneg (by omega)]; omega
    have n1 : wrapA .i64 ((i : Int) + 1) = ((i + 1 : Nat) : Int) := by rw [wrap_id (by omega) (by omega)]; omega
    have b0 : decide ((0 : Int) ≤ (i : Int)) = true := decide_eq_true (by omega)
    have b1 : decide ((i : Int) < (evs.length : Int)) = true := decide_eq_true (by omega)
    have hq := ih (i + 1) (by omega)
    rw [hd]
    rw [whileM_eq]
    unfold foldX
    generalize hge : evs.getD i dEvent = e at *
    have hT : T_ref18_Answers_4 (c, own, evs, (i : Int)) = S_ref18_Answers_4 c own evs i := rfl
    rw [hT]
    rcases Nat.mod_two_eq_zero_or_one i with hm | hm
    · -- a call is due
      have hj : (i + 1) / 2 = i / 2 := by omega
      have hjm : (i + 1) % 2 = 1 := by omega
      have eT : T_history_Answers_5 (c, false, own.drop (i / 2), call, i % 2 == 1) e = bif e.kind == (1 : Int) then some (.inl (c, false, own.drop (i / 2), e, true)) else some (.inr false) := by
        rw [hm]
        simp only [T_history_Answers_5, S_history_Answers_5]
        cases e.kind == (1 : Int) <;> rfl
      have eR : S_ref18_Answers_4 c own evs i = bif e.kind == (1 : Int) then some (.inl (c, own, evs, ((i + 1 : Nat) : Int))) else some (.inr (.inr false)) := by
        simp only [S_ref18_Answers_4, b0, b1, cond_true, m2, hm, Int.toNat_natCast, hge, n1]
        cases e.kind == (1 : Int) <;> rfl
      rw [eT, eR]
      cases hkd : e.kind == (1 : Int) with
      | false => exact .inl ⟨rfl, rfl⟩
      | true =>
        simp only [cond_true]
        have := hq (by omega) e (fun _ => by rw [Nat.add_sub_cancel]; exact hge.symm)
        rw [hj, hjm] at this
        exact this
    · -- an answer is due
      have hj : (i + 1) / 2 = i / 2 + 1 := by omega
      have hjm : (i + 1) % 2 = 0 := by omega
      have p1 : wrapA .i64 ((i : Int) - 1) = ((i - 1 : Nat) : Int) := by rw [wrap_id (by omega) (by omega)]; omega
      have b2 : decide ((0 : Int) ≤ ((i - 1 : Nat) : Int)) = true := decide_eq_true (by omega)
      have b3 : decide (((i - 1 : Nat) : Int) < (evs.length : Int)) = true := decide_eq_true (by omega)
      have b4 : decide ((0 : Int) ≤ ((i / 2 : Nat) : Int)) = true := decide_eq_true (by omega)
      obtain rfl := hcall hm
      cases hkd : e.kind == (1 : Int) with
      | true =>
        refine .inl ⟨?_, ?_⟩
        · rw [hm]
          simp only [T_history_Answers_5, S_history_Answers_5, hkd]
          rfl
        · simp only [S_ref18_Answers_4, b0, b1, cond_true, m2, hm, Int.toNat_natCast, hge, hkd]
          rfl
      | false =>
        by_cases hown : i / 2 < own.length
        · have ho2 : own.drop (i / 2) = own.getD (i / 2) dMark :: own.drop (i / 2 + 1) := by
            rw [List.drop_eq_getElem_cons hown, List.getD_eq_getElem?_getD, List.getElem?_eq_getElem hown, Option.getD_some]
          have b5 : decide (((i / 2 : Nat) : Int) < (own.length : Int)) = true := decide_eq_true (by omega)
          have b6 : decide (((i / 2 : Nat) : Int) ≥ (own.length : Int)) = false := decide_eq_false (by omega)
          have hcallN : evs.getD (i - 1) dEvent = evs.getD (i - 1) dEvent := rfl
          generalize hgc : evs.getD (i - 1) dEvent = cl at *
          have eT : T_history_Answers_5 (c, false, own.drop (i / 2), cl, i % 2 == 1) e = bif fit c (own.getD (i / 2) dMark) cl e then some (.inl (c, false, own.drop (i / 2 + 1), cl, false)) else some (.inr false) := by
            rw [hm, ho2]
            generalize hrest : own.drop (i / 2 + 1) = rest
            have hlr : rest.length ≤ 4294967296 := by rw [← hrest, List.length_drop]; omega
            have hz : (((own.getD (i / 2) dMark :: rest).length : Int) == 0) = false := by rw [List.length_cons]; simp; omega
            have hp : decide ((0 : Int) < ((own.getD (i / 2) dMark :: rest).length : Int)) = true := decide_eq_true (by rw [List.length_cons]; omega)
            have hb1 : decide (bnd (0 : Int) (some (ofValue (Value.int IntKind.i64 (1 : Int)))) ≤ bnd ((own.getD (i / 2) dMark :: rest).length : Int) none) = true := decide_eq_true (by show (1 : Int) ≤ ((own.getD (i / 2) dMark :: rest).length : Int); rw [List.length_cons]; omega)
            have hb2 : decide (bnd ((own.getD (i / 2) dMark :: rest).length : Int) none ≤ ((own.getD (i / 2) dMark :: rest).length : Int)) = true := decide_eq_true (by show ((own.getD (i / 2) dMark :: rest).length : Int) ≤ _; omega)
            have hdr : List.drop (bnd (0 : Int) (some (ofValue (Value.int IntKind.i64 (1 : Int))))).toNat (List.take (bnd ((own.getD (i / 2) dMark :: rest).length : Int) none).toNat (own.getD (i / 2) dMark :: rest)) = rest := by
              show List.drop 1 (List.take ((own.getD (i / 2) dMark :: rest).length : Int).toNat (own.getD (i / 2) dMark :: rest)) = rest
              rw [Int.toNat_natCast, List.take_length]
              rfl
            simp only [T_history_Answers_5, S_history_Answers_5, hkd, hz, hp, hb1, hb2, hdr, C_history_answered, cond_true, cond_false]
            rw [show (own.getD (i / 2) dMark :: rest).getD (Int.toNat (0 : Int)) dMark = own.getD (i / 2) dMark from rfl, history_answered _ _ hc hev]
            cases fit c (own.getD (i / 2) dMark) cl e <;> rfl
          have eR : S_ref18_Answers_4 c own evs i = bif fit c (own.getD (i / 2) dMark) cl e then some (.inl (c, own, evs, ((i + 1 : Nat) : Int))) else some (.inr (.inr false)) := by
            simp only [S_ref18_Answers_4, b0, b1, b2, b3, b4, b5, b6, cond_true, cond_false, m2, hm, d2, p1, Int.toNat_natCast, hge, hgc, hkd, n1, C_ref01_Apply, ref01_apply, bne]
            have k1 : decide ((own.getD (i / 2) dMark).step ≤ cl.step) = !decide (cl.step < (own.getD (i / 2) dMark).step) := by
              rw [Bool.eq_iff_iff]; simp
            have k2 : decide ((own.getD (i / 2) dMark).step > e.step) = !decide ((own.getD (i / 2) dMark).step ≤ e.step) := by
              rw [Bool.eq_iff_iff]; simp
            rw [k1, k2, chain8]
            rfl
          rw [eT, eR]
          cases fit c (own.getD (i / 2) dMark) cl e with
          | false => exact .inl ⟨rfl, rfl⟩
          | true =>
            simp only [cond_true]
            have := hq (by omega) cl (fun h => by omega)
            rw [hj, hjm] at this
            exact this
        · have ho2 : own.drop (i / 2) = [] := List.drop_eq_nil_of_le (by omega)
          have b6 : decide (((i / 2 : Nat) : Int) ≥ (own.length : Int)) = true := decide_eq_true (by omega)
          refine .inl ⟨?_, ?_⟩
          · rw [hm, ho2]
            simp only [T_history_Answers_5, S_history_Answers_5, hkd]
            rfl
          · simp only [S_ref18_Answers_4, b0, b1, b2, b3, b4, b6, cond_true, cond_false, m2, hm, d2, p1, Int.toNat_natCast, hge, hkd, n1, C_ref01_Apply, ref01_apply]
            rfl

end Go.Proofs.Mill
