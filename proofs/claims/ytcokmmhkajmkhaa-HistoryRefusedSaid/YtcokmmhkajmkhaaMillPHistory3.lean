/- Whether a history is answered; the worlds as the references have them. -/
import Derived.Test.YtcokmmhkajmkhaaMillPHistory2
import Derived.KernelRfl
set_option linter.all false
namespace Go.Proofs.Mill

theorem evts_le (l : List Event) (k : Int) : (evts l k).length ≤ l.length := List.length_filter_le _ _

theorem chain3 {a b c d : Bool} : (bif a && (b && true) && (c && true) then some d else some false : Option Bool) = bif a && (b && true) then bif c then some d else some false else some false := by
  cases a <;> cases b <;> cases c <;> rfl

theorem answers_both {c : Config} {l : List Mark} {h : List Event} (k : Int) (hc : ConfOK c) (he : ∀ e ∈ h, EventOK e) (hl : l.length ≤ 4294967296) (hh : h.length ≤ 4294967296) :
    ∃ b, F_history_Answers c l h k = some b ∧ F_ref18_Answers c l h k = some b := by
  have le1 := evts_le h k
  have le2 := List.length_filter_le (fun m : Mark => m.t == k) l
  have hr := answers_rounds (c := c) (own := l.filter fun m => m.t == k) (evs := evts h k) hc (fun e he' => he e (List.mem_filter.1 he').1) (by omega) (by omega) (evts h k).length 0 (by omega) (by omega) noEvent (fun h => by omega)
  simp only [List.drop_zero, Nat.zero_div, Nat.zero_mod] at hr
  have hW : ∀ r, foldX T_history_Answers_5 (evts h k) (c, false, l.filter (fun m => m.t == k), noEvent, false) = r → W_history_Answers_5 ((h, k), c, false, l.filter (fun m => m.t == k), Event.mk (0 : Int) (0 : Int) (0 : Int) (Op.mk (0 : Int) (0 : Int)) (0 : Int) false (0 : Int), false) = r :=
    fun r hr => fold2_eq (it := itEvents) (few_true hh) hr
  rcases hr with ⟨h1, h2⟩ | ⟨call, h1, h2, h3, h4⟩
  · have h2 : W_ref18_Answers_4 (c, l.filter (fun m => m.t == k), evts h k, 0) = some (.inr false) := h2
    refine ⟨false, ?_, ?_⟩
    · simp only [F_history_Answers, C_slices_Collect_thread_Mark, collect_own l k hl, hW _ h1]
    · simp only [F_ref18_Answers, C_ref18_own, ref18_own l k hl, C_ref18_events, ref18_events h k hh, h2]
  · have h4 : W_ref18_Answers_4 (c, l.filter (fun m => m.t == k), evts h k, 0) = some (.inl (l.filter (fun m => m.t == k), evts h k)) := h4
    simp only [F_history_Answers, C_slices_Collect_thread_Mark, collect_own l k hl, hW _ h1, F_ref18_Answers, C_ref18_own, ref18_own l k hl, C_ref18_events, ref18_events h k hh, h4, C_history_of, F_history_of]
    generalize l.filter (fun m => m.t == k) = own at *
    generalize evts h k = evs at *
    have d2 : wrapA .i64 ((evs.length : Int).tdiv 2) = ((evs.length / 2 : Nat) : Int) := by rw [Int.tdiv_eq_ediv_of_nonneg (by omega), wrap_id (by omega) (by omega)]; omega
    have n1 : wrapA .i64 (((evs.length / 2 : Nat) : Int) + 1) = ((evs.length / 2 + 1 : Nat) : Int) := by rw [wrap_id (by omega) (by omega)]; omega
    have m2 : (evs.length : Int).tmod 2 = ((evs.length % 2 : Nat) : Int) := by rw [Int.tmod_eq_emod_of_nonneg (by omega)]; omega
    simp only [d2, n1, m2]
    generalize hq : evs.length / 2 = q at *
    by_cases a : own.length = q
    · have e1 : (((own.drop q).length : Int) == 0) = true := by rw [List.length_drop, a, Nat.sub_self]; rfl
      have e2 : ((own.length : Int) == (q : Int)) = true := by rw [a]; exact beq_self_eq_true _
      exact ⟨true, by rw [e1]; rfl, by rw [e2]; rfl⟩
    have e1 : (((own.drop q).length : Int) == 0) = false := beq_eq_false_iff_ne.2 (by rw [List.length_drop]; omega)
    have e2 : ((own.length : Int) == (q : Int)) = false := beq_eq_false_iff_ne.2 (by omega)
    rw [e1, e2]
    simp only [cond_false]
    by_cases a2 : own.length = q + 1
    · have e3 : decide (((own.drop q).length : Int) > 1) = false := decide_eq_false (by rw [List.length_drop]; omega)
      have e4 : ((own.length : Int) != ((q + 1 : Nat) : Int)) = false := by rw [a2, bne_self_eq_false]
      rw [e3, e4]
      simp only [cond_false]
      rcases Nat.mod_two_eq_zero_or_one evs.length with hm | hm
      · refine ⟨false, ?_, ?_⟩
        · rw [hm]; rfl
        · rw [hm]; rfl
      · have hcl := h2 hm
        subst hcl
        have w : wrapA .i64 ((evs.length : Int) - 1) = ((evs.length - 1 : Nat) : Int) := by rw [wrap_id (by omega) (by omega)]; omega
        have b0 : decide ((0 : Int) ≤ ((evs.length - 1 : Nat) : Int)) = true := decide_eq_true (by omega)
        have b1 : decide (((evs.length - 1 : Nat) : Int) < (evs.length : Int)) = true := decide_eq_true (by omega)
        have b2 : decide ((0 : Int) ≤ (q : Int)) = true := decide_eq_true (by omega)
        have b3 : decide ((q : Int) < (own.length : Int)) = true := decide_eq_true (by omega)
        have b4 : decide ((0 : Int) < ((own.drop q).length : Int)) = true := decide_eq_true (by rw [List.length_drop]; omega)
        have hd : (own.drop q).getD (Int.toNat (0 : Int)) dMark = own.getD q dMark := by
          rw [List.getD_eq_getElem?_getD, List.getD_eq_getElem?_getD, List.getElem?_drop]
          rfl
        simp only [hm, w, b0, b1, b2, b3, b4, hd, Int.toNat_natCast, cond_true]
        rw [show (!((1 : Nat) == 1)) = false from rfl, show ((((1 : Nat) : Int)) == 0) = false from rfl]
        simp only [cond_false]
        rw [chain3]
        have e5 : decide ((own.getD q dMark).step > (evs.getD (evs.length - 1) dEvent).step) = decide ((evs.getD (evs.length - 1) dEvent).step < (own.getD q dMark).step) := rfl
        rw [e5]
        cases ((own.getD q dMark).op.tag == (evs.getD (evs.length - 1) dEvent).op.tag && ((own.getD q dMark).op.v == (evs.getD (evs.length - 1) dEvent).op.v && true)) with
        | false => exact ⟨false, rfl, rfl⟩
        | true =>
          simp only [cond_true]
          cases ((own.getD q dMark).item == (evs.getD (evs.length - 1) dEvent).item) with
          | false => exact ⟨false, rfl, rfl⟩
          | true => exact ⟨_, rfl, rfl⟩
    · have e3 : decide (((own.drop q).length : Int) > 1) = true := decide_eq_true (by rw [List.length_drop]; omega)
      have e4 : ((own.length : Int) != ((q + 1 : Nat) : Int)) = true := by rw [bne_iff_ne]; omega
      rw [e3, e4]
      exact ⟨false, rfl, rfl⟩

/-! The worlds. -/
structure WSm (w : Wld) : Prop where
  boxes : w.m.boxes.length ≤ 4294967296
  box : ∀ b ∈ w.m.boxes, b.length ≤ 4294967296
  t : w.t.length ≤ 4294967296
  batch : ∀ t ∈ w.t, t.batch.length ≤ 4294967296
  kids : ∀ t ∈ w.t, t.kids.length ≤ 4294967296
  log : w.log.length ≤ 4294967296
  hist : w.hist.length ≤ 4294967296

theorem law18_theirs {w : Wld} (h : WSm w) : F_law18_theirs w = some w := by
  have h3 : ∀ z : Wld, W_law18_theirs_3 (w, z, { w with t := [], hist := [] }, 0) = some (w, z, { w with hist := [] }) := by
    intro z
    refine whileM_for (fun i => (w, z, { w with t := w.t.take i, hist := [] }, (i : Int))) w.t.length (fun i hi => ?_) ?_
    · have h1 : (i : Int) < (w.t.length : Int) := by omega
      have ht := h.t
      have h2 : fewB (i + 1) = true := few_true (by omega)
      have h3 : min i w.t.length = i := by omega
      have hm : w.t.getD i dThread ∈ w.t := by
        rw [List.getD_eq_getElem?_getD, List.getElem?_eq_getElem hi, Option.getD_some]
        exact List.getElem_mem hi
      simp only [T_law18_theirs_3, S_law18_theirs_3, C_law18_fiber, cond_dec, if_pos h1, if_pos (Int.natCast_nonneg i), List.length_take, List.length_cons, List.length_nil, h3, Int.toNat_natCast, law18_fiber _ (h.kids _ hm) (h.batch _ hm), h2, cond_true]
      rw [take_next w.t _ i hi, wrap_id (by omega) (by omega)]
      rfl
    · simp [T_law18_theirs_3, S_law18_theirs_3]
  have h7 : ∀ z : Wld, W_law18_theirs_7 (w, z, { w with hist := [] }, 0) = some (z, w) := by
    intro z
    refine whileM_for (fun i => (w, z, { w with hist := w.hist.take i }, (i : Int))) w.hist.length (fun i hi => ?_) ?_
    · have h1 : (i : Int) < (w.hist.length : Int) := by omega
      have ht := h.hist
      have h2 : fewB (i + 1) = true := few_true (by omega)
      have h3 : min i w.hist.length = i := by omega
      simp only [T_law18_theirs_7, S_law18_theirs_7, cond_dec, if_pos h1, if_pos (Int.natCast_nonneg i), List.length_take, List.length_cons, List.length_nil, h3, Int.toNat_natCast, h2, cond_true]
      rw [take_next w.hist _ i hi, wrap_id (by omega) (by omega)]
      rfl
    · simp [T_law18_theirs_7, S_law18_theirs_7]
  simp only [F_law18_theirs, C_law18_memory, law18_memory _ h.boxes h.box, C_law18_marks, law18_marks _ h.log]
  have := h3 (Wld.mk (Config.mk (0 : Int) (0 : Int) (0 : Int) (0 : Int) (0 : Int) (0 : Int) (0 : Int) (0 : Int) false (0 : Int) (0 : Int) (0 : Int)) (Memo.mk ([] : List Int) ([] : List (List Entry))) ([] : List Thread) (0 : Int) (0 : Int) (Tape.mk ([] : List Int) (0 : Int)) ([] : List Mark) ([] : List Event))
  obtain ⟨c, m, t, now, steps, tape, log, hist⟩ := w
  simp only at this h7 ⊢
  rw [this]
  simp only
  rw [h7]

/-! What is shown. -/
theorem law18_shown : F_law18_shown = some true := by
  unfold F_law18_shown
  rw [show C_history_Counts (Event.mk (1 : Int) (1 : Int) (0 : Int) (Op.mk (1 : Int) (3 : Int)) (0 : Int) false (0 : Int) :: Event.mk (1 : Int) (0 : Int) (0 : Int) (Op.mk (1 : Int) (4 : Int)) (0 : Int) false (0 : Int) :: Event.mk (2 : Int) (1 : Int) (0 : Int) (Op.mk (1 : Int) (3 : Int)) (5 : Int) true (3 : Int) :: ([] : List Event)) = some (2, 1, 0) from
    (history_counts (by decide)).trans (by kernel_rfl)]
  show _ = _
  kernel_rfl

end Go.Proofs.Mill
