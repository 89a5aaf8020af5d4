/- The plain law of HistoryRefused. -/
import Derived.Test.YtcokmmhkajmkhaaMillPHistory3
set_option linter.all false
namespace Go.Proofs.Mill

theorem evts_more {h : List Event} {t : Int} {m : Event} (k : Nat) (hm : (m.t == t && m.kind != 3) = false) : evts (h.take k ++ m :: [] ++ h.drop k) t = evts h t := by
  unfold evts
  rw [List.filter_append, List.filter_append, List.filter_cons_of_neg (by rw [hm]; exact Bool.false_ne_true), List.filter_nil, List.append_nil, ← List.filter_append, List.take_append_drop]

theorem refused_core {c : Config} {l : List Mark} {h : List Event} {t : Int} {m : Event} {k : Int} (hc : ConfOK c) (hl : l.length ≤ 100) (hh : h.length ≤ 100) (he : ∀ e ∈ h, EventOK e) (hme : EventOK m) (hm : (m.t == t && m.kind != 3) = false) (k0 : 0 ≤ k) (k1 : k ≤ h.length) :
    (bif decide ((0 : Int) ≤ k) then
      bif decide (k ≤ (h.length : Int)) then
       bif fewB ((0 : Nat) + (List.drop (Int.toNat (0 : Int)) (List.take k.toNat h)).length) then
        bif fewB ((List.drop (Int.toNat (0 : Int)) (List.take k.toNat h)).length + (m :: ([] : List Event)).length) then
         bif decide ((0 : Int) ≤ k) then
          bif decide (k ≤ (h.length : Int)) then
           bif decide ((h.length : Int) ≤ (h.length : Int)) then
            bif fewB ((List.drop (Int.toNat (0 : Int)) (List.take k.toNat h) ++ m :: ([] : List Event)).length + (List.drop k.toNat (List.take (h.length : Int).toNat h)).length) then
             match C_history_Pending (h, t) with
             | some y2 =>
              match C_history_Pending (List.drop (Int.toNat (0 : Int)) (List.take k.toNat h) ++ m :: ([] : List Event) ++ List.drop k.toNat (List.take (h.length : Int).toNat h), t) with
              | some y3 =>
               match C_history_Answers (c, l, h, t) with
               | some y4 =>
                match C_history_Answers (c, l, List.drop (Int.toNat (0 : Int)) (List.take k.toNat h) ++ m :: ([] : List Event) ++ List.drop k.toNat (List.take (h.length : Int).toNat h), t) with
                | some y5 =>
                 bif y4 == y5 then
                  bif y2.fst.kind == y3.fst.kind && (y2.fst.t == y3.fst.t && (y2.fst.item == y3.fst.item && (y2.fst.op.tag == y3.fst.op.tag && (y2.fst.op.v == y3.fst.op.v && true) && (y2.fst.prior == y3.fst.prior && (y2.fst.did == y3.fst.did && (y2.fst.step == y3.fst.step && true)))))) then
                   some (y2.snd == y3.snd)
                  else
                   some (false)
                 else
                  some (false)
                | none => none
               | none => none
              | none => none
             | none => none
            else none
           else none
          else none
         else none
        else none
       else none
      else none
     else none : Option Bool) = some true := by
  have e1 : List.drop (Int.toNat (0 : Int)) (List.take k.toNat h) = h.take k.toNat := rfl
  have e2 : List.drop k.toNat (List.take (h.length : Int).toNat h) = h.drop k.toNat := by rw [Int.toNat_natCast, List.take_length]
  have l1 : (h.take k.toNat).length ≤ 100 := by rw [List.length_take]; omega
  have l2 : (h.drop k.toNat).length ≤ 100 := by rw [List.length_drop]; omega
  have l3 : (h.take k.toNat ++ m :: []).length ≤ 101 := by rw [List.length_append, List.length_cons, List.length_nil]; omega
  have l4 : (h.take k.toNat ++ m :: [] ++ h.drop k.toNat).length ≤ 201 := by rw [List.length_append]; omega
  have hev : ∀ e ∈ h.take k.toNat ++ m :: [] ++ h.drop k.toNat, EventOK e := by
    intro e hx
    rcases List.mem_append.1 hx with hx | hx
    · rcases List.mem_append.1 hx with hx | hx
      · exact he e (List.mem_of_mem_take hx)
      · rw [List.mem_singleton.1 hx]; exact hme
    · exact he e (List.mem_of_mem_drop hx)
  obtain ⟨b, b1, b2⟩ := answers_both (c := c) (l := l) (h := h) t hc he (by omega) (by omega)
  obtain ⟨d, d1, d2⟩ := answers_both (c := c) (l := l) (h := h.take k.toNat ++ m :: [] ++ h.drop k.toNat) t hc hev (by omega) (by omega)
  have hbd : b = d := by
    simp only [F_ref18_Answers, C_ref18_own, ref18_own l t (by omega), C_ref18_events, ref18_events h t (by omega)] at b2
    simp only [F_ref18_Answers, C_ref18_own, ref18_own l t (by omega), C_ref18_events, ref18_events (h.take k.toNat ++ m :: [] ++ h.drop k.toNat) t (by omega), evts_more k.toNat hm] at d2
    rw [b2] at d2
    exact Option.some.inj d2
  rw [e1, e2, decide_eq_true k0, decide_eq_true k1, decide_eq_true (Int.le_refl _), few_true (by omega), few_true (by rw [List.length_cons, List.length_nil]; omega), few_true (by omega)]
  simp only [cond_true, C_history_Pending, history_pending (l := h) t (by omega), history_pending (l := h.take k.toNat ++ m :: [] ++ h.drop k.toNat) t (by omega), evts_more k.toNat hm, C_history_Answers, b1, d1, hbd, beq_self_eq_true, Bool.and_self]

theorem wrap_byte {x : Int} (h : (valInt .u8).Ok x) : IntKind.i64.wrap x = x ∧ 0 ≤ x ∧ x ≤ 255 := by
  have h : (Lit.int .u8 x).wf = true := h
  simp [Lit.wf, IntKind.has, IntKind.min, IntKind.max, IntKind.signed, IntKind.bits] at h
  refine ⟨?_, by omega, by omega⟩
  simp [IntKind.wrap, IntKind.signed, IntKind.bits]
  omega

theorem event_st {e : Event} (o : (valSt celEvent).Ok e) : EventOK e := by
  have h1 : ∀ x : Int, AV.int .i64 x ∈ celEvent.enc e → Num x := fun x hx => lit_ok (o _ hx)
  refine ⟨h1 _ ?_, h1 _ ?_⟩ <;> simp [celEvent, celAs, celApp, celInt, celBool, celOp]

theorem pure_HistoryRefused (c : Config) (l : List Mark) (h : List Event) (t : Int) (m : Event) (at_ : Int) (o0 : (valSt celConfig).Ok c) (o1 : (valLst .mark).Ok l) (o2 : (valLst .event).Ok h) (o3 : (valInt .i64).Ok t) (o4 : (valSt celEvent).Ok m) (o5 : (valInt .u8).Ok at_) :
    F_law18_HistoryRefused c l h t m at_ = some true := by
  unfold F_law18_HistoryRefused
  rw [show C_law18_shown () = some true from law18_shown]
  simp only [Bool.not_true, cond_false]
  by_cases h1 : (l.length : Int) > 100
  · rw [decide_eq_true h1]; rfl
  rw [decide_eq_false h1]
  simp only [cond_false]
  by_cases h2 : (h.length : Int) > 100
  · rw [decide_eq_true h2]; rfl
  rw [decide_eq_false h2]
  simp only [cond_false]
  obtain ⟨w1, w2, w3⟩ := wrap_byte o5
  have w : wrapA .i64 ((h.length : Int) + 1) = (h.length : Int) + 1 := wrap_id (by omega) (by omega)
  rw [w1, w, show decide ((h.length : Int) + 1 = 0) = false from decide_eq_false (by omega), Int.tmod_eq_emod_of_nonneg w2]
  simp only [cond_false]
  have k0 := Int.emod_nonneg at_ (b := (h.length : Int) + 1) (by omega)
  have k1 := Int.emod_lt_of_pos at_ (b := (h.length : Int) + 1) (by omega)
  cases hmt : m.t == t with
  | true => exact refused_core (conf_ok o0) (by omega) (by omega) (events_ok o2) (m := { m with kind := 3 }) ⟨(event_st o4).1, (event_st o4).2⟩ (by rw [show (({ m with kind := 3 } : Event).kind != 3) = false from rfl, Bool.and_false]) k0 (by omega)
  | false => exact refused_core (conf_ok o0) (by omega) (by omega) (events_ok o2) (event_st o4) (by rw [hmt, Bool.false_and]) k0 (by omega)

end Go.Proofs.Mill
