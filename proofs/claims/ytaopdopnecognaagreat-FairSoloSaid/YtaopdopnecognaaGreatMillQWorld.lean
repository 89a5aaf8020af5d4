/- A world, entry by entry. -/
import Derived.Test.YtaopdopnecognaaGreatMillQMOne
import Derived.Test.YtaopdopnecognaaGreatMillQApply
import Derived.Test.YtaopdopnecognaaGreatMillQStart
import Derived.Test.YtaopdopnecognaaGreatMillQFair
namespace Go.Proofs.Mill
set_option linter.all false

/-! ### What a step keeps of a turn -/
def kept (u : Turn) : Config × Int × Int × Op × Int × Int := (u.c, u.t, u.now, u.th.op, u.th.item, u.th.until_)
theorem settleT_kept (u : Turn) : kept (settleT u) = kept u := by unfold settleT; split <;> rfl
theorem startT_kept (u : Turn) : kept (startT u) = kept u := by
  unfold startT
  repeat' split
  all_goals rfl
theorem downT_kept (u : Turn) : kept (downT u) = kept u := rfl
theorem overT_kept (u : Turn) : kept (overT u) = kept u := rfl
theorem nextT_kept (u : Turn) : kept (nextT u) = kept u := rfl
theorem lookT_kept (u : Turn) (w : Int) : kept (lookT u w) = kept u := by
  unfold lookT
  repeat' split
  all_goals rfl
theorem takenT_kept (u : Turn) : kept (takenT u) = kept u := by unfold takenT; split <;> rfl
theorem joinedT_kept (u : Turn) : kept (joinedT u) = kept u := rfl
theorem onwardT_kept (u : Turn) : kept (onwardT u) = kept u := by unfold onwardT; split <;> rfl
theorem clearT_kept (u : Turn) : kept (clearT u).1 = kept u := by
  unfold clearT
  split
  · exact startT_kept _
  · rfl
theorem shareT_kept (u : Turn) : kept (shareT u).1 = kept u := by
  unfold shareT
  split
  · show kept (if _ then _ else _ : Turn) = _
    split <;> rfl
  split
  · exact settleT_kept _
  split
  · show kept (if _ then _ else _ : Turn) = _
    split
    · rfl
    · split <;> rfl
  split
  · show kept (if _ then _ else _ : Turn) = _
    split
    · rfl
    · split
      · rfl
      · exact settleT_kept _
  rfl
theorem commitS_kept (u : Turn) : kept (commitS u).1 = kept u := by
  unfold commitS
  split
  · show kept (comparedU u) = _
    unfold comparedU
    split
    · exact settleT_kept _
    · rfl
  split
  · show kept (if _ then _ else _ : Turn) = _
    split
    · exact settleT_kept _
    · split
      · exact onwardT_kept _
      · rfl
  rfl
theorem climbT_kept (u : Turn) : kept (climbT u).1 = kept u := by
  unfold climbT
  split
  · show kept (if _ then _ else _ : Turn) = _
    split
    · rfl
    · exact lookT_kept _ _
  split
  · show kept (if _ then _ else _ : Turn) = _
    split
    · rfl
    · split
      · exact takenT_kept _
      · rfl
  split
  · show kept (if _ then _ else _ : Turn) = _
    split
    · rfl
    · split <;> rfl
  rfl
theorem gatherT_kept (u : Turn) : kept (gatherT u).1 = kept u := by
  unfold gatherT
  repeat' split
  all_goals rfl
theorem collideT_kept (u : Turn) : kept (collideT u).1 = kept u := by
  unfold collideT
  split
  · rfl
  split
  · rfl
  split
  · show kept (swapT u) = _
    unfold swapT
    repeat' split
    all_goals rfl
  split
  · show kept (comparedT u u.t 21 13) = _
    unfold comparedT
    repeat' split
    all_goals rfl
  split
  · show kept (comparedT u u.th.who 22 24) = _
    unfold comparedT
    repeat' split
    all_goals rfl
  split
  · show kept (absorbT u) = _
    unfold absorbT
    split <;> rfl
  split
  · show kept (spinT u) = _
    unfold spinT
    repeat' split
    all_goals rfl
  split
  · rfl
  split
  · show kept (leaveT u) = _
    unfold leaveT
    split
    · exact onwardT_kept _
    · rfl
  rfl
theorem machineT_kept (u : Turn) : kept (machineT u) = kept u := by
  unfold machineT
  split
  · rfl
  split
  · exact clearT_kept (begT u)
  split
  · exact shareT_kept (begT u)
  split
  · exact commitS_kept (begT u)
  split
  · exact climbT_kept (begT u)
  split
  · exact gatherT_kept (begT u)
  split
  · exact collideT_kept (begT u)
  rfl
theorem kept_c {u v : Turn} (h : kept u = kept v) : u.c = v.c := congrArg (fun x => x.1) h
theorem kept_t {u v : Turn} (h : kept u = kept v) : u.t = v.t := congrArg (fun x => x.2.1) h
theorem kept_now {u v : Turn} (h : kept u = kept v) : u.now = v.now := congrArg (fun x => x.2.2.1) h
theorem kept_op {u v : Turn} (h : kept u = kept v) : u.th.op = v.th.op := congrArg (fun x => x.2.2.2.1) h
theorem kept_item {u v : Turn} (h : kept u = kept v) : u.th.item = v.th.item := congrArg (fun x => x.2.2.2.2.1) h
theorem kept_until {u v : Turn} (h : kept u = kept v) : u.th.until_ = v.th.until_ := congrArg (fun x => x.2.2.2.2.2) h

/-! ### A pick -/
/-- The number of a step. -/
def nextS (w : Wld) : Int := wrapA IntKind.i64 (w.steps + (1 : Int))
/-- A mark that is told its step. -/
def markAt (s : Int) (k : Mark) : Mark := { k with step := s }
/-- The event of an answer. -/
noncomputable def doneE (w : Wld) (t : Int) (u : Turn) : Event := ⟨2, t, u.th.item, u.th.op, u.th.x, (App u.th.op u.th.x w.c.lo w.c.hi).2, nextS w⟩
/-- The world behind a turn. -/
noncomputable def pickT (w : Wld) (t : Int) (u : Turn) : Wld :=
  { w with m := u.m, t := w.t.set t.toNat u.th, steps := nextS w, tape := u.tape, log := w.log ++ u.log.map (markAt (nextS w)), hist := if u.done = true then w.hist ++ [doneE w t u] else w.hist }

theorem pick_marks {w : Wld} {t : Int} {u : Turn} {ms : List Mark} (hl : w.log.length + ms.length ≤ 4294967296) :
    whileM F_pick_step (w, t, u, ms, (ms.length : Int), 0) = some ({ w with log := w.log ++ ms.map (markAt w.steps) }, t, u) := by
  have h0 := whileM_for (step := F_pick_step) (fun i => ({ w with log := w.log ++ (ms.take i).map (markAt w.steps) }, t, u, ms, (ms.length : Int), (i : Int))) ms.length (y := ({ w with log := w.log ++ ms.map (markAt w.steps) }, t, u)) (fun i hi => ?_) ?_
  · rw [List.take_zero, List.map_nil, List.append_nil] at h0
    exact h0
  · unfold F_pick_step
    simp only [cond_dec]
    have e2 : (ms.take i).map (markAt w.steps) ++ [{ ms.getD i dMark with step := w.steps }] = (ms.take (i + 1)).map (markAt w.steps) := by
      rw [← take_next ms dMark i hi, List.map_append]; rfl
    rw [if_pos (show (i : Int) < (ms.length : Int) by omega), if_pos (show (0 : Int) ≤ (i : Int) by omega), if_pos (show (i : Int) < (ms.length : Int) by omega), Int.toNat_natCast, few_true (by simp; omega), cond_true, List.append_assoc, e2, wrap_id (by omega) (by omega)]
    rfl
  · unfold F_pick_step
    simp only [cond_dec]
    rw [if_neg (by omega), List.take_length]

/-- A pick of a thread that is idle. -/
theorem pick_idle {w : Wld} {t : Int} (h0 : 0 ≤ t) (h1 : t < (w.t.length : Int)) (hp : (w.t.getD t.toNat dThread).phase = 0) : F_world_pick w t = some w := by
  have e : F_world_turns w t = some none := by
    unfold F_world_turns
    simp only [cond_dec, C_thread_Busy, F_thread_Busy]
    rw [if_pos h0, if_pos h1, bne_f hp]
    rfl
  unfold F_world_pick
  rw [e]

/-- A pick of a thread that is busy. -/
theorem pick_busy {w : Wld} {t : Int} {u : Turn} (h0 : 0 ≤ t) (h1 : t < (w.t.length : Int)) (hp : (w.t.getD t.toNat dThread).phase ≠ 0) (hf : FitM (turnOf w t)) (hu : machineT (turnOf w t) = u)
    (hx : u.done = true → Num u.th.x ∧ Num u.th.op.v) (hlog : w.log.length + u.log.length ≤ 4294967296) (hh : w.hist.length + 1 ≤ 4294967296) : F_world_pick w t = some (pickT w t u) := by
  have e : F_world_turns w t = some (some u) := by
    unfold F_world_turns
    simp only [cond_dec, C_thread_Busy, F_thread_Busy, C_machine_Step, machine_step hf, hu]
    rw [if_pos h0, if_pos h1, bne_t hp]
    rfl
  have e2 : F_pick_head w t u = some ({ w with m := u.m, t := w.t.set t.toNat u.th, steps := nextS w, tape := u.tape }, t, u, u.log, (u.log.length : Int), (0 : Int)) := by
    unfold F_pick_head
    simp only [cond_dec]
    rw [if_pos h0, if_pos h1]
    rfl
  have e3 := pick_marks (w := { w with m := u.m, t := w.t.set t.toNat u.th, steps := nextS w, tape := u.tape }) (t := t) (u := u) (ms := u.log) hlog
  unfold F_world_pick
  rw [e]
  simp only [e2, e3]
  unfold F_pick_tail pickT
  cases hd : u.done with
  | false => rfl
  | true =>
    obtain ⟨nx, no⟩ := hx hd
    simp only [cond_true]
    have ea : C_oper_Apply (u.th.op, u.th.x, w.c.lo, w.c.hi) = some (App u.th.op u.th.x w.c.lo w.c.hi) := oper_apply nx no hf.lo hf.hi
    rw [ea]
    simp only []
    rw [few_true (by simp; omega)]
    rfl

/-! ### An entry -/
/-- An op that is invoked. -/
noncomputable def invT (w : Wld) (e : SEntry) : Wld :=
  if (w.t.getD e.t.toNat dThread).phase ≠ 0 then { w with hist := w.hist ++ [⟨3, e.t, e.item, e.op, 0, false, w.steps⟩] }
  else { w with t := w.t.set e.t.toNat (begunT w.c e.t e.item e.op w.now (w.t.getD e.t.toNat dThread).width), hist := w.hist ++ [⟨1, e.t, e.item, e.op, 0, false, w.steps⟩] }
/-- An entry that is run. -/
noncomputable def entryM (w : Wld) (e : SEntry) : Option Wld :=
  if e.kind = 1 then (if 0 ≤ e.t ∧ e.t < (w.t.length : Int) ∧ w.hist.length + 1 ≤ 4294967296 then some (invT w e) else none)
  else if e.kind = 2 then F_world_pick w e.t
  else if e.kind = 3 then some { w with now := wrapA .i64 (w.now + 1) }
  else some w

theorem run_step {w w' w0 : Wld} {x : Int} {l : List SEntry} {i : Nat} (hc : CfgOK w.c) (hi : i < l.length) (hl : l.length ≤ 4294967296) (h : entryM w (l.getD i dSEntry) = some w') :
    T_world_Run_6 (w0, w, x, l, (l.length : Int), (i : Int)) = some (.inl (w0, w', x, l, (l.length : Int), ((i + 1 : Nat) : Int))) := by
  show S_world_Run_6 _ _ _ _ _ _ = _
  unfold S_world_Run_6
  simp only [cond_dec]
  rw [if_pos (show (i : Int) < (l.length : Int) by omega), if_pos (show (0 : Int) ≤ (i : Int) by omega), if_pos (show (i : Int) < (l.length : Int) by omega), Int.toNat_natCast]
  obtain ⟨e, he⟩ : ∃ e, e = l.getD i dSEntry := ⟨_, rfl⟩
  rw [← he] at h ⊢
  have hw : wrapA IntKind.i64 ((i : Int) + 1) = ((i + 1 : Nat) : Int) := by rw [wrap_id (by omega) (by omega)]; omega
  rw [hw]
  unfold entryM at h
  by_cases k1 : e.kind = 1
  · rw [if_pos k1] at h
    by_cases g : 0 ≤ e.t ∧ e.t < (w.t.length : Int) ∧ w.hist.length + 1 ≤ 4294967296
    · rw [if_pos g] at h
      have h := Option.some.inj h
      rw [beq_t k1, cond_true, if_pos g.1, if_pos g.2.1]
      simp only [C_thread_Busy, F_thread_Busy]
      unfold invT at h
      by_cases p : (w.t.getD e.t.toNat dThread).phase = 0
      · rw [if_neg (fun h => h p)] at h
        rw [bne_f p, cond_false]
        have hb : C_thread_Begin (w.c, e.t, w.t.getD e.t.toNat dThread, e.item, e.op, w.now) = some (begunT w.c e.t e.item e.op w.now (w.t.getD e.t.toNat dThread).width) := thread_begin hc _ _ _ _ _
        rw [hb]
        simp only []
        rw [few_true (by simp; omega), cond_true, ← h]
      · rw [if_pos p] at h
        rw [bne_t p, cond_true, few_true (by simp; omega), cond_true, ← h]
    · rw [if_neg g] at h; cases h
  · rw [if_neg k1] at h
    rw [beq_f k1, cond_false]
    by_cases k2 : e.kind = 2
    · rw [if_pos k2] at h
      rw [beq_t k2, cond_true, h]
    · rw [if_neg k2] at h
      rw [beq_f k2, cond_false]
      by_cases k3 : e.kind = 3
      · rw [if_pos k3] at h
        rw [beq_t k3, cond_true, ← Option.some.inj h]
      · rw [if_neg k3] at h
        rw [beq_f k3, cond_false, ← Option.some.inj h]

/-- Entries one after another. -/
noncomputable def entriesM : Wld → List SEntry → Option Wld
  | w, [] => some w
  | w, e :: l => match entryM w e with
    | some w => entriesM w l
    | none => none

theorem entriesM_cons {w v : Wld} {e : SEntry} {l : List SEntry} (h : entryM w e = some v) : entriesM w (e :: l) = entriesM v l := by
  show (match entryM w e with | some w => entriesM w l | none => none) = _
  rw [h]
theorem entriesM_append : ∀ {w w' : Wld} {a b : List SEntry}, entriesM w a = some w' → entriesM w (a ++ b) = entriesM w' b
  | w, w', [], b, h => by cases h; rfl
  | w, w', e :: a, b, h => by
    have h : (match entryM w e with | some w => entriesM w a | none => none) = some w' := h
    cases h1 : entryM w e with
    | none => rw [h1] at h; cases h
    | some v =>
      rw [h1] at h
      rw [List.cons_append, entriesM_cons h1]
      exact entriesM_append (w := v) h

theorem entryM_c {w w' : Wld} {e : SEntry} (h : entryM w e = some w') : w'.c = w.c := by
  unfold entryM at h
  split at h
  · split at h
    · rw [← Option.some.inj h]; unfold invT; split <;> rfl
    · cases h
  · split at h
    · unfold F_world_pick at h
      split at h
      · rename_i u hu
        split at h
        · rename_i st hst
          have e1 : st.1.c = w.c := by
            unfold F_pick_head at hst
            simp only [cond_dec] at hst
            split at hst
            · split at hst
              · rw [← Option.some.inj hst]
              · cases hst
            · cases hst
          split at h
          · rename_i st2 hst2
            have e2 : st2.1.c = w.c := by
              have := whileM_some.1 hst2
              clear hst2 hst h
              have key : ∀ {a : Wld × Int × Turn × List Mark × Int × Int} {b : Wld × Int × Turn}, Loops F_pick_step a b → a.1.c = w.c → b.1.c = w.c := by
                intro a b hl
                induction hl with
                | done a b h1 =>
                  intro ha
                  unfold F_pick_step at h1
                  simp only [cond_dec] at h1
                  split at h1
                  · split at h1
                    · split at h1
                      · cases hb : fewB (a.1.log.length + [{ a.2.2.2.1.getD a.2.2.2.2.2.toNat dMark with step := a.1.steps }].length) with
                        | true => rw [hb] at h1; cases h1
                        | false => rw [hb] at h1; cases h1
                      · cases h1
                    · cases h1
                  · have := Sum.inr.inj (Option.some.inj h1)
                    rw [← this]; exact ha
                | more a b c h1 h2 ih =>
                  intro ha
                  apply ih
                  unfold F_pick_step at h1
                  simp only [cond_dec] at h1
                  split at h1
                  · split at h1
                    · split at h1
                      · cases hb : fewB (a.1.log.length + [{ a.2.2.2.1.getD a.2.2.2.2.2.toNat dMark with step := a.1.steps }].length) with
                        | true =>
                          rw [hb] at h1
                          have := Sum.inl.inj (Option.some.inj h1)
                          rw [← this]; exact ha
                        | false => rw [hb] at h1; cases h1
                      · cases h1
                    · cases h1
                  · cases h1
              exact key this e1
            unfold F_pick_tail at h
            cases hd : st2.2.2.done with
            | false => rw [hd] at h; rw [← Option.some.inj h]; exact e2
            | true =>
              rw [hd, cond_true] at h
              split at h
              · rename_i y1 hy
                cases hb : fewB (st2.1.hist.length + [(⟨(2 : Int), st2.2.1, st2.2.2.th.item, st2.2.2.th.op, st2.2.2.th.x, y1.snd, st2.1.steps⟩ : Event)].length) with
                | true => rw [hb] at h; rw [← Option.some.inj h]; exact e2
                | false => rw [hb] at h; cases h
              · cases h
          · cases h
        · cases h
      · rw [← Option.some.inj h]
      · cases h
    · split at h
      · rw [← Option.some.inj h]
      · rw [← Option.some.inj h]

theorem run_loop {w0 : Wld} {x : Int} {l : List SEntry} (hl : l.length ≤ 4294967296) : ∀ (k i : Nat) (w w' : Wld), CfgOK w.c → i + k = l.length → entriesM w (l.drop i) = some w' → W_world_Run_6 (w0, w, x, l, (l.length : Int), (i : Int)) = some (w0, w', x)
  | 0, i, w, w', hc, hk, h => by
    rw [List.drop_of_length_le (by omega)] at h
    have h := Option.some.inj h
    subst h
    refine whileM_some.2 (.done _ _ ?_)
    show S_world_Run_6 _ _ _ _ _ _ = _
    unfold S_world_Run_6
    simp only [cond_dec]
    rw [if_neg (by omega)]
  | k + 1, i, w, w', hc, hk, h => by
    have hi : i < l.length := by omega
    rw [List.drop_eq_getElem_cons hi] at h
    unfold entriesM at h
    cases h1 : entryM w l[i] with
    | none => rw [h1] at h; cases h
    | some v =>
      rw [h1] at h
      have e : l.getD i dSEntry = l[i] := by rw [List.getD_eq_getElem?_getD, List.getElem?_eq_getElem hi]; rfl
      rw [← e] at h1
      have hs := run_step (w0 := w0) (x := x) hc hi hl h1
      have := run_loop (w0 := w0) (x := x) hl k (i + 1) v w' (by rw [entryM_c h1]; exact hc) (by omega) h
      exact whileM_some.2 (.more _ _ _ hs (whileM_some.1 this))

/-! ### A new world -/
def newT : Thread := ⟨0, 0, ⟨0, 0⟩, [], [], [], 0, 0, 0, 0, 0, 1, 0, 0, 0, 0⟩
def newW (c : Config) (d : List Int) : Wld := ⟨c, builtM c, List.replicate c.threads.toNat newT, 0, 0, ⟨d, 0⟩, [], []⟩

/-! The config. -/
abbrev tab (c : Config) : Int × Int × Int × Int × Int × Int × Int × Int × Int × Int × Int × Int × Int × Int × Int × Int × Int × Int × Int × Int × Int × Int × Int × Int :=
  (c.threads, 1, 16, c.items, 1, 4, c.backend, 1, 3, c.depth, 0, 4, c.layers, 0, 3, c.width, 1, 8, c.spin, 0, 20, c.wait, 0, 1000)
theorem check_round {c : Config} {j j' v lo hi e : Int} (r : T_config_Check_2 (c, tab c, j) = bif decide (v < lo) then some (.inr (.inr e)) else bif decide (v > hi) then some (.inr (.inr e)) else some (.inl (c, tab c, j'))) :
    W_config_Check_2 (c, tab c, j) = if v < lo ∨ v > hi then some (.inr e) else W_config_Check_2 (c, tab c, j') := by
  have h := whileM_eq T_config_Check_2 (c, tab c, j)
  rw [r] at h
  unfold W_config_Check_2
  by_cases a : v < lo
  · rw [decide_eq_true a] at h
    rw [h, if_pos (.inl a)]
    rfl
  · by_cases b : v > hi
    · rw [decide_eq_false a, decide_eq_true b] at h
      rw [h, if_pos (.inr b)]
      rfl
    · rw [decide_eq_false a, decide_eq_false b] at h
      rw [h, if_neg (fun h => h.elim a b)]
      rfl

theorem config_check (c : Config) : F_config_Check c = F_ref05_Check c := by
  unfold F_ref05_Check
  simp only [cond_dec]
  have hF : F_config_Check c = (match W_config_Check_2 (c, tab c, 0) with
    | some (.inl y1) => bif y1.bounded then bif decide (y1.init < y1.lo) then some 58 else bif decide (y1.hi < y1.init) then some 58 else some 0 else some 0
    | some (.inr y2) => some y2
    | none => none : Option Int) := rfl
  have h8 : W_config_Check_2 (c, tab c, 8) = some (.inl c) := by
    unfold W_config_Check_2
    rw [whileM_eq]
    rfl
  rw [hF, check_round (c := c) (j := 0) (j' := 1) (v := c.threads) (lo := 1) (hi := 16) (e := 50) (by show _ = _; kernel_rfl), check_round (c := c) (j := 1) (j' := 2) (v := c.items) (lo := 1) (hi := 4) (e := 51) (by show _ = _; kernel_rfl),
    check_round (c := c) (j := 2) (j' := 3) (v := c.backend) (lo := 1) (hi := 3) (e := 52) (by show _ = _; kernel_rfl), check_round (c := c) (j := 3) (j' := 4) (v := c.depth) (lo := 0) (hi := 4) (e := 53) (by show _ = _; kernel_rfl),
    check_round (c := c) (j := 4) (j' := 5) (v := c.layers) (lo := 0) (hi := 3) (e := 54) (by show _ = _; kernel_rfl), check_round (c := c) (j := 5) (j' := 6) (v := c.width) (lo := 1) (hi := 8) (e := 55) (by show _ = _; kernel_rfl),
    check_round (c := c) (j := 6) (j' := 7) (v := c.spin) (lo := 0) (hi := 20) (e := 56) (by show _ = _; kernel_rfl), check_round (c := c) (j := 7) (j' := 8) (v := c.wait) (lo := 0) (hi := 1000) (e := 57) (by show _ = _; kernel_rfl), h8]
  by_cases a0 : c.threads < 1
  · rw [if_pos (.inl a0), if_pos a0]
  by_cases b0 : c.threads > 16
  · rw [if_pos (.inr b0), if_neg a0, if_pos b0]
  rw [if_neg (fun h => h.elim a0 b0), if_neg a0, if_neg b0]
  by_cases a1 : c.items < 1
  · rw [if_pos (.inl a1), if_pos a1]
  by_cases b1 : c.items > 4
  · rw [if_pos (.inr b1), if_neg a1, if_pos b1]
  rw [if_neg (fun h => h.elim a1 b1), if_neg a1, if_neg b1]
  by_cases a2 : c.backend < 1
  · rw [if_pos (.inl a2), if_pos a2]
  by_cases b2 : c.backend > 3
  · rw [if_pos (.inr b2), if_neg a2, if_pos b2]
  rw [if_neg (fun h => h.elim a2 b2), if_neg a2, if_neg b2]
  by_cases a3 : c.depth < 0
  · rw [if_pos (.inl a3), if_pos a3]
  by_cases b3 : c.depth > 4
  · rw [if_pos (.inr b3), if_neg a3, if_pos b3]
  rw [if_neg (fun h => h.elim a3 b3), if_neg a3, if_neg b3]
  by_cases a4 : c.layers < 0
  · rw [if_pos (.inl a4), if_pos a4]
  by_cases b4 : c.layers > 3
  · rw [if_pos (.inr b4), if_neg a4, if_pos b4]
  rw [if_neg (fun h => h.elim a4 b4), if_neg a4, if_neg b4]
  by_cases a5 : c.width < 1
  · rw [if_pos (.inl a5), if_pos a5]
  by_cases b5 : c.width > 8
  · rw [if_pos (.inr b5), if_neg a5, if_pos b5]
  rw [if_neg (fun h => h.elim a5 b5), if_neg a5, if_neg b5]
  by_cases a6 : c.spin < 0
  · rw [if_pos (.inl a6), if_pos a6]
  by_cases b6 : c.spin > 20
  · rw [if_pos (.inr b6), if_neg a6, if_pos b6]
  rw [if_neg (fun h => h.elim a6 b6), if_neg a6, if_neg b6]
  by_cases a7 : c.wait < 0
  · rw [if_pos (.inl a7), if_pos a7]
  by_cases b7 : c.wait > 1000
  · rw [if_pos (.inr b7), if_neg a7, if_pos b7]
  rw [if_neg (fun h => h.elim a7 b7), if_neg a7, if_neg b7]
  simp only
  cases hb : c.bounded with
  | false => rfl
  | true =>
    simp only [cond_true]
    by_cases k1 : c.init < c.lo
    · rw [decide_eq_true k1, if_pos k1]; rfl
    rw [decide_eq_false k1, if_neg k1]
    by_cases k2 : c.hi < c.init
    · rw [decide_eq_true k2, if_pos k2]; rfl
    rw [decide_eq_false k2, if_neg k2]
    rfl

theorem mul_all : ((List.range 17).all fun (k : Nat) => decide (C_math_bits_Mul (IntKind.u64.wrap (1 : Int), IntKind.u64.wrap (k : Int)) = some (0, (k : Int)))) = true := by kernel_rfl
theorem repeat_one {n : Int} (y : Thread) (h0 : 1 ≤ n) (h1 : n ≤ 16) : F_slices_Repeat_thread_Thread [y] n = some (List.replicate n.toNat y) := by
  have hm : ∀ k : Nat, k ≤ 16 → C_math_bits_Mul (IntKind.u64.wrap (1 : Int), IntKind.u64.wrap (k : Int)) = some (0, (k : Int)) := by
    intro k hk
    have key := mul_all
    rw [List.all_eq_true] at key
    have := key k (by simp; omega)
    simpa using this
  obtain ⟨k, hk⟩ : ∃ k : Nat, n = (k : Int) := ⟨n.toNat, by omega⟩
  subst hk
  unfold F_slices_Repeat_thread_Thread
  simp only [cond_dec, hm k (by omega)]
  have hw : IntKind.i64.wrap (k : Int) = (k : Int) := by rw [← wrapA_eq, wrap_id (by omega) (by omega)]
  rw [if_neg (by omega), if_neg (by omega), if_neg (by omega), hw, if_pos (by omega), if_pos (by unfold maxElems; omega)]

theorem world_new {c : Config} (h : CfgOK c) {d : List Int} (hd : d.length ≤ 4294967296) : F_world_New c d = some (newW c d, 0) := by
  obtain ⟨e, he, hE⟩ := check_some c
  have he0 := hE.2 h
  subst he0
  have e1 : C_config_Check c = some 0 := (config_check c).trans he
  have e2 : C_arena_Build c = some (builtM c) := arena_build h
  have e3 : C_thread_New () = some newT := rfl
  have e4 : C_slices_Repeat_thread_Thread ([newT], c.threads) = some (List.replicate c.threads.toNat newT) := repeat_one newT h.threads.1 h.threads.2
  have e5 : C_slices_Clone_int d = some d := by
    show F_slices_Clone_int d = _
    unfold F_slices_Clone_int
    rw [few_true (by omega)]
    rfl
  unfold F_world_New
  simp only [e1, e2, e3, e4, e5, bne_self_eq_false, cond_false]
  rfl
end Go.Proofs.Mill
