/- The plain law of MachineCell. -/
import Derived.Test.YtecgogmolkjhjaaGreatMillPStart
namespace Go.Proofs.Mill
set_option linter.all false

theorem bl1 {u : Turn} (p : u.th.phase = 1) (hb : u.c.backend = 1) : machineT u = { setW (begT u) (lineAt u.c u.t) 0 with th := { u.th with phase := 2 } } := by
  unfold machineT
  rw [if_neg (by omega), if_pos (by unfold clearT; rw [if_pos (show (begT u).th.phase = 1 from p)])]
  unfold clearT
  rw [if_pos (show (begT u).th.phase = 1 from p)]
  simp only
  unfold startT
  rw [if_neg (show ¬ ((setW (begT u) (lineAt (begT u).c (begT u).t) 0).c.backend = 2 ∧ (setW (begT u) (lineAt (begT u).c (begT u).t) 0).c.depth > 0) from fun h => by have h1 : u.c.backend = 2 := h.1; omega),
    if_neg (show ¬ ((setW (begT u) (lineAt (begT u).c (begT u).t) 0).c.backend = 3 ∧ (setW (begT u) (lineAt (begT u).c (begT u).t) 0).c.layers > 0) from fun h => by have h1 : u.c.backend = 3 := h.1; omega)]
  rfl

theorem commit_phase {u : Turn} (p : u.th.phase = 2 ∨ u.th.phase = 3 ∨ u.th.phase = 25) : machineT u = (commitS (begT u)).1 := by
  unfold machineT
  have c1 : ¬ (clearT (begT u)).2 = true := by
    unfold clearT
    rw [if_neg (show ¬ (begT u).th.phase = 1 from fun h => by have h : u.th.phase = 1 := h; omega)]
    simp
  have c2 : ¬ (shareT (begT u)).2 = true := by
    have e : (begT u).th.phase = u.th.phase := rfl
    unfold shareT
    rw [e, if_neg (by omega), if_neg (by omega), if_neg (by omega), if_neg (by omega)]
    simp
  have c3 : (commitS (begT u)).2 = true := by
    have e : (begT u).th.phase = u.th.phase := rfl
    unfold commitS
    rw [e]
    by_cases p3 : u.th.phase = 3
    · rw [if_pos p3]
    · rw [if_neg p3, if_pos (by omega)]
  rw [if_neg (by omega), if_neg c1, if_neg c2, if_pos c3]

theorem getD_set_ne' {l : List Int} {i j : Nat} {a : Int} (h : i ≠ j) : (l.set i a).getD j 0 = l.getD j 0 := by
  rw [List.getD_eq_getElem?_getD, List.getD_eq_getElem?_getD, List.getElem?_set_ne h]

/-- A commit of one op alone. -/
theorem commitT_alone {u : Turn} {x : Int} (hk : u.th.kids = []) (hl : u.log = []) (hb : u.th.batch.length = 1) : (commitT u x).done = true ∧ (commitT u x).log.length = 1 ∧ (commitT u x).th.held = u.th.held ∧ (commitT u x).th.kids = [] ∧ (commitT u x).th.layer = u.th.layer := by
  unfold commitT settleT
  rw [if_pos (show ({ u with th := { u.th with at_ := 0, x := x }, log := u.log ++ marksT u x } : Turn).th.at_ < 0 ∨ ({ u with th := { u.th with at_ := 0, x := x }, log := u.log ++ marksT u x } : Turn).th.at_ ≥ (({ u with th := { u.th with at_ := 0, x := x }, log := u.log ++ marksT u x } : Turn).th.kids.length : Int) from .inr (by
    show (0 : Int) ≥ (u.th.kids.length : Int)
    rw [hk]; simp))]
  refine ⟨rfl, ?_, rfl, hk, rfl⟩
  show (u.log ++ marksT u x).length = 1
  rw [hl, List.nil_append, marksT_length, hb]

theorem pure_MachineCell (c0 : Config) (x1 x2 : Int) (op : Op) (o0 : (valSt celConfig).Ok c0) (o1 : (valInt .u8).Ok x1) (o2 : (valInt .u8).Ok x2) (o3 : (valSt celOp).Ok op) : F_law16_MachineCell c0 x1 x2 op = some true := by
  obtain ⟨c, hc⟩ : ∃ c : Config, c = { c0 with backend := (1 : Int) } := ⟨_, rfl⟩
  obtain ⟨e, he, hE⟩ := check_some c
  unfold F_law16_MachineCell
  rw [← hc]
  simp only [C_ref05_Check, he, C_law16_shown, law16_shown]
  by_cases e0 : e ≠ 0
  · rw [bne_t e0]; rfl
  have e0 : e = 0 := Classical.not_not.1 e0
  rw [bne_f e0]
  have hC := hE.1 e0
  have ht := hC.threads
  have hi := hC.items
  have et : c0.threads = c.threads := by rw [hc]
  have ei : c0.items = c.items := by rw [hc]
  have en : c0.init = c.init ∧ c0.lo = c.lo ∧ c0.hi = c.hi := by rw [hc]; exact ⟨rfl, rfl, rfl⟩
  obtain ⟨n1, n2, n3⟩ := conf_nums o0
  rw [en.1] at n1; rw [en.2.1] at n2; rw [en.2.2] at n3
  have hop := op_num o3
  have u1 := u8_num o1
  have u2 := u8_num o2
  have k1 := tmod_in (a := x1) (b := c.threads) u1.1 ht.1
  have k2 := tmod_in (a := x2) (b := c.items) u2.1 hi.1
  simp only [Bool.not_true, cond_false, cond_dec, et, ei, en, C_ref01_Apply, ref01_apply, wrap_u8 o1, wrap_u8 o2]
  rw [if_neg (show ¬ c.threads = 0 by omega), if_neg (show ¬ c.items = 0 by omega)]
  obtain ⟨t, hteq⟩ : ∃ t, t = x1.tmod c.threads := ⟨_, rfl⟩
  obtain ⟨i, hieq⟩ : ∃ i, i = x2.tmod c.items := ⟨_, rfl⟩
  rw [← hteq] at k1 ⊢
  rw [← hieq] at k2 ⊢
  -- the turn
  obtain ⟨u, hu⟩ : ∃ u, u = firstT c t i op 0 := ⟨_, rfl⟩
  have hF : FitM u := by rw [hu]; exact firstT_fit hC n1 n2 n3 k1 k2 hop
  have hbe : u.c.backend = 1 := by rw [hu]; show c.backend = 1; rw [hc]
  have eu : u.c = c ∧ u.t = t ∧ u.th.phase = 1 ∧ u.th.item = i ∧ u.th.batch = [⟨t, op⟩] ∧ u.th.kids = [] ∧ u.th.held = [] ∧ u.th.layer = 0 ∧ u.m = builtM c := by rw [hu]; exact ⟨rfl, rfl, rfl, rfl, rfl, rfl, rfl, rfl, rfl⟩
  have e5 : C_arena_Build c = some (builtM c) := arena_build hC
  have e6 : ∀ th, C_thread_Begin (c, t, th, i, op, 0) = some (begunT c t i op 0 th.width) := fun th => thread_begin hC t th i op 0
  simp only [e5, C_thread_New, F_thread_New, e6, C_machine_Solo]
  have e7 : (⟨c, t, 0, builtM c, begunT c t i op 0 1, ⟨[], 0⟩, [], false⟩ : Turn) = u := by rw [hu]; rfl
  rw [e7]
  -- the first step
  have s1 := bl1 eu.2.2.1 hbe
  obtain ⟨v, hv⟩ : ∃ v, v = machineT u := ⟨_, rfl⟩
  rw [← hv] at s1
  have hline := lineAt_in hC (t := t) k1.1 k1.2
  have hcell := cell_lt hC (i := i) k2.1 k2.2
  have hFv : FitM v := by
    rw [s1]
    refine ⟨⟨hF.g.cfg, hF.g.t, ?_, hF.g.boxes, ?_, hF.g.batch, hF.g.kids, hF.g.box⟩, hF.held, hF.item, fun h => ?_, hF.tape, hF.draws, hF.width, hF.lo, hF.hi, hF.x, hF.ops⟩
    · show ((u.m.words.set _ _).length : Int) = _
      rw [List.length_set]; exact hF.g.words
    · intro n hn
      rcases List.mem_or_eq_of_mem_set hn with h1 | rfl
      · exact hF.g.nums n h1
      · exact ⟨by omega, by omega⟩
    · have h : (17 : Int) ≤ 2 := h
      omega
  have pv : v.th.phase = 2 := by rw [s1]
  have dv : v.done = false := by rw [s1]; rfl
  have lv : v.log = [] := by rw [s1]; rfl
  have cv : v.c = c := by rw [s1]; exact eu.1
  have iv : v.th.item = i := by rw [s1]; exact eu.2.2.2.1
  have bv : v.th.batch = [⟨t, op⟩] := by rw [s1]; exact eu.2.2.2.2.1
  have kv : v.th.kids = [] := by rw [s1]; exact eu.2.2.2.2.2.1
  have hv2 : v.th.held = [] := by rw [s1]; exact eu.2.2.2.2.2.2.1
  have yv : v.th.layer = 0 := by rw [s1]; exact eu.2.2.2.2.2.2.2.1
  have cellv : cellAt v.c v.th.item = i * blockOf c := by
    have := hFv.cell.1
    rw [this, cv, iv]
  have wv : wordAt v (cellAt v.c v.th.item) = c.init := by
    rw [cellv, s1]
    show (u.m.words.set (lineAt u.c u.t).toNat 0).getD (i * blockOf c).toNat 0 = c.init
    rw [eu.1, eu.2.1, getD_set_ne' (by omega), eu.2.2.2.2.2.2.2.2]
    have := fillW_cell hC c.items.toNat (by omega) i.toNat (by omega)
    rw [show ((i.toNat : Nat) : Int) = i by omega] at this
    exact this
  have av : allT v.c.lo v.c.hi v.th.batch (wordAt v (cellAt v.c v.th.item)) = (App op c.init c.lo c.hi).1 := by rw [wv, cv, bv]; rfl
  have solo1 : F_machine_Solo u 1 = some v := by
    rw [solo_next hF (by rw [eu.2.2.1]; decide) (by omega) (by omega), ← hv, if_neg (by rw [dv]; simp)]
    exact solo_zero v
  have soloS : ∀ n : Int, 0 < n → n ≤ 1000 → F_machine_Solo u (n + 1) = F_machine_Solo v n := by
    intro n h0 h1
    rw [solo_next hF (by rw [eu.2.2.1]; decide) (by omega) (by omega), ← hv, if_neg (by rw [dv]; simp)]
    congr 1
    omega
  have fin : ∀ {w : Turn}, w.done = true ∧ w.log.length = 1 ∧ w.th.held = [] ∧ w.th.kids = [] ∧ w.th.layer = 0 →
      (bif w.done then bif (w.log.length : Int) == (1 : Int) then bif (w.th.held.length : Int) == (0 : Int) then bif (w.th.kids.length : Int) == (0 : Int) then some (w.th.layer == (0 : Int)) else some false else some false else some false else some false) = some true := by
    rintro w ⟨h1, h2, h3, h4, h5⟩
    rw [h1, h2, h3, h4, h5]
    rfl
  have ev : commitS (begT v) = commitS v := by
    have : begT v = v := by
      unfold begT
      rw [← lv, ← dv]
    rw [this]
  have sv := commit_phase (u := v) (.inl pv)
  rw [ev] at sv
  have p3 : ¬ v.th.phase = 3 := by omega
  by_cases hy : (App op c.init c.lo c.hi).1 = c.init
  · rw [beq_t hy]
    simp only [cond_true]
    have w2 : machineT v = commitT v c.init := by
      rw [sv]
      unfold commitS
      rw [if_neg p3, if_pos (.inl pv)]
      simp only [av]
      rw [wv, if_pos hy]
    have ha := commitT_alone (u := v) (x := c.init) kv lv (by rw [bv]; rfl)
    have s2 : F_machine_Solo u 2 = some (commitT v c.init) := by
      rw [show (2 : Int) = 1 + 1 from rfl, soloS 1 (by omega) (by omega), solo_next hFv (by rw [pv]; decide) (by omega) (by omega), w2, if_pos ha.1]
    have s1' : F_machine_Solo u (wrapA IntKind.i64 ((2 : Int) - (1 : Int))) = some v := by
      rw [wrap_id (by omega) (by omega)]; exact solo1
    rw [s1', s2]
    simp only [dv, lv]
    rw [hv2, yv] at ha
    exact fin ha
  · rw [beq_f hy]
    simp only [cond_false]
    obtain ⟨q, hq⟩ : ∃ q, q = machineT v := ⟨_, rfl⟩
    have w2 : q = { v with th := { v.th with phase := 3, x := c.init, y := (App op c.init c.lo c.hi).1 } } := by
      rw [hq, sv]
      unfold commitS
      rw [if_neg p3, if_pos (.inl pv)]
      simp only [av]
      rw [wv, if_neg hy, if_neg (by omega)]
    have hFq : FitM q := by
      rw [w2]
      exact ⟨⟨hFv.g.cfg, hFv.g.t, hFv.g.words, hFv.g.boxes, hFv.g.nums, hFv.g.batch, hFv.g.kids, hFv.g.box⟩, hFv.held, hFv.item, fun h => by have h : (17 : Int) ≤ 3 := h; omega, hFv.tape, hFv.draws, hFv.width, hFv.lo, hFv.hi, n1, hFv.ops⟩
    have dq : q.done = false := by rw [w2]; exact dv
    have lq : q.log = [] := by rw [w2]; exact lv
    have pq : q.th.phase = 3 := by rw [w2]
    have eq2 : begT q = q := by unfold begT; rw [← lq, ← dq]
    have s3 : machineT q = commitT (setW q (cellAt q.c q.th.item) q.th.y) q.th.x := by
      rw [commit_phase (.inr (.inl pq)), eq2]
      unfold commitS
      rw [if_pos pq]
      show comparedU q = _
      unfold comparedU
      rw [if_pos]
      rw [w2]
      exact wv
    have ha := commitT_alone (u := setW q (cellAt q.c q.th.item) q.th.y) (x := q.th.x) (by rw [w2]; exact kv) lq (by rw [w2]; show v.th.batch.length = 1; rw [bv]; rfl)
    have solo2 : F_machine_Solo u 2 = some q := by
      rw [show (2 : Int) = 1 + 1 from rfl, soloS 1 (by omega) (by omega), solo_next hFv (by rw [pv]; decide) (by omega) (by omega), ← hq, if_neg (by rw [dq]; simp)]
      exact solo_zero q
    have solo3 : F_machine_Solo u 3 = some (machineT q) := by
      rw [show (3 : Int) = 2 + 1 from rfl, soloS 2 (by omega) (by omega), solo_next hFv (by rw [pv]; decide) (by omega) (by omega), ← hq, if_neg (by rw [dq]; simp), solo_next hFq (by rw [pq]; decide) (by omega) (by omega), s3, if_pos ha.1]
    have s2' : F_machine_Solo u (wrapA IntKind.i64 ((3 : Int) - (1 : Int))) = some q := by
      rw [wrap_id (by omega) (by omega)]; exact solo2
    rw [s2', solo3]
    simp only [dq, lq]
    rw [s3]
    have h3 : (setW q (cellAt q.c q.th.item) q.th.y).th.held = [] := by rw [w2]; exact hv2
    have h4 : (setW q (cellAt q.c q.th.item) q.th.y).th.layer = 0 := by rw [w2]; exact yv
    rw [h3, h4] at ha
    exact fin ha
end Go.Proofs.Mill
