/- The plain law of FairSolo. -/
import Derived.Test.YtaopdopnecognaaGreatMillQRun
import Derived.Test.YtaopdopnecognaaGreatMillQMAlone
import Derived.Test.YtaopdopnecognaaGreatMillPShown19
import Derived.Test.YtaopdopnecognaaGreatMillQFair2
import Derived.Test.YtaopdopnecognaaGreatMillAll4
namespace Go.Proofs.Mill
set_option linter.all false

theorem EndsIn.pos {G : Turn → Prop} {u : Turn} {k : Int} (h : EndsIn G u k) : 1 ≤ k := by
  induction h with
  | last => omega
  | step hf hp hv hd hl h hk ih => omega
  | more h hk ih => omega

/-- A step of a thread that is to end within so many. -/
theorem EndsIn.one {G : Turn → Prop} {u : Turn} {k : Int} (h : EndsIn G u k) : FitM u ∧ u.th.phase ≠ 0 ∧
    (((machineT u).done = true ∧ G (machineT u)) ∨ ((machineT u).done = false ∧ (machineT u).log = [] ∧ ∃ k', k' + 1 ≤ k ∧ EndsIn G (machineT u) k')) := by
  induction h with
  | last hf hp hd hg => exact ⟨hf, hp, .inl ⟨hd, hg⟩⟩
  | step hf hp hv hd hl h hk ih => subst hv; exact ⟨hf, hp, .inr ⟨hd, hl, _, Int.le_refl _, h⟩⟩
  | more h hk ih =>
    obtain ⟨h1, h2, h3⟩ := ih
    refine ⟨h1, h2, h3.imp id ?_⟩
    rintro ⟨a, b, k', c, d⟩
    exact ⟨a, b, k', by omega, d⟩

section
variable {c : Config} {t i : Int} {op : Op}

/-- One thread is under way. -/
structure Solo (c : Config) (t i : Int) (op : Op) (w : Wld) (u : Turn) : Prop where
  cE : w.c = c
  turn : turnOf w t = u
  len : (w.t.length : Int) = c.threads
  others : ∀ j : Nat, (j : Int) ≠ t → (w.t.getD j dThread).phase = 0
  hist : w.hist.length = 1
  log : w.log = []
  op : u.th.op = op

/-- It is over. -/
structure Over (c : Config) (w : Wld) : Prop where
  len : (w.t.length : Int) = c.threads
  idle : ∀ j : Nat, (w.t.getD j dThread).phase = 0
  hist : w.hist.length = 2
  kind : (w.hist.getD 1 dEvent).kind = 2
  prior : (w.hist.getD 1 dEvent).prior = c.init
  log : w.log.length = 1

theorem entry_pick {w : Wld} {t : Int} {e : SEntry} (k : e.kind = 2) (ht : e.t = t) : entryM w e = F_world_pick w t := by
  unfold entryM
  rw [if_neg (by omega), if_pos k, ht]

theorem over_picks {w : Wld} (h : Over c w) : ∀ d : List SEntry, (∀ e ∈ d, e.kind = 2 ∧ 0 ≤ e.t ∧ e.t < c.threads) → entriesM w d = some w
  | [], _ => rfl
  | e :: d, hd => by
    obtain ⟨k, t0, t1⟩ := hd e (List.mem_cons_self ..)
    rw [entriesM_cons (v := w) (by rw [entry_pick k rfl]; exact pick_idle t0 (by rw [h.len]; exact t1) (h.idle _))]
    exact over_picks h d fun x hx => hd x (List.mem_cons_of_mem _ hx)

theorem getD_set_th {l : List Thread} {a b : Nat} {y : Thread} : (l.set a y).getD b dThread = if a = b ∧ a < l.length then y else l.getD b dThread := by
  rw [List.getD_eq_getElem?_getD, List.getD_eq_getElem?_getD, List.getElem?_set]
  by_cases h : a = b
  · subst h
    rw [if_pos rfl]
    by_cases h2 : a < l.length
    · rw [if_pos h2, if_pos ⟨rfl, h2⟩]; rfl
    · rw [if_neg h2, if_neg (fun x => h2 x.2), List.getElem?_eq_none (by omega)]
  · rw [if_neg h, if_neg (fun x => h x.1)]

theorem solo_picks (ht : 0 ≤ t ∧ t < c.threads) (hci : Num c.init) (hop : Num op.v) : ∀ (d : List SEntry), (∀ e ∈ d, e.kind = 2 ∧ 0 ≤ e.t ∧ e.t < c.threads) → ∀ (w : Wld) (u : Turn) (k : Int), Solo c t i op w u → EndsIn (Good c t i op) u k → k ≤ ((d.filter fun e => e.t == t).length : Int) →
    ∃ w', entriesM w d = some w' ∧ Over c w'
  | [], _, w, u, k, hs, he, hk => by
    have := he.pos
    simp at hk
    omega
  | e :: d, hd, w, u, k, hs, he, hk => by
    obtain ⟨ke, t0, t1⟩ := hd e (List.mem_cons_self ..)
    have hd' := fun x hx => hd x (List.mem_cons_of_mem _ hx)
    by_cases et : e.t = t
    · obtain ⟨hf, hp, hcase⟩ := he.one
      have hkeep := machineT_kept u
      have hop' : (machineT u).th.op = op := (kept_op hkeep).trans hs.op
      have hth : (w.t.getD t.toNat dThread) = u.th := congrArg (·.th) hs.turn
      rcases hcase with ⟨hdn, hg⟩ | ⟨hdn, hlg, k', hk', he'⟩
      · have hlog := hg.log
        have h1 := pick_busy (w := w) (t := t) (u := machineT u) ht.1 (by rw [hs.len]; exact ht.2) (by rw [hth]; exact hp) (by rw [hs.turn]; exact hf) (by rw [hs.turn]) (fun _ => ⟨by rw [hg.x]; exact hci, by rw [hop']; exact hop⟩) (by rw [hs.log, hlog]; simp) (by rw [hs.hist]; omega)
        have hov : Over c (pickT w t (machineT u)) := by
          refine ⟨?_, fun j => ?_, ?_, ?_, ?_, ?_⟩
          · show ((w.t.set _ _).length : Int) = _
            rw [List.length_set]; exact hs.len
          · show ((w.t.set t.toNat (machineT u).th).getD j dThread).phase = 0
            rw [getD_set_th]
            split
            · exact hg.idle
            · rename_i hne
              have := hs.len
              exact hs.others j (fun h => hne ⟨by omega, by omega⟩)
          · show (if (machineT u).done = true then _ else _ : List Event).length = 2
            rw [if_pos hdn, List.length_append, hs.hist]; rfl
          · show ((if (machineT u).done = true then _ else _ : List Event).getD 1 dEvent).kind = 2
            rw [if_pos hdn, List.getD_eq_getElem?_getD, List.getElem?_append_right (by rw [hs.hist]; omega), hs.hist]; rfl
          · show ((if (machineT u).done = true then _ else _ : List Event).getD 1 dEvent).prior = c.init
            rw [if_pos hdn, List.getD_eq_getElem?_getD, List.getElem?_append_right (by rw [hs.hist]; omega), hs.hist]
            exact hg.x
          · show (w.log ++ (machineT u).log.map _).length = 1
            rw [hs.log, hlog]; rfl
        exact ⟨_, by rw [entriesM_cons (v := pickT w t (machineT u)) (by rw [entry_pick ke et]; exact h1)]; exact over_picks hov d hd', hov⟩
      · have h1 := pick_busy (w := w) (t := t) (u := machineT u) ht.1 (by rw [hs.len]; exact ht.2) (by rw [hth]; exact hp) (by rw [hs.turn]; exact hf) (by rw [hs.turn]) (fun h => by rw [hdn] at h; cases h) (by rw [hs.log, hlg]; simp) (by rw [hs.hist]; omega)
        have hlen := hs.len
        have hcl : (turnOf w t) = u := hs.turn
        have hc1 : u.c = w.c := by rw [← hcl]; rfl
        have hn1 : u.now = w.now := by rw [← hcl]; rfl
        have ht1 : u.t = t := by rw [← hcl]; rfl
        have hs' : Solo c t i op (pickT w t (machineT u)) (machineT u) := by
          refine ⟨hs.cE, ?_, ?_, fun j hj => ?_, ?_, ?_, hop'⟩
          · have hb := machineT_kept u
            have e1 := kept_c hb
            have e2 := kept_t hb
            have e3 := kept_now hb
            show (⟨w.c, t, w.now, (machineT u).m, (w.t.set t.toNat (machineT u).th).getD t.toNat dThread, (machineT u).tape, [], false⟩ : Turn) = machineT u
            rw [getD_set_th, if_pos ⟨rfl, by omega⟩, ← hc1, ← hn1, ← e1, ← e3, ← hdn, ← hlg]
            obtain ⟨v, hv⟩ : ∃ v, v = machineT u := ⟨_, rfl⟩
            rw [← hv] at e2 ⊢
            have : t = v.t := by rw [e2, ht1]
            rw [this]
          · show ((w.t.set _ _).length : Int) = _
            rw [List.length_set]; exact hs.len
          · show ((w.t.set t.toNat (machineT u).th).getD j dThread).phase = 0
            rw [getD_set_th, if_neg (fun h => hj (by omega))]
            exact hs.others j hj
          · show (if (machineT u).done = true then _ else _ : List Event).length = 1
            rw [if_neg (by rw [hdn]; decide)]; exact hs.hist
          · show w.log ++ (machineT u).log.map _ = []
            rw [hs.log, hlg]; rfl
        obtain ⟨w', a, b⟩ := solo_picks ht hci hop d hd' _ _ k' hs' he' (by
          rw [List.filter_cons, if_pos (by simp [et]), List.length_cons] at hk
          omega)
        exact ⟨w', by rw [entriesM_cons (by rw [entry_pick ke et]; exact h1)]; exact a, b⟩
    · have h1 : entryM w e = some w := by
        rw [entry_pick ke rfl]
        exact pick_idle t0 (by rw [hs.len]; exact t1) (hs.others _ (by omega))
      obtain ⟨w', a, b⟩ := solo_picks ht hci hop d hd' w u k hs he (by
        rw [List.filter_cons, if_neg (by simp [et])] at hk
        exact hk)
      exact ⟨w', by rw [entriesM_cons h1]; exact a, b⟩
end

theorem picks_add (T a b : Nat) : picks T (a * T + b) = picks T (a * T) ++ picks T b := by
  unfold picks
  rw [List.range_add, List.map_append, List.map_map]
  congr 1
  apply List.map_congr_left
  intro k hk
  show sE ((a * T + k) % T) = sE (k % T)
  rw [Nat.mul_comm, Nat.mul_add_mod]

theorem picks_count {T : Nat} {t : Int} (h0 : 0 ≤ t) (h1 : t < (T : Int)) : ∀ n : Nat, n ≤ ((picks T (n * T)).filter fun e => e.t == t).length
  | 0 => Nat.zero_le _
  | n + 1 => by
    have ih := picks_count h0 h1 n
    rw [Nat.add_mul, Nat.one_mul, picks_add, List.filter_append, List.length_append]
    have : 1 ≤ ((picks T T).filter fun e => e.t == t).length := by
      apply List.length_pos_of_mem (a := sE t.toNat)
      rw [List.mem_filter]
      refine ⟨?_, by show (((t.toNat : Nat) : Int) == t) = true; simp; omega⟩
      unfold picks
      rw [List.mem_map]
      exact ⟨t.toNat, by simp; omega, by rw [Nat.mod_eq_of_lt (by omega)]⟩
    omega
theorem picks_entries {T m : Nat} (hT : 0 < T) : ∀ e ∈ picks T m, e.kind = 2 ∧ 0 ≤ e.t ∧ e.t < (T : Int) := by
  intro e he
  unfold picks at he
  rw [List.mem_map] at he
  obtain ⟨k, _, rfl⟩ := he
  have := Nat.mod_lt k hT
  exact ⟨rfl, by show (0 : Int) ≤ ((k % T : Nat) : Int); omega, by show ((k % T : Nat) : Int) < _; omega⟩

theorem pure_FairSolo (c : Config) (x1 x2 : Int) (op : Op) (d : List Int) (o0 : (valSt celConfig).Ok c) (o1 : (valInt .u8).Ok x1) (o2 : (valInt .u8).Ok x2) (o3 : (valSt celOp).Ok op) (o4 : (valLst .int).Ok d) : F_law19_FairSolo c x1 x2 op d = some true := by
  obtain ⟨b, hb, hB⟩ := may_ok (c := c)
  have hsh : C_law19_shown () = some true := law19_shown
  unfold F_law19_FairSolo
  simp only [C_law19_may, hb, hsh, C_ref01_May, ref01_may_eq]
  cases b with
  | false => rfl
  | true =>
  have hC := hB.1 rfl
  simp only [Bool.not_true, cond_false, cond_dec]
  by_cases hd : (d.length : Int) > 100
  · rw [if_pos hd]
  rw [if_neg hd]
  cases hq : opMay op c.bounded with
  | false => rfl
  | true =>
  simp only [Bool.not_true, cond_false]
  have ht := hC.threads
  have hi := hC.items
  obtain ⟨n1, n2, n3⟩ := conf_nums o0
  have hop := op_num o3
  have u1 := u8_num o1
  have u2 := u8_num o2
  have k1 := tmod_in (a := x1) (b := c.threads) u1.1 ht.1
  have k2 := tmod_in (a := x2) (b := c.items) u2.1 hi.1
  simp only [wrap_u8 o1, wrap_u8 o2]
  rw [if_neg (show ¬ c.threads = 0 by omega), if_neg (show ¬ c.items = 0 by omega)]
  obtain ⟨t, hteq⟩ : ∃ t, t = x1.tmod c.threads := ⟨_, rfl⟩
  obtain ⟨i, hieq⟩ : ∃ i, i = x2.tmod c.items := ⟨_, rfl⟩
  rw [← hteq] at k1 ⊢
  rw [← hieq] at k2 ⊢
  have hsb := steps_bounds hC
  have hst : wrapA IntKind.i64 (wrapA IntKind.i64 ((20 : Int) + wrapA IntKind.i64 ((8 : Int) * c.depth)) + wrapA IntKind.i64 (c.layers * wrapA IntKind.i64 ((20 : Int) + wrapA IntKind.i64 ((2 : Int) * c.spin)))) = stepsOf c := by
    have hdp := hC.depth
    have hly := hC.layers
    have hsp := hC.spin
    have hb1 : 0 ≤ c.layers * (20 + 2 * c.spin) ∧ c.layers * (20 + 2 * c.spin) ≤ 180 := ⟨Int.mul_nonneg (by omega) (by omega), by
      have h1 : c.layers * (20 + 2 * c.spin) ≤ 3 * (20 + 2 * c.spin) := Int.mul_le_mul_of_nonneg_right (by omega) (by omega)
      omega⟩
    unfold stepsOf
    rw [wrap_id (n := (8 : Int) * c.depth) (by omega) (by omega), wrap_id (n := (2 : Int) * c.spin) (by omega) (by omega), wrap_id (n := 20 + 2 * c.spin) (by omega) (by omega), wrap_id (n := c.layers * (20 + 2 * c.spin)) (by omega) (by omega),
      wrap_id (n := 20 + 8 * c.depth) (by omega) (by omega), wrap_id (by omega) (by omega)]
  rw [hst]
  have hT : c.threads.toNat ≤ 16 := by omega
  have hN : (stepsOf c).toNat ≤ 232 := by omega
  have hm : (stepsOf c).toNat * c.threads.toNat ≤ 232 * 16 := Nat.mul_le_mul hN hT
  have e4 : C_fair_Suffix (c, stepsOf c) = some (picks c.threads.toNat ((stepsOf c).toNat * c.threads.toNat)) := by
    show F_fair_Suffix c (stepsOf c) = _
    rw [fair_suffix hC _ (by omega), Nat.min_eq_left (by omega)]
  rw [e4]
  simp only []
  rw [few_true (by rw [picks_length]; simp; omega), cond_true]
  obtain ⟨e0, he0⟩ : ∃ e0, e0 = (⟨1, t, i, op⟩ : SEntry) := ⟨_, rfl⟩
  obtain ⟨ps, hps⟩ : ∃ ps, ps = picks c.threads.toNat ((stepsOf c).toNat * c.threads.toNat) := ⟨_, rfl⟩
  rw [← hps, ← he0]
  have hpe : ∀ e ∈ ps, e.kind = 2 ∧ 0 ≤ e.t ∧ e.t < c.threads := by
    intro e he
    rw [hps] at he
    have := picks_entries (show 0 < c.threads.toNat by omega) e he
    omega
  have hnw : (newW c d).t = List.replicate c.threads.toNat newT := rfl
  have hget : ∀ j : Nat, ((newW c d).t.getD j dThread).phase = 0 := by
    intro j
    rw [hnw, List.getD_eq_getElem?_getD, List.getElem?_replicate]
    split <;> rfl
  obtain ⟨w1, hw1⟩ : ∃ w1, w1 = invT (newW c d) e0 := ⟨_, rfl⟩
  have hget0 : (newW c d).t.getD t.toNat dThread = newT := by
    rw [hnw, List.getD_eq_getElem?_getD, List.getElem?_replicate_of_lt (by omega)]; rfl
  have ei : entryM (newW c d) e0 = some w1 := by
    unfold entryM
    rw [if_pos (by rw [he0]), if_pos (by
      refine ⟨by rw [he0]; exact k1.1, ?_, by show (0 : Nat) + 1 ≤ _; omega⟩
      rw [hnw, he0, List.length_replicate]
      show t < _
      omega), hw1]
  have hs : Solo c t i op w1 (firstT c t i op 0 ⟨d, 0⟩) := by
    have e1 : w1 = { newW c d with t := (newW c d).t.set t.toNat (begunT c t i op 0 1), hist := [⟨1, t, i, op, 0, false, 0⟩] } := by
      rw [hw1, he0]
      unfold invT
      rw [if_neg (fun h => h (hget _)), hget0]
      rfl
    rw [e1]
    have hl : ((newW c d).t.length : Int) = c.threads := by rw [hnw, List.length_replicate]; omega
    refine ⟨rfl, ?_, by rw [List.length_set]; exact hl, fun j hj => ?_, rfl, rfl, rfl⟩
    · unfold turnOf firstT
      simp only
      rw [getD_set_th, if_pos ⟨rfl, by omega⟩]
      rfl
    · show (((newW c d).t.set t.toNat _).getD j dThread).phase = 0
      rw [getD_set_th, if_neg (fun h => hj (by omega))]
      exact hget j
  have he := first_ends (c := c) (t := t) (i := i) (op := op) (now := 0) hC n1 n2 n3 k1 k2 hop ⟨by omega, by omega⟩ (tp := ⟨d, 0⟩) ⟨⟨by show (-9223372036854775808 : Int) ≤ 0; omega, by show (0 : Int) ≤ _; omega⟩, by show d.length ≤ _; omega⟩
  have hk : stepsOf c ≤ ((ps.filter fun e => e.t == t).length : Int) := by
    have := picks_count (T := c.threads.toNat) (t := t) k1.1 (by omega) (stepsOf c).toNat
    rw [hps]
    omega
  obtain ⟨w', hw', ho⟩ := solo_picks k1 n1 hop ps hpe w1 _ (stepsOf c) hs he hk
  have hrun : C_world_Run (c, [e0] ++ ps, d) = some (w', 0, 0) := by
    refine world_run hC ?_ ?_ (show d.length ≤ 4294967296 by omega) ?_
    · rw [hps, List.length_append, picks_length]; simp; omega
    · intro e hmem
      rcases List.mem_append.1 hmem with hx | hx
      · rw [List.mem_singleton] at hx
        subst hx
        subst he0
        unfold checkE
        rw [if_neg (by show ¬ ((1 : Int) < 1 ∨ (1 : Int) > 3); omega), if_neg (by show ¬ (1 : Int) = 3; omega), if_neg (by show ¬ (t < 0 ∨ t ≥ c.threads); omega), if_neg (by show ¬ (1 : Int) = 2; omega), if_neg (by show ¬ (i < 0 ∨ i ≥ c.items); omega), if_pos hq]
      · obtain ⟨a, b1, b2⟩ := hpe e hx
        unfold checkE
        rw [if_neg (by omega), if_neg (by omega), if_neg (by omega), if_pos a]
    · show entriesM (newW c d) (e0 :: ps) = _
      rw [entriesM_cons ei]
      exact hw'
  rw [show (e0 :: ([] : List SEntry) ++ ps) = [e0] ++ ps from rfl, hrun]
  have hbz : C_world_Busy w' = some 0 := by
    show F_world_Busy w' = _
    have hl := ho.len
    rw [world_busy (by omega), busy_none ?_]
    · rfl
    · intro th hth
      obtain ⟨j, hj, rfl⟩ := List.mem_iff_getElem.1 hth
      have := ho.idle j
      rwa [List.getD_eq_getElem?_getD, List.getElem?_eq_getElem hj] at this
  simp only [hbz, beq_self_eq_true, cond_true, ho.hist, ho.log]
  rw [show Int.toNat (1 : Int) = 1 from rfl]
  rw [beq_t (show ((2 : Nat) : Int) = 2 from rfl), cond_true, if_pos (by decide), beq_t ho.kind, cond_true, beq_t ho.prior]
  rfl
end Go.Proofs.Mill
