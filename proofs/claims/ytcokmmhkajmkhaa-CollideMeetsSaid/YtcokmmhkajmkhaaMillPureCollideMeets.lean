/- The plain law of CollideMeets. -/
import Derived.Test.YtcokmmhkajmkhaaMillPCollide3
set_option linter.all false
namespace Go.Proofs.Mill

/-- A turn under way. -/
def meetU (u : Turn) (ws : List Int) (p who l : Int) (b : List Entry) (k : List Kid) (t : Tape) : Turn :=
  { u with m := { u.m with words := ws }, th := { u.th with phase := p, who := who, left := l, batch := b, kids := k }, tape := t }

theorem meet_fill {u : Turn} (h : FitC u) (hl : u.th.layer ≤ u.c.layers) (op : Bool) (x q wd : Int) (h0 : 0 ≤ q) (h1 : q < 16) :
    W_law15_CollideMeets_10 (op, x, u, u.c, q, wd, u.m.words, 0) = some (op, x, u, u.c, q, wd, fillT u (q + 1) u.c.width.toNat u.m.words) := by
  have hw := h.g.cfg.width
  refine whileM_for (fun i => (op, x, u, u.c, q, wd, fillT u (q + 1) i u.m.words, (i : Int))) u.c.width.toNat (fun i hi => ?_) ?_
  · obtain ⟨s0, s1, s2⟩ := h.slots hl (j := i) (by omega) (by omega)
    simp only [T_law15_CollideMeets_10, S_law15_CollideMeets_10, cond_dec, C_ref06_Slot, ref06_slot h.g.cfg, fillT_len]
    rw [if_pos (by omega), if_pos s0, if_pos s2, wrap_id (by omega) (by omega), wrap_id (by omega) (by omega)]
    rfl
  · simp only [T_law15_CollideMeets_10, S_law15_CollideMeets_10, cond_dec]
    rw [if_neg (by omega)]

theorem meetU_fit {u : Turn} (h : FitC u) {ws : List Int} {t : Tape} (l : ws.length = u.m.words.length) (n : ∀ n ∈ ws, Num n) (ht : Num t.at_) (hd : t.l.length ≤ 4294967296) (p who lf : Int) {b : List Entry} {k : List Kid}
    (hb : b.length ≤ 1000000) (hk : k.length ≤ 1000000) : FitC (meetU u ws p who lf b k t) :=
  ⟨⟨h.g.cfg, h.g.t, by show (ws.length : Int) = _; rw [l]; exact h.g.words, h.g.boxes, n, hb, hk, h.g.box⟩, h.item, h.layer, ht, hd, h.width⟩

theorem meet_round {op : Bool} {x q wd mi th : Int} {s v v' : Turn} {w : List Int} {i : Int} (h : i < 4) (h0 : 0 ≤ i) (hs : F_collide_Step v = some (v', true)) (hl : v'.m.words.length = w.length) :
    W_law15_CollideMeets_23 (op, x, s, q, wd, w, mi, th, v, i) = W_law15_CollideMeets_23 (op, x, s, q, wd, w, mi, th, v', i + 1) := by
  unfold W_law15_CollideMeets_23
  rw [whileM_eq]
  simp only [T_law15_CollideMeets_23, S_law15_CollideMeets_23, cond_dec, C_collide_Step, hs]
  rw [if_pos h, bne_f (show (v'.m.words.length : Int) = (w.length : Int) by rw [hl]), wrap_id (by omega) (by omega)]
  rfl
theorem meet_end {op : Bool} {x q wd mi th : Int} {s v : Turn} {w : List Int} : W_law15_CollideMeets_23 (op, x, s, q, wd, w, mi, th, v, 0 + 1 + 1 + 1 + 1) = some (.inl (op, x, s, q, wd, mi, th, v)) := by
  unfold W_law15_CollideMeets_23
  rw [whileM_eq]
  rfl

/-- Another thread than this one. -/
theorem other_thread {t g n : Int} (t0 : 0 ≤ t) (t1 : t < n) (g0 : 0 ≤ g) (g1 : g < n - 1) (hn : n ≤ 16) : 0 ≤ (t + 1 + g).tmod n ∧ (t + 1 + g).tmod n < n ∧ (t + 1 + g).tmod n ≠ t := by
  rw [Int.tmod_eq_emod_of_nonneg (by omega)]
  by_cases h : t + 1 + g < n
  · rw [Int.emod_eq_of_lt (by omega) h]; omega
  · rw [show t + 1 + g = (t + 1 + g - n) + n by omega, Int.add_emod_right, Int.emod_eq_of_lt (by omega) (by omega)]; omega

section
variable {u : Turn}

/-- The four steps. -/
theorem meets {q : Int} (hF : FitC u) (hly : u.th.layer ≤ u.c.layers) (hwd : 1 ≤ u.th.width ∧ u.th.width ≤ u.c.width) (hb : u.th.batch.length ≤ 1000) (hk : u.th.kids.length ≤ 1000) (hbx : ∀ x ∈ u.m.boxes, x.length ≤ 1000)
    (q0 : 0 ≤ q) (q1 : q < u.c.threads) (qt : q ≠ u.t) (x : Int) (hx : Num x) (op : Bool) (oth : Int) (mi th : Int) (wd : Int) :
    let w := ((fillT u (q + 1) u.c.width.toNat u.m.words).set (lineAt u.c u.t).toNat (openW u)).set (lineAt u.c q).toNat x
    ∃ v : Turn, W_law15_CollideMeets_23 (op, oth, { u with m := { u.m with words := w }, th := { u.th with phase := 19 } }, q, wd, w, mi, th, { u with m := { u.m with words := w }, th := { u.th with phase := 19 } }, 0) =
        some (.inl (op, oth, { u with m := { u.m with words := w }, th := { u.th with phase := 19 } }, q, wd, mi, th, v)) ∧ v.m.words.length = w.length ∧
      (x = openW u → v.th.phase = 25 ∧ v.m.words.getD (lineAt u.c u.t).toNat 0 = 0 ∧ v.m.words.getD (lineAt u.c q).toNat 0 = 0 ∧ v.th.batch = u.th.batch ++ u.m.boxes.getD q.toNat [] ∧ v.th.kids = u.th.kids ++ [⟨q, u.th.batch.length⟩]) ∧
      (x ≠ openW u → v.th.phase = 23 ∧ v.m.words.getD (lineAt u.c u.t).toNat 0 = openW u ∧ v.m.words.getD (lineAt u.c q).toNat 0 = x ∧ v.th.batch = u.th.batch ∧ v.th.kids = u.th.kids) := by
  intro w
  have hth := hF.g.cfg.threads
  have ht := hF.g.t
  have hwc := hF.g.cfg.width
  have hl := hF.g.len
  have hbl := hF.g.boxes
  obtain ⟨b0, b1⟩ := belowT_in u.tape (n := u.th.width) hwd.1 (by omega)
  obtain ⟨s0, s1, s2⟩ := hF.slots hly b0 (show (belowT u.tape u.th.width).1 < u.c.width by omega)
  obtain ⟨e1, m1, m2⟩ := lineAt_in hF.g.cfg ht.1 ht.2
  obtain ⟨e2, t1, t2⟩ := lineAt_in hF.g.cfg q0 q1
  have hwl := hF.g.words
  have hlb := lines_bounds hF.g.cfg
  obtain ⟨d, hd⟩ : ∃ d, d = drawnAt u := ⟨_, rfl⟩
  have hd0 : 0 ≤ d ∧ d < linesOf u.c := by rw [hd]; exact ⟨s0, s1⟩
  have lw : w.length = u.m.words.length := by simp only [w, List.length_set, fillT_len]
  have nw : ∀ n ∈ w, Num n := nums_set (nums_set (fillT_nums (num_small (by omega) (by omega)) _ hF.g.nums) (openW_num hF) _) hx _
  have wm : w.getD (lineAt u.c u.t).toNat 0 = openW u := by
    rw [getD_set_ne (by omega)]
    exact getD_set_self (by rw [fillT_len]; omega)
  have wt : w.getD (lineAt u.c q).toNat 0 = x := getD_set_self (by rw [List.length_set, fillT_len]; omega)
  have wd' : w.getD d.toNat 0 = q + 1 := by
    rw [getD_set_ne (by omega), getD_set_ne (by omega), hd]
    have := fillT_at (u := u) (w := q + 1) (k := u.c.width.toNat) (l := u.m.words) (fun j hj => by have := hF.slots hly (j := j) (by omega) (by omega); omega) (j := (belowT u.tape u.th.width).1.toNat) (by omega)
    rwa [Int.toNat_of_nonneg b0] at this
  obtain ⟨tp, htp⟩ : ∃ tp, tp = (belowT u.tape u.th.width).2 := ⟨_, rfl⟩
  have tn : Num tp.at_ := by rw [htp]; exact belowT_num hF.tape hF.draws _
  have tl : tp.l.length ≤ 4294967296 := by rw [htp, belowT_tape]; exact hF.draws
  obtain ⟨w1, hw1⟩ : ∃ w1, w1 = w.set d.toNat (u.t + 1) := ⟨_, rfl⟩
  have lw1 : w1.length = w.length := by rw [hw1, List.length_set]
  have nw1 : ∀ n ∈ w1, Num n := by rw [hw1]; exact nums_set nw (num_small (by omega) (by omega)) _
  have w1m : w1.getD (lineAt u.c u.t).toNat 0 = openW u := by rw [hw1, getD_set_ne (by omega), wm]
  have w1t : w1.getD (lineAt u.c q).toNat 0 = x := by rw [hw1, getD_set_ne (by omega), wt]
  obtain ⟨w2, hw2⟩ : ∃ w2, w2 = w1.set (lineAt u.c u.t).toNat 0 := ⟨_, rfl⟩
  have lw2 : w2.length = w.length := by rw [hw2, List.length_set, lw1]
  have nw2 : ∀ n ∈ w2, Num n := by rw [hw2]; exact nums_set nw1 ⟨by omega, by omega⟩ _
  have w2t : w2.getD (lineAt u.c q).toNat 0 = x := by rw [hw2, getD_set_ne (by omega), w1t]
  have g0 := @meetU_fit u hF w u.tape lw nw hF.tape hF.draws 19 u.th.who u.th.left u.th.batch u.th.kids (by omega) (by omega)
  have st0 : F_collide_Step (meetU u w 19 u.th.who u.th.left u.th.batch u.th.kids u.tape) = some (meetU u w1 20 q u.th.left u.th.batch u.th.kids tp, true) := by
    rw [cstep19 g0 rfl]
    unfold swapT
    have d1 : drawnAt (meetU u w 19 u.th.who u.th.left u.th.batch u.th.kids u.tape) = d := by rw [hd]; rfl
    rw [d1, if_neg (by omega)]
    show some ((if 1 ≤ w.getD d.toNat 0 ∧ w.getD d.toNat 0 ≤ u.c.threads ∧ w.getD d.toNat 0 ≠ u.t + 1 then _ else _), true) = _
    rw [if_pos (by rw [wd']; omega)]
    have e : wordAt (meetU u w 19 u.th.who u.th.left u.th.batch u.th.kids u.tape) d - 1 = q := by
      show w.getD d.toNat 0 - 1 = q
      rw [wd']; omega
    rw [e, hw1, htp]
    rfl
  have g1 := @meetU_fit u hF w1 tp (lw1.trans lw) nw1 tn tl 20 q u.th.left u.th.batch u.th.kids (by omega) (by omega)
  have st1 : F_collide_Step (meetU u w1 20 q u.th.left u.th.batch u.th.kids tp) = some (meetU u w2 21 q u.th.left u.th.batch u.th.kids tp, true) := by
    rw [cstep20 g1 rfl]
    refine (congrArg (fun z => some (z, true)) (comparedT_so (u := meetU u w1 20 q u.th.left u.th.batch u.th.kids tp) (t := u.t) (so := 21) (no := 13) (show lineAt u.c u.t ≠ -1 by omega) w1m)).trans ?_
    rw [hw2]
    rfl
  have g2 := @meetU_fit u hF w2 tp (lw2.trans lw) nw2 tn tl 21 q u.th.left u.th.batch u.th.kids (by omega) (by omega)
  have hin : ∀ v : Turn, F_collide_Step (meetU u w2 21 q u.th.left u.th.batch u.th.kids tp) = some (v, true) → v.m.words.length = w.length → ∀ v', F_collide_Step v = some (v', true) → v'.m.words.length = w.length →
      W_law15_CollideMeets_23 (op, oth, { u with m := { u.m with words := w }, th := { u.th with phase := 19 } }, q, wd, w, mi, th, { u with m := { u.m with words := w }, th := { u.th with phase := 19 } }, 0) =
        some (.inl (op, oth, { u with m := { u.m with words := w }, th := { u.th with phase := 19 } }, q, wd, mi, th, v')) := by
    intro v hv lv v' hv' lv'
    refine (meet_round (v := meetU u w 19 u.th.who u.th.left u.th.batch u.th.kids u.tape) (v' := meetU u w1 20 q u.th.left u.th.batch u.th.kids tp) (by omega) (by omega) st0 lw1).trans ?_
    rw [meet_round (by omega) (by omega) st1 lw2, meet_round (by omega) (by omega) hv lv, meet_round (by omega) (by omega) hv' lv', meet_end]
  by_cases hxo : x = openW u
  · obtain ⟨w3, hw3⟩ : ∃ w3, w3 = w2.set (lineAt u.c q).toNat 0 := ⟨_, rfl⟩
    have lw3 : w3.length = w.length := by rw [hw3, List.length_set, lw2]
    have nw3 : ∀ n ∈ w3, Num n := by rw [hw3]; exact nums_set nw2 ⟨by omega, by omega⟩ _
    have st2 : F_collide_Step (meetU u w2 21 q u.th.left u.th.batch u.th.kids tp) = some (meetU u w3 22 q u.th.left u.th.batch u.th.kids tp, true) := by
      rw [cstep21 g2 rfl]
      refine (congrArg (fun z => some (z, true)) (comparedT_so (u := meetU u w2 21 q u.th.left u.th.batch u.th.kids tp) (t := q) (so := 22) (no := 24) (show lineAt u.c q ≠ -1 by omega) (w2t.trans hxo))).trans ?_
      rw [hw3]
      rfl
    have g3 := @meetU_fit u hF w3 tp (lw3.trans lw) nw3 tn tl 22 q u.th.left u.th.batch u.th.kids (by omega) (by omega)
    have st3 : F_collide_Step (meetU u w3 22 q u.th.left u.th.batch u.th.kids tp) = some (meetU u w3 25 q u.th.left (u.th.batch ++ u.m.boxes.getD q.toNat []) (u.th.kids ++ [⟨q, u.th.batch.length⟩]) tp, true) := by
      rw [cstep22 g3 rfl]
      unfold absorbT
      rw [if_neg (show ¬ ((meetU u w3 22 q u.th.left u.th.batch u.th.kids tp).th.who < 0 ∨ (meetU u w3 22 q u.th.left u.th.batch u.th.kids tp).th.who ≥ ((meetU u w3 22 q u.th.left u.th.batch u.th.kids tp).m.boxes.length : Int)) from (show ¬ (q < 0 ∨ q ≥ (u.m.boxes.length : Int)) by omega))]
      rfl
    refine ⟨_, hin _ st2 lw3 _ st3 lw3, lw3, fun _ => ⟨rfl, ?_, ?_, rfl, rfl⟩, fun h => (h hxo).elim⟩
    · show w3.getD _ 0 = 0
      rw [hw3, getD_set_ne (by omega), hw2]
      exact getD_set_self (by omega)
    · show w3.getD _ 0 = 0
      rw [hw3]
      exact getD_set_self (by omega)
  · have st2 : F_collide_Step (meetU u w2 21 q u.th.left u.th.batch u.th.kids tp) = some (meetU u w2 24 q u.th.left u.th.batch u.th.kids tp, true) := by
      rw [cstep21 g2 rfl]
      exact congrArg (fun z => some (z, true)) (comparedT_no (u := meetU u w2 21 q u.th.left u.th.batch u.th.kids tp) (t := q) (so := 22) (no := 24) (show lineAt u.c q ≠ -1 by omega) (fun h => hxo (w2t.symm.trans h)))
    have g3 := @meetU_fit u hF w2 tp (lw2.trans lw) nw2 tn tl 24 q u.th.left u.th.batch u.th.kids (by omega) (by omega)
    obtain ⟨w3, hw3⟩ : ∃ w3, w3 = w2.set (lineAt u.c u.t).toNat (openW u) := ⟨_, rfl⟩
    have lw3 : w3.length = w.length := by rw [hw3, List.length_set, lw2]
    have st3 : F_collide_Step (meetU u w2 24 q u.th.left u.th.batch u.th.kids tp) = some (meetU u w3 23 q u.c.spin u.th.batch u.th.kids tp, true) := by
      rw [cstep24 g3 rfl, hw3]
      rfl
    refine ⟨_, hin _ st2 lw2 _ st3 lw3, lw3, fun h => (hxo h).elim, fun _ => ⟨rfl, ?_, ?_, rfl, rfl⟩⟩
    · show w3.getD _ 0 = openW u
      rw [hw3]
      exact getD_set_self (by omega)
    · show w3.getD _ 0 = x
      rw [hw3, getD_set_ne (by omega), w2t]
end

theorem pure_CollideMeets (u : Turn) (x1 : Int) (x2 : Bool) (x3 : Int) (o : (valSt celTurn).Ok u) (o1 : (valInt .u8).Ok x1) (_o2 : valBool.Ok x2) (o3 : (valInt .i64).Ok x3) : F_law15_CollideMeets u x1 x2 x3 = some true := by
  obtain ⟨b, hb, hbig⟩ := law15_big u
  obtain ⟨m, hm, hmay⟩ := law15_layered u
  simp only [F_law15_CollideMeets, C_law15_big, hb, C_law15_shown, law15_shown, C_law15_layered, hm]
  cases b with
  | true => rfl
  | false =>
  cases m with
  | false => rfl
  | true =>
  have hB := hbig rfl
  obtain ⟨hM, hL⟩ := hmay.1 rfl
  have hF := hM.fitC hB o hL
  have hl := hF.g.len
  have hi := hF.g.cfg.items
  have h2 := hF.item
  have ht := hF.g.t
  have hth := hF.g.cfg.threads
  have hwc := hF.g.cfg.width
  have hbx := hF.g.boxes
  have hbt := hB.batch
  have hkd := hB.kids
  simp only [Bool.not_true, cond_false, cond_dec]
  by_cases a1 : u.th.layer > u.c.layers
  · rw [if_pos a1]
  by_cases a2 : u.th.width < 1
  · rw [if_neg a1, if_pos a2]
  by_cases a3 : u.th.width > u.c.width
  · rw [if_neg a1, if_neg a2, if_pos a3]
  by_cases a4 : u.c.threads < 2
  · rw [if_neg a1, if_neg a2, if_neg a3, if_pos a4]
  have o3' : Num x3 := lit_ok o3
  obtain ⟨g0, g1⟩ := tmod_in (a := x1) (b := u.c.threads - 1) (u8_num o1).1 (by omega)
  rw [if_neg a1, if_neg a2, if_neg a3, if_neg a4, wrap_id (n := u.c.threads - 1) (by omega) (by omega), if_neg (by omega), if_neg (by omega), wrap_u8 o1, wrap_id (n := u.t + 1) (by omega) (by omega)]
  generalize x1.tmod (u.c.threads - 1) = g at g0 g1 ⊢
  rw [wrap_id (n := u.t + 1 + g) (by omega) (by omega), few_true (show 0 + u.m.words.length ≤ 4294967296 by omega)]
  obtain ⟨q0, q1, qt⟩ := other_thread ht.1 ht.2 g0 g1 hth.2
  generalize (u.t + 1 + g).tmod u.c.threads = q at q0 q1 qt ⊢
  simp only [cond_true, C_code_Open, code_open (i := u.th.item) (l := u.th.layer) (by omega) (by omega) (by omega) (by omega)]
  obtain ⟨_, m1, m2⟩ := lineAt_in hF.g.cfg ht.1 ht.2
  obtain ⟨_, t1, t2⟩ := lineAt_in hF.g.cfg q0 q1
  have hwl := hF.g.words
  have hlb := lines_bounds hF.g.cfg
  have M := fun x hx op oth mi th wd => meets (u := u) hF (by omega) ⟨by omega, by omega⟩ (by omega) (by omega) (fun y hy => by have := hB.box y hy; omega) q0 q1 qt x hx op oth mi th wd
  have hq := hF.g.boxLen q.toNat
  have hqb : (u.m.boxes.getD q.toNat ([] : List Entry)).length ≤ 20 := by
    rw [List.getD_eq_getElem?_getD]
    cases hb : u.m.boxes[q.toNat]? with
    | none => simp
    | some b => exact hB.box b (List.mem_of_getElem? hb)
  cases x2 with
  | false =>
    simp only [Bool.not_false, cond_true]
    by_cases hx : x3 = openW u
    · rw [beq_t hx]; rfl
    rw [beq_f hx, cond_false]
    simp only [meet_fill hF (by omega) _ _ _ _ q0 (by omega), C_ref06_Line, ref06_line hF.g.cfg, List.length_set, fillT_len, cond_false]
    rw [if_pos (by omega), if_pos (by omega), if_pos (by omega), if_pos (by omega)]
    obtain ⟨v, hv, lv, _, hv2⟩ := M x3 o3' false x3 (lineAt u.c u.t) (lineAt u.c q) (8 * (16 * u.th.item + u.th.layer + 1) + 4)
    obtain ⟨v1, v2, v3, v4, v5⟩ := hv2 hx
    have lv' : v.m.words.length = u.m.words.length := by rw [lv]; simp only [List.length_set, fillT_len]
    rw [hv]
    simp only [Bool.not_false, cond_true, v1, v2, v3, v4, v5, lv', beq_self_eq_true]
    rw [if_neg (by omega), if_neg (by omega), if_pos (by omega), if_pos (by omega), if_pos (by omega), if_pos (by omega)]
  | true =>
    simp only [Bool.not_true, cond_false]
    simp only [meet_fill hF (by omega) _ _ _ _ q0 (by omega), C_ref06_Line, ref06_line hF.g.cfg, List.length_set, fillT_len, cond_true]
    rw [if_pos (by omega), if_pos (by omega), if_pos (by omega), if_pos (by omega), if_pos (by omega), if_pos (by omega)]
    obtain ⟨v, hv, lv, hv1, _⟩ := M (8 * (16 * u.th.item + u.th.layer + 1) + 4) (openW_num hF) true x3 (lineAt u.c u.t) (lineAt u.c q) (8 * (16 * u.th.item + u.th.layer + 1) + 4)
    obtain ⟨v1, v2, v3, v4, v5⟩ := hv1 rfl
    have lv' : v.m.words.length = u.m.words.length := by rw [lv]; simp only [List.length_set, fillT_len]
    simp only [List.set_set]
    rw [hv]
    have lb : (u.th.batch ++ u.m.boxes.getD q.toNat ([] : List Entry)).length ≤ 40 := by rw [List.length_append]; omega
    have gk : (u.th.kids ++ [(⟨q, u.th.batch.length⟩ : Kid)]).getD u.th.kids.length dKid = ⟨q, u.th.batch.length⟩ := by
      rw [List.getD_eq_getElem?_getD, List.getElem?_append_right (by omega), Nat.sub_self]
      rfl
    simp only [Bool.not_true, cond_true, cond_false, v1, v2, v3, v4, v5, lv', beq_self_eq_true, C_law15_entries, law15_entries _ (show u.th.batch.length ≤ 4294967296 by omega), law15_entries _ (show (u.m.boxes.getD q.toNat ([] : List Entry)).length ≤ 4294967296 by omega),
      law15_entries _ (show (u.th.batch ++ u.m.boxes.getD q.toNat ([] : List Entry)).length ≤ 4294967296 by omega), C_ref02_Same, same_refl _ (show (u.th.batch ++ u.m.boxes.getD q.toNat ([] : List Entry)).length ≤ 4294967296 by omega), Int.toNat_natCast, gk, Bool.and_self]
    have lk : (u.th.kids ++ [(⟨q, u.th.batch.length⟩ : Kid)]).length = u.th.kids.length + 1 := by simp
    rw [lk, if_neg (by omega), if_neg (by omega), if_pos (by omega), if_pos (by omega), few_true (by omega), cond_true, if_pos (by omega), if_pos (by omega), if_pos (by omega), if_pos (by omega), wrap_id (by omega) (by omega), beq_t (by omega), cond_true, if_pos (by omega)]

end Go.Proofs.Mill
