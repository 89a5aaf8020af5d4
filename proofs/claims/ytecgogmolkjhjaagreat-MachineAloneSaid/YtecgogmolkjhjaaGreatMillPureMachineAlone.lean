/- The plain law of MachineAlone. -/
import Derived.Test.YtecgogmolkjhjaaGreatMillPAlone3
namespace Go.Proofs.Mill
set_option linter.all false

theorem fillW_other {c : Config} {a : Nat} : ∀ (k : Nat), (∀ j : Nat, j < k → a ≠ ((j : Int) * blockOf c).toNat) → (fillW c k).getD a 0 = 0
  | 0, _ => by
    unfold fillW
    rw [List.getD_eq_getElem?_getD]
    by_cases h : a < (sizeOf c).toNat
    · rw [List.getElem?_replicate_of_lt h, Option.getD_some]
    · rw [List.getElem?_eq_none (by simp; omega)]; rfl
  | k + 1, h => by
    unfold fillW
    rw [getD_set_ne' (Ne.symm (h k (by omega)))]
    exact fillW_other k fun j hj => h j (by omega)

theorem leaf_all : ([1, 2, 3, 4].all fun d => (List.range 16).all fun (t : Nat) => match F_shape_Leaf ((d : Nat) : Int) (t : Int) with | some L => decide (1 ≤ L) && decide (L < 2 ^ d) | none => false) = true := by kernel_rfl

theorem leaf_in {c : Config} (h : CfgOK c) (hd : 1 ≤ c.depth) {t : Int} (ht : 0 ≤ t ∧ t < c.threads) : 1 ≤ leafOf c t ∧ leafOf c t ≤ nodesOf c := by
  have htt := h.threads
  have hdd := h.depth
  have key := leaf_all
  rw [List.all_eq_true] at key
  have k1 := key c.depth.toNat (by
    have : c.depth.toNat = 1 ∨ c.depth.toNat = 2 ∨ c.depth.toNat = 3 ∨ c.depth.toNat = 4 := by omega
    rcases this with e | e | e | e <;> rw [e] <;> simp)
  rw [List.all_eq_true] at k1
  have k2 := k1 t.toNat (by simp; omega)
  have e1 : ((c.depth.toNat : Nat) : Int) = c.depth := by omega
  have e2 : ((t.toNat : Nat) : Int) = t := by omega
  rw [e1, e2, leaf_eq h t] at k2
  simp only [Bool.and_eq_true, decide_eq_true_eq] at k2
  refine ⟨k2.1, ?_⟩
  have h3 := k2.2
  unfold nodesOf
  have : c.depth = 1 ∨ c.depth = 2 ∨ c.depth = 3 ∨ c.depth = 4 := by omega
  rcases this with e | e | e | e <;> rw [e] at h3 ⊢ <;> simp at h3 ⊢ <;> omega

section
variable {c : Config} {t i : Int} {op : Op} {now : Int}

theorem first_mem (h : CfgOK c) (hn : Num c.init) (ht : 0 ≤ t ∧ t < c.threads) (hi : 0 ≤ i ∧ i < c.items) : Mem1 c t i [] 0 (builtM c).words := by
  have hs := size_bounds h
  have hit := h.items
  have hb := nodes_block h
  have hnb := nodes_bounds c
  have hl := lineAt_in h ht.1 ht.2
  have zero : ∀ {it r : Int}, 0 ≤ it → it < c.items → 1 ≤ r → r < blockOf c → (fillW c c.items.toNat).getD (pl c it r).toNat 0 = 0 := fun h0 h1 r0 r1 =>
    fillW_other _ fun j hj => by
      have := pl_ne h (a := _) (b := (j : Int)) (r := _) (s := 0) ⟨h0, h1⟩ ⟨by omega, by omega⟩ ⟨by omega, r1⟩ ⟨Int.le_refl 0, by omega⟩ (by omega)
      simpa [pl] using this
  refine ⟨by show ((fillW c _).length : Int) = _; rw [fillW_length]; omega, fillW_nums hn _, fun it h0 h1 => ?_, fun it n h0 h1 n0 n1 => ?_, fun it r h0 h1 r0 r1 => .inl (zero h0 h1 (by omega) r1), ?_⟩
  · have := fillW_cell h c.items.toNat (by omega) it.toNat (by omega)
    rw [show ((it.toNat : Nat) : Int) = it by omega] at this
    show (fillW c c.items.toNat).getD (pl c it 0).toNat 0 = c.init
    simpa [pl] using this
  · rw [show (builtM c).words = fillW c c.items.toNat from rfl, zero h0 h1 n0 (by omega)]
    simp
  · refine fillW_other _ fun j hj => ?_
    have := cell_lt h (i := (j : Int)) (by omega) (by omega)
    omega

theorem first_al (h : CfgOK c) (hn : Num c.init) (hlo : Num c.lo) (hhi : Num c.hi) (ht : 0 ≤ t ∧ t < c.threads) (hi : 0 ≤ i ∧ i < c.items) (hop : Num op.v) (hnow : 0 ≤ now ∧ now ≤ 255) : Al c t i op [] 0 (firstT c t i op now) := by
  refine ⟨firstT_fit h hn hlo hhi ht hi hop, rfl, rfl, rfl, rfl, rfl, rfl, rfl, rfl, ?_, rfl, first_mem h hn ht hi⟩
  have hw := h.wait
  show ¬ (0 < (if c.wait > 0 then wrapA .i64 (now + c.wait) else 0) ∧ (if c.wait > 0 then wrapA .i64 (now + c.wait) else 0) ≤ now)
  by_cases e : c.wait > 0
  · rw [if_pos e, wrap_id (by omega) (by omega)]; omega
  · rw [if_neg e]; omega

theorem first_ends (h : CfgOK c) (hn : Num c.init) (hlo : Num c.lo) (hhi : Num c.hi) (ht : 0 ≤ t ∧ t < c.threads) (hi : 0 ≤ i ∧ i < c.items) (hop : Num op.v) (hnow : 0 ≤ now ∧ now ≤ 255) :
    EndsIn (Good c t i op) (firstT c t i op now) (20 + 8 * c.depth + c.layers * (20 + 2 * c.spin)) := by
  have hA := first_al (op := op) h hn hlo hhi ht hi hop hnow
  obtain ⟨u, hu⟩ : ∃ u, u = firstT c t i op now := ⟨_, rfl⟩
  have p : u.th.phase = 1 := by rw [hu]; rfl
  have hh : u.th.held = [] := by rw [hu]; rfl
  have hnode : u.th.node = leafOf c t := by rw [hu]; rfl
  rw [← hu] at hA ⊢
  have hd := h.depth
  have hly := h.layers
  have hsp := h.spin
  have hnn : 0 ≤ c.layers * (20 + 2 * c.spin) := Int.mul_nonneg (by omega) (by omega)
  have e : machineT u = startT (setW u (lineAt c t) 0) := by
    unfold machineT
    have e1 : clearT u = (startT (setW u (lineAt u.c u.t) 0), true) := by unfold clearT; rw [if_pos p]
    rw [hA.beg, if_neg (by omega), e1, if_pos rfl, hA.cE, hA.tE]
  have hm : Mem1 c t i [] 0 (u.m.words.set (lineAt c t).toNat 0) := hA.mem.lineW h ht ⟨by omega, by omega⟩
  have cE : (setW u (lineAt c t) 0).c = c := hA.cE
  unfold startT at e
  by_cases b2 : c.backend = 2 ∧ c.depth > 0
  · rw [if_pos (show (setW u (lineAt c t) 0).c.backend = 2 ∧ (setW u (lineAt c t) 0).c.depth > 0 from by rw [cE]; exact b2)] at e
    have hv := hA.next (v := { setW u (lineAt c t) 0 with th := { u.th with phase := 4 } }) ⟨rfl, rfl, rfl, rfl, rfl, rfl, rfl, rfl, rfl, rfl, rfl⟩ hm (.inl rfl) hA.fit.held (fun h => by have h : (17 : Int) ≤ 4 := h; omega) hA.fit.width hA.fit.x
    obtain ⟨l1, l2⟩ := leaf_in h (by omega) ht
    have hnb := nodes_bounds c
    have r := ends4 (c := c) (t := t) (i := i) (op := op) 15 (leafOf c t) [] _ (by omega) l1 l2 List.Pairwise.nil (fun m hm => by cases hm) (by simp) (by omega) hv rfl hh hnode
    have hlv1 : lv (leafOf c t) ≤ 4 := by unfold lv; (repeat' split) <;> omega
    have hlv2 : 1 ≤ lv (leafOf c t) := by unfold lv; (repeat' split) <;> omega
    simp only [List.length_nil] at r
    exact (EndsIn.step hA.fit (by omega) e hA.done r (by omega)).more (by omega)
  rw [if_neg (show ¬ ((setW u (lineAt c t) 0).c.backend = 2 ∧ (setW u (lineAt c t) 0).c.depth > 0) from by rw [cE]; exact b2)] at e
  by_cases b3 : c.backend = 3 ∧ c.layers > 0
  · rw [if_pos (show (setW u (lineAt c t) 0).c.backend = 3 ∧ (setW u (lineAt c t) 0).c.layers > 0 from by rw [cE]; exact b3)] at e
    have hv := hA.next (v := { setW u (lineAt c t) 0 with th := { u.th with phase := 17, layer := 1 } }) ⟨rfl, rfl, rfl, rfl, rfl, rfl, rfl, rfl, rfl, rfl, rfl⟩ hm (.inl rfl) hA.fit.held (fun _ => ⟨by show (1 : Int) ≤ 1; omega, by show (1 : Int) ≤ 3; omega⟩) hA.fit.width hA.fit.x
    have r := ends17 (c := c) (t := t) (i := i) (op := op) (c.layers - 1).toNat 1 _ (by omega) (by omega) rfl hv rfl rfl hh
    have e4 : (((c.layers - 1).toNat : Nat) : Int) + 1 = c.layers := by omega
    rw [e4] at r
    have e5 : c.layers * (20 + 2 * c.spin) = (6 + c.spin) * c.layers + (14 + c.spin) * c.layers := by rw [Int.mul_comm, ← Int.add_mul]; congr 1; omega
    have e6 : 0 ≤ (14 + c.spin) * c.layers := Int.mul_nonneg (by omega) (by omega)
    have e7 : 0 ≤ (6 + c.spin) * c.layers := Int.mul_nonneg (by omega) (by omega)
    exact (EndsIn.step hA.fit (by omega) e hA.done r (by omega)).more (by omega)
  · rw [if_neg (show ¬ ((setW u (lineAt c t) 0).c.backend = 3 ∧ (setW u (lineAt c t) 0).c.layers > 0) from by rw [cE]; exact b3)] at e
    have hv := hA.next (v := { setW u (lineAt c t) 0 with th := { u.th with phase := 2 } }) ⟨rfl, rfl, rfl, rfl, rfl, rfl, rfl, rfl, rfl, rfl, rfl⟩ hm (.inl rfl) hA.fit.held (fun h => by have h : (17 : Int) ≤ 2 := h; omega) hA.fit.width hA.fit.x
    exact (EndsIn.step hA.fit (by omega) e hA.done (ends2 hv rfl) (by omega)).more (by omega)

theorem ref06_cell (h : CfgOK c) (k : Int) : F_ref06_Cell c k = some (cellAt c k) := by
  unfold F_ref06_Cell cellAt
  simp only [cond_dec]
  by_cases h1 : k < 0
  · rw [if_pos h1, if_pos (.inl h1)]
  · rw [if_neg h1]
    by_cases h2 : k ≥ c.items
    · rw [if_pos h2, if_pos (.inr h2)]
    · rw [if_neg h2, if_neg (fun h => h.elim h1 h2)]
      simp only [C_ref06_block, ref06_block h]
      have := mul_item h (i := k) (by omega) (by omega)
      have := lines_bounds h
      rw [wrap_id (by omega) (by omega)]

/-- No node is held. -/
theorem nodes_loop (h : CfgOK c) {v : Turn} (hg : Good c t i op v) {it y : Int} (h0 : 0 ≤ it) (h1 : it < c.items) :
    W_law16_MachineAlone_20 (c, c, t, i, v, y, it, 1) = some (.inl (c, c, t, i, v, y, it)) := by
  have hnb := nodes_bounds c
  have hb := nodes_block h
  have h2 := whileM_for (step := T_law16_MachineAlone_20) (fun k => (c, c, t, i, v, y, it, (k : Int) + 1)) (nodesOf c).toNat (y := .inl (c, c, t, i, v, y, it)) (fun k hk => ?_) ?_
  · exact h2
  · show S_law16_MachineAlone_20 _ _ _ _ _ _ _ _ = _
    unfold S_law16_MachineAlone_20
    simp only [C_ref06_Nodes, ref06_nodes h, C_ref06_Node, ref06_node h, cond_dec]
    have hp := pl_bounds h h0 h1 (r := (k : Int) + 1) (by omega) (by omega)
    have hlen := hg.len
    rw [if_pos (by omega), nodeAt_pl ⟨h0, h1⟩ (by omega) (by omega), if_pos hp.1, if_pos (by omega), bne_f (hg.nodes it _ h0 h1 (by omega) (by omega)), wrap_id (by omega) (by omega)]
    rfl
  · show S_law16_MachineAlone_20 _ _ _ _ _ _ _ _ = _
    unfold S_law16_MachineAlone_20
    simp only [C_ref06_Nodes, ref06_nodes h, cond_dec]
    rw [if_neg (by omega)]

theorem items_loop (h : CfgOK c) {v : Turn} (hg : Good c t i op v) : W_law16_MachineAlone_12 (c, c, t, i, v, (App op c.init c.lo c.hi).1, 0) = some (.inl (c, t, v)) := by
  have hit := h.items
  have h2 := whileM_for (step := T_law16_MachineAlone_12) (fun k => (c, c, t, i, v, (App op c.init c.lo c.hi).1, (k : Int))) c.items.toNat (y := .inl (c, t, v)) (fun k hk => ?_) ?_
  · exact h2
  · show S_law16_MachineAlone_12 _ _ _ _ _ _ _ = _
    unfold S_law16_MachineAlone_12
    have hc2 := cell_lt h (i := (k : Int)) (by omega) (by omega)
    have hcell : cellAt c (k : Int) = (k : Int) * blockOf c := by unfold cellAt; rw [if_neg (by omega)]
    have hw := hg.cells (k : Int) (by omega) (by omega)
    have hlen := hg.len
    have hpl : pl c (k : Int) 0 = (k : Int) * blockOf c := by simp [pl]
    rw [hpl] at hw
    simp only [cond_dec, C_ref06_Cell, ref06_cell h, hcell]
    rw [if_pos (by omega)]
    have hn := nodes_loop h hg (it := (k : Int)) (y := (App op c.init c.lo c.hi).1) (by omega) (by omega)
    by_cases e : (k : Int) = i
    · rw [beq_t e]
      rw [if_pos e] at hw
      simp only [cond_true]
      rw [if_pos hc2.1, if_pos (by omega), bne_f hw, hn]
      simp only [cond_false]
      rw [wrap_id (by omega) (by omega)]
      rfl
    · rw [beq_f e]
      rw [if_neg e] at hw
      simp only [cond_false]
      rw [if_pos hc2.1, if_pos (by omega), bne_f hw, hn]
      simp only [cond_false]
      rw [wrap_id (by omega) (by omega)]
      rfl
  · show S_law16_MachineAlone_12 _ _ _ _ _ _ _ = _
    unfold S_law16_MachineAlone_12
    simp only [cond_dec]
    rw [if_neg (by omega)]

end

theorem ref01_may (op : Op) (b : Bool) : ∃ q, F_ref01_May op b = some q := by
  unfold F_ref01_May
  repeat' split
  all_goals first | exact ⟨_, rfl⟩ | (cases b <;> simp only [cond_true, cond_false] <;> (generalize (op.tag == (8 : Int)) = a1; generalize (op.tag == (9 : Int)) = a2; generalize decide (op.tag ≥ (1 : Int)) = a3; cases a1 <;> cases a2 <;> cases a3 <;> exact ⟨_, rfl⟩))

theorem pure_MachineAlone (c : Config) (x1 x2 : Int) (op : Op) (x4 : Int) (o0 : (valSt celConfig).Ok c) (o1 : (valInt .u8).Ok x1) (o2 : (valInt .u8).Ok x2) (o3 : (valSt celOp).Ok op) (o4 : (valInt .u8).Ok x4) : F_law16_MachineAlone c x1 x2 op x4 = some true := by
  obtain ⟨e, he, hE⟩ := check_some c
  obtain ⟨q, hq⟩ := ref01_may op c.bounded
  unfold F_law16_MachineAlone
  simp only [C_ref05_Check, he, C_law16_shown, law16_shown, C_ref01_May, hq]
  by_cases e0 : e ≠ 0
  · rw [bne_t e0]; rfl
  have e0 : e = 0 := Classical.not_not.1 e0
  rw [bne_f e0]
  cases q with
  | false => rfl
  | true =>
  have hC := hE.1 e0
  have ht := hC.threads
  have hi := hC.items
  obtain ⟨n1, n2, n3⟩ := conf_nums o0
  have hop := op_num o3
  have u1 := u8_num o1
  have u2 := u8_num o2
  have u4 := u8_num o4
  have k1 := tmod_in (a := x1) (b := c.threads) u1.1 ht.1
  have k2 := tmod_in (a := x2) (b := c.items) u2.1 hi.1
  simp only [Bool.not_true, cond_false, cond_dec, C_ref01_Apply, ref01_apply, wrap_u8 o1, wrap_u8 o2, wrap_u8 o4]
  rw [if_neg (show ¬ c.threads = 0 by omega), if_neg (show ¬ c.items = 0 by omega)]
  obtain ⟨t, hteq⟩ : ∃ t, t = x1.tmod c.threads := ⟨_, rfl⟩
  obtain ⟨i, hieq⟩ : ∃ i, i = x2.tmod c.items := ⟨_, rfl⟩
  rw [← hteq] at k1 ⊢
  rw [← hieq] at k2 ⊢
  have e5 : C_arena_Build c = some (builtM c) := arena_build hC
  have e6 : ∀ th, C_thread_Begin (c, t, th, i, op, x4) = some (begunT c t i op x4 th.width) := fun th => thread_begin hC t th i op x4
  have hd := hC.depth
  have hly := hC.layers
  have hsp := hC.spin
  have hb1 : 0 ≤ c.layers * (20 + 2 * c.spin) ∧ c.layers * (20 + 2 * c.spin) ≤ 180 := ⟨Int.mul_nonneg (by omega) (by omega), by
    have h1 : c.layers * (20 + 2 * c.spin) ≤ 3 * (20 + 2 * c.spin) := Int.mul_le_mul_of_nonneg_right (by omega) (by omega)
    omega⟩
  have e7 : C_config_Steps c = some (20 + 8 * c.depth + c.layers * (20 + 2 * c.spin)) := by
    show F_config_Steps c = _
    unfold F_config_Steps
    rw [wrap_id (n := (8 : Int) * c.depth) (by omega) (by omega), wrap_id (n := (2 : Int) * c.spin) (by omega) (by omega), wrap_id (n := 20 + 2 * c.spin) (by omega) (by omega), wrap_id (n := c.layers * (20 + 2 * c.spin)) (by omega) (by omega),
      wrap_id (n := 20 + 8 * c.depth) (by omega) (by omega), wrap_id (by omega) (by omega)]
  simp only [e5, C_thread_New, F_thread_New, e6, e7, C_machine_Solo]
  have e8 : (⟨c, t, x4, builtM c, begunT c t i op x4 1, ⟨[], 0⟩, [], false⟩ : Turn) = firstT c t i op x4 := rfl
  rw [e8]
  obtain ⟨v, hv, hg⟩ := first_ends (op := op) (now := x4) hC n1 n2 n3 k1 k2 hop u4
  rw [hv _ (Int.le_refl _) (by omega)]
  have hlog := hg.log
  have hl := lineAt_in hC k1.1 k1.2
  have hlen := hg.len
  simp only [hg.done, C_thread_Busy, F_thread_Busy, hg.idle, hg.x, C_ref06_Size, ref06_size hC, hlog, bne_self_eq_false, Bool.not_true, cond_false]
  rw [bne_f hlen]
  have hlin : lineAt c t = linesOf c + 2 * t := hl.1
  have hsz := size_bounds hC
  have hlb := lines_bounds hC
  simp only [cond_false, List.length_singleton, items_loop hC hg, C_ref06_Line, ref06_line hC]
  rw [if_pos (show (0 : Int) ≤ lineAt c t by omega), if_pos (show lineAt c t < (v.m.words.length : Int) by omega), beq_t hg.line]
  simp
end Go.Proofs.Mill
