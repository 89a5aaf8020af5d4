/- The plain law of MachineAlone. -/
import Derived.Test.YtaopdopnecognaaGreatMillQAlone3
namespace Go.Proofs.Mill
set_option linter.all false

theorem fillW_other {c : Config} {a : Nat} : ∀ (k : Nat), (∀ j : Nat, j < k → a ≠ ((j : Int) * blockOf c).toNat) → (fillW c k).getD a 0 = 0
  | 0, _ => by
    unfold fillW
    rw [List.getD_eq_getElem?_getD]
    by_cases h : a < (sizeOf c).toNat
    · rw [List.getElem?_replicate_of_lt h, Option.getD_some]
    · rw [List.getElem?_eq_none (by simp; omega)]; rfl
  | k + 1, h => by
    unfold fillW
    rw [getD_set_ne' (Ne.symm (h k (by omega)))]
    exact fillW_other k fun j hj => h j (by omega)

theorem leaf_all : ([1, 2, 3, 4].all fun d => (List.range 16).all fun (t : Nat) => match F_shape_Leaf ((d : Nat) : Int) (t : Int) with | some L => decide (1 ≤ L) && decide (L < 2 ^ d) | none => false) = true := by kernel_rfl

theorem leaf_in {c : Config} (h : CfgOK c) (hd : 1 ≤ c.depth) {t : Int} (ht : 0 ≤ t ∧ t < c.threads) : 1 ≤ leafOf c t ∧ leafOf c t ≤ nodesOf c := by
  have htt := h.threads
  have hdd := h.depth
  have key := leaf_all
  rw [List.all_eq_true] at key
  have k1 := key c.depth.toNat (by
    have : c.depth.toNat = 1 ∨ c.depth.toNat = 2 ∨ c.depth.toNat = 3 ∨ c.depth.toNat = 4 := by omega
    rcases this with e | e | e | e <;> rw [e] <;> simp)
  rw [List.all_eq_true] at k1
  have k2 := k1 t.toNat (by simp; omega)
  have e1 : ((c.depth.toNat : Nat) : Int) = c.depth := by omega
  have e2 : ((t.toNat : Nat) : Int) = t := by omega
  rw [e1, e2, leaf_eq h t] at k2
  simp only [Bool.and_eq_true, decide_eq_true_eq] at k2
  refine ⟨k2.1, ?_⟩
  have h3 := k2.2
  unfold nodesOf
  have : c.depth = 1 ∨ c.depth = 2 ∨ c.depth = 3 ∨ c.depth = 4 := by omega
  rcases this with e | e | e | e <;> rw [e] at h3 ⊢ <;> simp at h3 ⊢ <;> omega

section
variable {c : Config} {t i : Int} {op : Op} {now : Int}

theorem first_mem (h : CfgOK c) (hn : Num c.init) (ht : 0 ≤ t ∧ t < c.threads) (hi : 0 ≤ i ∧ i < c.items) : Mem1 c t i [] 0 (builtM c).words := by
  have hs := size_bounds h
  have hit := h.items
  have hb := nodes_block h
  have hnb := nodes_bounds c
  have hl := lineAt_in h ht.1 ht.2
  have zero : ∀ {it r : Int}, 0 ≤ it → it < c.items → 1 ≤ r → r < blockOf c → (fillW c c.items.toNat).getD (pl c it r).toNat 0 = 0 := fun h0 h1 r0 r1 =>
    fillW_other _ fun j hj => by
      have := pl_ne h (a := _) (b := (j : Int)) (r := _) (s := 0) ⟨h0, h1⟩ ⟨by omega, by omega⟩ ⟨by omega, r1⟩ ⟨Int.le_refl 0, by omega⟩ (by omega)
      simpa [pl] using this
  refine ⟨by show ((fillW c _).length : Int) = _; rw [fillW_length]; omega, fillW_nums hn _, fun it h0 h1 => ?_, fun it n h0 h1 n0 n1 => ?_, fun it r h0 h1 r0 r1 => .inl (zero h0 h1 (by omega) r1), ?_⟩
  · have := fillW_cell h c.items.toNat (by omega) it.toNat (by omega)
    rw [show ((it.toNat : Nat) : Int) = it by omega] at this
    show (fillW c c.items.toNat).getD (pl c it 0).toNat 0 = c.init
    simpa [pl] using this
  · rw [show (builtM c).words = fillW c c.items.toNat from rfl, zero h0 h1 n0 (by omega)]
    simp
  · refine fillW_other _ fun j hj => ?_
    have := cell_lt h (i := (j : Int)) (by omega) (by omega)
    omega

theorem first_al (h : CfgOK c) (hn : Num c.init) (hlo : Num c.lo) (hhi : Num c.hi) (ht : 0 ≤ t ∧ t < c.threads) (hi : 0 ≤ i ∧ i < c.items) (hop : Num op.v) (hnow : 0 ≤ now ∧ now ≤ 255) {tp : Tape} (htp : Num tp.at_ ∧ tp.l.length ≤ 4294967296) : Al c t i op [] 0 (firstT c t i op now tp) := by
  refine ⟨firstT_fit h hn hlo hhi ht hi hop htp, rfl, rfl, rfl, rfl, rfl, rfl, rfl, rfl, ?_, rfl, first_mem h hn ht hi⟩
  have hw := h.wait
  show ¬ (0 < (if c.wait > 0 then wrapA .i64 (now + c.wait) else 0) ∧ (if c.wait > 0 then wrapA .i64 (now + c.wait) else 0) ≤ now)
  by_cases e : c.wait > 0
  · rw [if_pos e, wrap_id (by omega) (by omega)]; omega
  · rw [if_neg e]; omega

theorem first_ends (h : CfgOK c) (hn : Num c.init) (hlo : Num c.lo) (hhi : Num c.hi) (ht : 0 ≤ t ∧ t < c.threads) (hi : 0 ≤ i ∧ i < c.items) (hop : Num op.v) (hnow : 0 ≤ now ∧ now ≤ 255) {tp : Tape} (htp : Num tp.at_ ∧ tp.l.length ≤ 4294967296) :
    EndsIn (Good c t i op) (firstT c t i op now tp) (20 + 8 * c.depth + c.layers * (20 + 2 * c.spin)) := by
  have hA := first_al (op := op) h hn hlo hhi ht hi hop hnow htp
  obtain ⟨u, hu⟩ : ∃ u, u = firstT c t i op now tp := ⟨_, rfl⟩
  have p : u.th.phase = 1 := by rw [hu]; rfl
  have hh : u.th.held = [] := by rw [hu]; rfl
  have hnode : u.th.node = leafOf c t := by rw [hu]; rfl
  rw [← hu] at hA ⊢
  have hd := h.depth
  have hly := h.layers
  have hsp := h.spin
  have hnn : 0 ≤ c.layers * (20 + 2 * c.spin) := Int.mul_nonneg (by omega) (by omega)
  have e : machineT u = startT (setW u (lineAt c t) 0) := by
    unfold machineT
    have e1 : clearT u = (startT (setW u (lineAt u.c u.t) 0), true) := by unfold clearT; rw [if_pos p]
    rw [hA.beg, if_neg (by omega), e1, if_pos rfl, hA.cE, hA.tE]
  have hm : Mem1 c t i [] 0 (u.m.words.set (lineAt c t).toNat 0) := hA.mem.lineW h ht ⟨by omega, by omega⟩
  have cE : (setW u (lineAt c t) 0).c = c := hA.cE
  unfold startT at e
  by_cases b2 : c.backend = 2 ∧ c.depth > 0
  · rw [if_pos (show (setW u (lineAt c t) 0).c.backend = 2 ∧ (setW u (lineAt c t) 0).c.depth > 0 from by rw [cE]; exact b2)] at e
    have hv := hA.next (v := { setW u (lineAt c t) 0 with th := { u.th with phase := 4 } }) ⟨rfl, rfl, rfl, rfl, rfl, rfl, rfl, rfl, rfl, rfl, .inl rfl⟩ hm (.inl rfl) hA.fit.held (fun h => by have h : (17 : Int) ≤ 4 := h; omega) hA.wd hA.fit.x
    obtain ⟨l1, l2⟩ := leaf_in h (by omega) ht
    have hnb := nodes_bounds c
    have r := ends4 (c := c) (t := t) (i := i) (op := op) 15 (leafOf c t) [] _ (by omega) l1 l2 List.Pairwise.nil (fun m hm => by cases hm) (by simp) (by omega) hv rfl hh hnode
    have hlv1 : lv (leafOf c t) ≤ 4 := by unfold lv; (repeat' split) <;> omega
    have hlv2 : 1 ≤ lv (leafOf c t) := by unfold lv; (repeat' split) <;> omega
    simp only [List.length_nil] at r
    exact (EndsIn.step hA.fit (by omega) e hA.done hA.log r (by omega)).more (by omega)
  rw [if_neg (show ¬ ((setW u (lineAt c t) 0).c.backend = 2 ∧ (setW u (lineAt c t) 0).c.depth > 0) from by rw [cE]; exact b2)] at e
  by_cases b3 : c.backend = 3 ∧ c.layers > 0
  · rw [if_pos (show (setW u (lineAt c t) 0).c.backend = 3 ∧ (setW u (lineAt c t) 0).c.layers > 0 from by rw [cE]; exact b3)] at e
    have hv := hA.next (v := { setW u (lineAt c t) 0 with th := { u.th with phase := 17, layer := 1 } }) ⟨rfl, rfl, rfl, rfl, rfl, rfl, rfl, rfl, rfl, rfl, .inl rfl⟩ hm (.inl rfl) hA.fit.held (fun _ => ⟨by show (1 : Int) ≤ 1; omega, by show (1 : Int) ≤ 3; omega⟩) hA.wd hA.fit.x
    have r := ends17 (c := c) (t := t) (i := i) (op := op) (c.layers - 1).toNat 1 _ (by omega) (by omega) rfl hv rfl rfl hh
    have e4 : (((c.layers - 1).toNat : Nat) : Int) + 1 = c.layers := by omega
    rw [e4] at r
    have e5 : c.layers * (20 + 2 * c.spin) = (6 + c.spin) * c.layers + (14 + c.spin) * c.layers := by rw [Int.mul_comm, ← Int.add_mul]; congr 1; omega
    have e6 : 0 ≤ (14 + c.spin) * c.layers := Int.mul_nonneg (by omega) (by omega)
    have e7 : 0 ≤ (6 + c.spin) * c.layers := Int.mul_nonneg (by omega) (by omega)
    exact (EndsIn.step hA.fit (by omega) e hA.done hA.log r (by omega)).more (by omega)
  · rw [if_neg (show ¬ ((setW u (lineAt c t) 0).c.backend = 3 ∧ (setW u (lineAt c t) 0).c.layers > 0) from by rw [cE]; exact b3)] at e
    have hv := hA.next (v := { setW u (lineAt c t) 0 with th := { u.th with phase := 2 } }) ⟨rfl, rfl, rfl, rfl, rfl, rfl, rfl, rfl, rfl, rfl, .inl rfl⟩ hm (.inl rfl) hA.fit.held (fun h => by have h : (17 : Int) ≤ 2 := h; omega) hA.wd hA.fit.x
    exact (EndsIn.step hA.fit (by omega) e hA.done hA.log (ends2 hv rfl) (by omega)).more (by omega)

theorem ref06_cell (h : CfgOK c) (k : Int) : F_ref06_Cell c k = some (cellAt c k) := by
  unfold F_ref06_Cell cellAt
  simp only [cond_dec]
  by_cases h1 : k < 0
  · rw [if_pos h1, if_pos (.inl h1)]
  · rw [if_neg h1]
    by_cases h2 : k ≥ c.items
    · rw [if_pos h2, if_pos (.inr h2)]
    · rw [if_neg h2, if_neg (fun h => h.elim h1 h2)]
      simp only [C_ref06_block, ref06_block h]
      have := mul_item h (i := k) (by omega) (by omega)
      have := lines_bounds h
      rw [wrap_id (by omega) (by omega)]

end

theorem ref01_may (op : Op) (b : Bool) : ∃ q, F_ref01_May op b = some q := by
  unfold F_ref01_May
  repeat' split
  all_goals first | exact ⟨_, rfl⟩ | (cases b <;> simp only [cond_true, cond_false] <;> (generalize (op.tag == (8 : Int)) = a1; generalize (op.tag == (9 : Int)) = a2; generalize decide (op.tag ≥ (1 : Int)) = a3; cases a1 <;> cases a2 <;> cases a3 <;> exact ⟨_, rfl⟩))

end Go.Proofs.Mill
