/- The plain law of ClimbAlone. -/
import Derived.Test.YtcokmmhkajmkhaaMillPClimb2
namespace Go.Proofs.Mill

/-- The nodes of a way up. -/
def nodeJ (L : Int) : Nat → Int
  | 0 => L
  | j + 1 => nodeJ L j / 2
def pathJ (L : Int) : Nat → List Int
  | 0 => []
  | j + 1 => pathJ L j ++ [nodeJ L j]

theorem pathJ_len (L : Int) (j : Nat) : (pathJ L j).length = j := by
  induction j with
  | zero => rfl
  | succ j ih => simp [pathJ, ih]

theorem pathJ_getD (L : Int) (j i : Nat) (h : i < j) : (pathJ L j).getD i 0 = nodeJ L i := by
  induction j with
  | zero => omega
  | succ j ih =>
    by_cases e : i < j
    · rw [pathJ, List.getD_eq_getElem?_getD, List.getElem?_append_left (by rw [pathJ_len]; exact e), ← List.getD_eq_getElem?_getD, ih e]
    · have : i = j := by omega
      subst this
      rw [pathJ, List.getD_eq_getElem?_getD, List.getElem?_append_right (by rw [pathJ_len]; omega), pathJ_len, Nat.sub_self]
      rfl

/-- A leaf of a tree of that depth. -/
def LeafOK (d L : Int) : Prop := (d = 1 ∧ L = 1) ∨ (d = 2 ∧ 2 ≤ L ∧ L < 4) ∨ (d = 3 ∧ 4 ≤ L ∧ L < 8) ∨ (d = 4 ∧ 8 ≤ L ∧ L < 16)

theorem nodeJ_pos {d L : Int} (h : LeafOK d L) {j : Nat} (hj : (j : Int) < d) : 1 ≤ nodeJ L j ∧ nodeJ L j ≤ 15 ∧ nodeJ L (j + 1) < nodeJ L j := by
  have hj4 : j = 0 ∨ j = 1 ∨ j = 2 ∨ j = 3 := by unfold LeafOK at h; omega
  unfold LeafOK at h
  rcases hj4 with rfl | rfl | rfl | rfl <;> simp only [nodeJ] <;> omega
theorem nodeJ_end {d L : Int} (h : LeafOK d L) : nodeJ L d.toNat = 0 := by
  rcases h with ⟨rfl, h⟩ | ⟨rfl, h⟩ | ⟨rfl, h⟩ | ⟨rfl, h⟩ <;> simp only [Int.reduceToNat, nodeJ] <;> omega
theorem nodeJ_le {d L : Int} (h : LeafOK d L) {c : Config} (hc : c.depth = d) {j : Nat} : nodeJ L j ≤ nodesOf c := by
  have h0 : nodeJ L j ≤ L := by
    have : 0 ≤ nodeJ L j ∧ nodeJ L j ≤ L := by
      induction j with
      | zero => unfold LeafOK at h; simp only [nodeJ]; omega
      | succ j ih => simp only [nodeJ]; omega
    exact this.2
  unfold nodesOf
  rw [hc]
  unfold LeafOK at h
  repeat' split
  all_goals omega

theorem nodeJ_anti {d L : Int} (h : LeafOK d L) {i j : Nat} (hij : i < j) (hj : (j : Int) < d) : nodeJ L j < nodeJ L i := by
  induction j with
  | zero => omega
  | succ j ih =>
    have h1 := (nodeJ_pos h (j := j) (by omega)).2.2
    by_cases e : i = j
    · rw [e]; exact h1
    · have := ih (by omega) (by omega); omega

theorem ref07_leaf {d k : Int} (hd : 1 ≤ d ∧ d ≤ 4) (hk : 0 ≤ k ∧ k < 16) : ∃ L, F_ref07_Leaf d k = some L ∧ LeafOK d L := by
  have key : ∀ p : Int, (d = 1 ∧ p = 1) ∨ (d = 2 ∧ p = 2) ∨ (d = 3 ∧ p = 4) ∨ (d = 4 ∧ p = 8) → W_ref07_Leaf_5 (d, k, 1, 1) = some (k, p) → ∃ L, F_ref07_Leaf d k = some L ∧ LeafOK d L := by
    intro p hp hW
    obtain ⟨a1, a2⟩ := tmod_in (a := k.tdiv 2) (b := p) (Int.tdiv_nonneg hk.1 (by omega)) (by omega)
    have a3 : 0 ≤ k.tdiv 2 := Int.tdiv_nonneg hk.1 (by omega)
    have a4 : k.tdiv 2 ≤ 15 := by rw [Int.tdiv_eq_ediv_of_nonneg hk.1]; omega
    simp only [F_ref07_Leaf, hW, cond_dec]
    refine ⟨p + (k.tdiv 2).tmod p, ?_, ?_⟩
    · rw [if_neg (by omega), if_neg (by omega), wrap_id (n := k.tdiv 2) (by omega) (by omega), wrap_id (by omega) (by omega)]
    · unfold LeafOK; omega
  have hd4 : d = 1 ∨ d = 2 ∨ d = 3 ∨ d = 4 := by omega
  rcases hd4 with rfl | rfl | rfl | rfl
  · exact key 1 (by omega) (whileM_for (fun i => ((1 : Int), k, (2 : Int) ^ i, (1 : Int) + i)) 0 (fun i hi => by omega) rfl)
  · refine key 2 (by omega) (whileM_for (fun i => ((2 : Int), k, (2 : Int) ^ i, (1 : Int) + i)) 1 (fun i hi => ?_) rfl)
    have : i = 0 := by omega
    subst this; rfl
  · refine key 4 (by omega) (whileM_for (fun i => ((3 : Int), k, (2 : Int) ^ i, (1 : Int) + i)) 2 (fun i hi => ?_) rfl)
    have : i = 0 ∨ i = 1 := by omega
    rcases this with rfl | rfl <;> rfl
  · refine key 8 (by omega) (whileM_for (fun i => ((4 : Int), k, (2 : Int) ^ i, (1 : Int) + i)) 3 (fun i hi => ?_) rfl)
    have : i = 0 ∨ i = 1 ∨ i = 2 := by omega
    rcases this with rfl | rfl | rfl <;> rfl

theorem ref07_path {d k L : Int} (hd : 1 ≤ d ∧ d ≤ 4) (hL : F_ref07_Leaf d k = some L) (h : LeafOK d L) : F_ref07_Path d k = some (pathJ L d.toNat) := by
  have hw : W_ref07_Path_3 ([], L) = some (pathJ L d.toNat) := by
    refine whileM_for (fun j => (pathJ L j, nodeJ L j)) d.toNat (fun j hj => ?_) ?_
    · obtain ⟨h1, h2, _⟩ := nodeJ_pos h (j := j) (by omega)
      have hf : fewB ((pathJ L j).length + 1) = true := few_true (by rw [pathJ_len]; omega)
      simp only [T_ref07_Path_3, S_ref07_Path_3, cond_dec, if_pos (show nodeJ L j > 0 by omega), List.length_cons, List.length_nil, Nat.zero_add, hf, cond_true, C_ref07_Parent, ref07_parent h1 h2]
      rfl
    · simp only [T_ref07_Path_3, S_ref07_Path_3, cond_dec, if_neg (show ¬ nodeJ L d.toNat > 0 by rw [nodeJ_end h]; omega)]
  simp only [F_ref07_Path, C_ref07_Leaf, hL, hw]

/-- A new memory: its words, but those of the items, are 0. -/
theorem arena_build {c : Config} (h : CfgOK c) : ∃ m, F_arena_Build c = some m ∧ (m.words.length : Int) = sizeOf c ∧ (∀ n ∈ m.words, Num n ∨ n = c.init) ∧
    ∀ i n, 0 ≤ i → i < c.items → nodeAt c i n ≠ -1 → m.words.getD (nodeAt c i n).toNat 0 = 0 := by
  have h1 := lines_bounds h
  have h2 := h.threads
  have h3 := h.items
  have hb := block_bounds h
  have hs : sizeOf c = linesOf c + 2 * c.threads := rfl
  have e1 : F_arena_Size c = some (sizeOf c) := by
    simp only [F_arena_Size, C_arena_of, arena_of h]
    rw [wrap_id (n := 2 * c.threads) (by omega) (by omega), wrap_id (by omega) (by omega)]
    rfl
  have e2 : F_wmem_New (sizeOf c) c.threads = some ⟨List.replicate (sizeOf c).toNat 0, List.replicate c.threads.toNat []⟩ := by
    simp only [F_wmem_New, C_wmem_made_int, F_wmem_made_int, C_wmem_made_lbatch_Entry, F_wmem_made_lbatch_Entry, cond_dec, beq_self_eq_true, cond_true]
    rw [if_neg (by omega), if_neg (by omega), if_pos (by omega), if_pos (by simp only [maxElems]; omega), if_neg (by omega), if_neg (by omega), if_pos (by omega), if_pos (by simp only [maxElems]; omega)]
  have hw : ∃ y, W_arena_Build_3 (c, Memo.mk [] [], Memo.mk (List.replicate (sizeOf c).toNat 0) (List.replicate c.threads.toNat []), c.items, 0) = some y ∧
      ((y.2.words.length : Int) = sizeOf c ∧ (∀ n ∈ y.2.words, Num n ∨ n = c.init) ∧ ∀ i n, 0 ≤ i → i < c.items → nodeAt c i n ≠ -1 → y.2.words.getD (nodeAt c i n).toNat 0 = 0) := by
    refine whileM_ex (fun x => x.1 = c ∧ x.2.2.2.1 = c.items ∧ 0 ≤ x.2.2.2.2 ∧ x.2.2.2.2 ≤ c.items ∧
      ((x.2.2.1.words.length : Int) = sizeOf c ∧ (∀ n ∈ x.2.2.1.words, Num n ∨ n = c.init) ∧ ∀ i n, 0 ≤ i → i < c.items → nodeAt c i n ≠ -1 → x.2.2.1.words.getD (nodeAt c i n).toNat 0 = 0)) (fun x => (c.items - x.2.2.2.2).toNat) _ ?_ ?_
    · rintro ⟨c', m1, m2, n', j⟩ ⟨hc', hn', hj0, hj1, hl, hu, hz⟩
      simp only at hc' hn' hj0 hj1 hl hu hz
      subst hc' hn'
      simp only [T_arena_Build_3, S_arena_Build_3, cond_dec]
      by_cases hj : j < c'.items
      · have hm1 := mul_item h hj0 (by omega)
        have hm2 := mul_item h (i := j + 1) (by omega) (by omega)
        rw [Int.add_mul, Int.one_mul] at hm2
        have eC : F_arena_Cell c' j = some (j * blockOf c') := by
          simp only [F_arena_Cell, cond_dec, C_arena_of, arena_of h]
          rw [if_neg (by omega), if_neg (by omega), wrap_id (by omega) (by omega)]
        simp only [if_pos hj, C_arena_Cell, eC]
        rw [if_pos (by omega), if_pos (by omega), wrap_id (by omega) (by omega)]
        refine .inl ⟨_, rfl, ⟨rfl, rfl, by simp only; omega, by simp only; omega, by simp only [List.length_set]; exact hl, ?_, ?_⟩, by simp only; omega⟩
        · intro n hn
          rcases List.mem_or_eq_of_mem_set hn with hn | rfl
          · exact hu n hn
          · exact .inr rfl
        · intro i n hi0 hi1 hne
          obtain ⟨k1, k2, k3, k4, k5, k6, k7⟩ := nodeAt_bounds h _ _ hne
          have hnn := slots_bounds h
          have hbb : blockOf c' = 1 + nodesOf c' + c'.layers * c'.width := rfl
          have : (j * blockOf c').toNat ≠ (nodeAt c' i n).toNat := by
            by_cases hij : j ≤ i
            · have := Int.mul_le_mul_of_nonneg_right hij (show 0 ≤ blockOf c' by omega)
              omega
            · have := Int.mul_le_mul_of_nonneg_right (show i + 1 ≤ j by omega) (show 0 ≤ blockOf c' by omega)
              rw [Int.add_mul, Int.one_mul] at this
              omega
          show (m2.words.set (j * blockOf c').toNat c'.init).getD _ 0 = 0
          rw [getD_set_ne this]
          exact hz i n hi0 hi1 hne
      · rw [if_neg hj]
        exact .inr ⟨_, rfl, hl, hu, hz⟩
    · refine ⟨rfl, rfl, by simp only; omega, by simp only; omega, by simp only [List.length_replicate]; omega, fun n hn => ?_, fun i n _ _ _ => ?_⟩
      · rw [List.eq_of_mem_replicate hn]; exact .inl ⟨by omega, by omega⟩
      · show (List.replicate _ (0 : Int)).getD _ 0 = 0
        rw [List.getD_eq_getElem?_getD, List.getElem?_replicate]
        split <;> rfl
  obtain ⟨y, hy, hq⟩ := hw
  refine ⟨y.2, ?_, hq⟩
  simp only [F_arena_Build, C_arena_Size, e1, C_wmem_New, e2, hy]

theorem nodeAt_eq {c : Config} {i n : Int} (h0 : 0 ≤ i) (h1 : i < c.items) (h2 : 1 ≤ n) (h3 : n ≤ nodesOf c) : nodeAt c i n = i * blockOf c + n := by
  unfold nodeAt; rw [if_neg (by omega)]

theorem nodesOf_leaf {c : Config} {L : Int} (h : LeafOK c.depth L) {j : Nat} : nodeJ L j ≤ nodesOf c := nodeJ_le h rfl

/-- The turn of a thread that has climbed so far. -/
structure UpWay (c : Config) (k it L : Int) (j : Nat) (v : Turn) : Prop where
  cfg : v.c = c
  tt : v.t = k
  item : v.th.item = it
  node : v.th.node = nodeJ L j
  held : v.th.held = pathJ L j
  stop : v.th.stop = 0
  at_ : v.th.at_ = 0
  len : (v.m.words.length : Int) = sizeOf c
  nums : ∀ n ∈ v.m.words, Num n
  mine : ∀ i : Nat, i < j → v.m.words.getD (nodeAt c it (nodeJ L i)).toNat 0 = 8 * (k + 1) + 1
  free : ∀ i : Nat, j ≤ i → (i : Int) < c.depth → v.m.words.getD (nodeAt c it (nodeJ L i)).toNat 0 = 0

theorem node_ne {c : Config} (h : CfgOK c) {it n1 n2 : Int} (h1 : nodeAt c it n1 ≠ -1) (h2 : nodeAt c it n2 ≠ -1) (h3 : n1 ≠ n2) : (nodeAt c it n1).toNat ≠ (nodeAt c it n2).toNat := by
  have a := nodeAt_bounds h _ _ h1
  have b := nodeAt_bounds h _ _ h2
  omega

/-- Two steps higher. -/
theorem way_step {c : Config} {k it L : Int} {j : Nat} {v : Turn} (hc : CfgOK c) (hL : LeafOK c.depth L) (hk : 0 ≤ k ∧ k < c.threads) (hi : 0 ≤ it ∧ it < c.items) (h : UpWay c k it L j v) (hp : v.th.phase = 4) (hj : (j : Int) < c.depth) :
    ∃ a b, F_climb_Step v = some (a, true) ∧ F_climb_Step a = some (b, true) ∧ UpWay c k it L (j + 1) b ∧ (if (j : Int) + 1 < c.depth then b.th.phase = 4 else b.th.phase = 7) := by
  have hd := hc.depth
  have ht := hc.threads
  have hne : ∀ i : Nat, (i : Int) < c.depth → nodeAt c it (nodeJ L i) ≠ -1 := fun i hi' => by
    have h1 := nodeJ_pos hL hi'
    have h2 := nodesOf_leaf hL (j := i)
    have h3 := mul_item hc hi.1 (Int.le_of_lt hi.2)
    rw [nodeAt_eq hi.1 hi.2 h1.1 h2]; omega
  have hn : nodeOf v ≠ -1 := by
    show nodeAt v.c v.th.item v.th.node ≠ -1
    rw [h.cfg, h.item, h.node]; exact hne j hj
  have en : nodeOf v = nodeAt c it (nodeJ L j) := by show nodeAt v.c v.th.item v.th.node = _; rw [h.cfg, h.item, h.node]
  have hV : Fit v := ⟨by rw [h.cfg]; exact hc, by rw [h.tt, h.cfg]; exact hk, by rw [h.cfg]; exact h.len, h.nums, by rw [h.held, pathJ_len]; omega⟩
  have s1 := step_look hV hp hn
  have w0 : wordAt v (nodeOf v) = 0 := by show v.m.words.getD _ 0 = 0; rw [en]; exact h.free j (Nat.le_refl _) hj
  rw [w0, look_free] at s1
  have hA : Fit ({ v with th := { v.th with phase := 5 } } : Turn) := ⟨hV.cfg, hV.t, hV.words, hV.nums, hV.held⟩
  have s2 := step_take hA rfl hn
  rw [if_pos (show wordAt ({ v with th := { v.th with phase := 5 } } : Turn) (nodeOf v) = 0 from w0)] at s2
  obtain ⟨n0, n1, _⟩ := hV.node hn
  have hlt : (nodeOf v).toNat < v.m.words.length := by omega
  generalize hb : takenT _ = b at s2
  have hb' : takenT (wroteT v (nodeOf v) (8 * (k + 1) + 1)) = b := by rw [← hb, ← h.tt]
  have hw : b.m.words = v.m.words.set (nodeAt c it (nodeJ L j)).toNat (8 * (k + 1) + 1) := by rw [← hb', ← en]; unfold takenT; split <;> rfl
  refine ⟨_, b, s1, s2, ⟨?_, ?_, ?_, ?_, ?_, ?_, ?_, ?_, ?_, ?_, ?_⟩, ?_⟩
  · rw [← hb', ← h.cfg]; unfold takenT; split <;> rfl
  · rw [← hb', ← h.tt]; unfold takenT; split <;> rfl
  · rw [← hb', ← h.item]; unfold takenT; split <;> rfl
  · show b.th.node = nodeJ L j / 2
    rw [← hb', ← h.node]; unfold takenT; split <;> rfl
  · show b.th.held = pathJ L j ++ [nodeJ L j]
    rw [← hb', ← h.held, ← h.node]; unfold takenT; split <;> rfl
  · rw [← hb', ← h.stop]; unfold takenT; split <;> rfl
  · rw [← hb']; unfold takenT; split
    · exact h.at_
    · rfl
  · rw [hw, List.length_set]; exact h.len
  · rw [hw]; exact nums_set h.nums (num_small (by omega) (by omega)) _
  · intro i hij
    rw [hw]
    by_cases e : i = j
    · rw [e]
      rw [← en]; exact getD_set_self hlt
    · rw [getD_set_ne (node_ne hc (hne j hj) (hne i (by omega)) (by have := nodeJ_anti hL (i := i) (j := j) (by omega) hj; omega))]
      exact h.mine i (by omega)
  · intro i hij hid
    rw [hw, getD_set_ne (node_ne hc (hne j hj) (hne i (by omega)) (by have := nodeJ_anti hL (i := j) (j := i) (by omega) hid; omega))]
    exact h.free i (by omega) hid
  · rw [← hb']
    unfold takenT
    have en2 : (wroteT v (nodeOf v) (8 * (k + 1) + 1)).th.node = nodeJ L j := h.node
    rw [en2]
    by_cases hlast : (j : Int) + 1 < c.depth
    · rw [if_pos hlast, if_pos (show nodeJ L j / 2 > 0 by have := (nodeJ_pos hL (j := j + 1) (by omega)).1; exact this)]
    · have hjd : j + 1 = c.depth.toNat := by omega
      have hz : nodeJ L j / 2 = 0 := by have := nodeJ_end hL; rw [← hjd] at this; exact this
      rw [if_neg hlast, if_neg (by omega)]
      show (if (0 : Int) ≤ 0 ∧ (0 : Int) < ((v.th.held ++ [_]).length : Int) then (7 : Int) else _) = 7
      rw [if_pos ⟨by omega, by simp⟩]

theorem pure_ClimbAlone (c : Config) (x1 x2 : Int) (o : (valSt celConfig).Ok c) (o1 : (valInt .u8).Ok x1) (o2 : (valInt .u8).Ok x2) : F_law13_ClimbAlone c x1 x2 = some true := by
  have hinit : Num c.init := by
    have : AV.Ok (.int .i64 c.init) := o _ (by simp [valSt, celConfig, celAs, celApp, celInt, celBool])
    exact lit_ok this
  obtain ⟨e, he, hec⟩ := check_some c
  simp only [F_law13_ClimbAlone, C_ref05_Check, he, C_law13_shown, law13_shown]
  by_cases h0 : e = 0
  · have hc := hec.1 h0
    rw [bne_f h0, cond_false, cond_dec]
    by_cases hd1 : c.depth < 1
    · rw [if_pos hd1]
    rw [if_neg hd1]
    have hd := hc.depth
    have ht := hc.threads
    have hit := hc.items
    obtain ⟨k0, k1⟩ := tmod_in (a := x1) (b := c.threads) (u8_num o1).1 (by omega)
    obtain ⟨i0, i1⟩ := tmod_in (a := x2) (b := c.items) (u8_num o2).1 (by omega)
    simp only [wrap_u8 o1, wrap_u8 o2, Bool.not_true, cond_false]
    generalize x1.tmod c.threads = k at k0 k1 ⊢
    generalize x2.tmod c.items = it at i0 i1 ⊢
    obtain ⟨m, hm, hml, hmu, hmz⟩ := arena_build hc
    obtain ⟨L, hL, hLo⟩ := ref07_leaf (d := c.depth) (k := k) (by omega) (by omega)
    simp only [cond_dec, C_arena_Build, hm, C_ref07_Leaf, hL]
    rw [if_neg (by omega), if_neg (by omega)]
    have hne : ∀ i : Nat, (i : Int) < c.depth → nodeAt c it (nodeJ L i) ≠ -1 := fun i hi' => by
      have h1 := nodeJ_pos hLo hi'
      have h2 := nodesOf_leaf hLo (j := i)
      have h3 := mul_item hc i0 (Int.le_of_lt i1)
      rw [nodeAt_eq i0 i1 h1.1 h2]; omega
    have hw0 : UpWay c k it L 0 (Turn.mk c k 0 m (Thread.mk 4 it (Op.mk 0 0) [] [] [] 0 L 0 0 0 0 0 0 0 0) (Tape.mk [] 0) [] false) :=
      ⟨rfl, rfl, rfl, rfl, rfl, rfl, rfl, hml, fun n hn => (hmu n hn).elim id (fun h => h ▸ hinit), fun i hi => by omega, fun i _ hi => hmz it _ i0 i1 (hne i hi)⟩
    have hloop : ∀ r j : Nat, (j : Int) + r = c.depth → ∀ v, UpWay c k it L j v → (if (j : Int) < c.depth then v.th.phase = 4 else v.th.phase = 7) →
        ∃ v', W_law13_ClimbAlone_7 (c, c, k, v, 2 * (j : Int)) = some (.inl (c, c, k, v')) ∧ UpWay c k it L c.depth.toNat v' ∧ v'.th.phase = 7 := by
      intro r
      induction r with
      | zero =>
        intro j hj v hv hp
        rw [if_neg (by omega)] at hp
        refine ⟨v, ?_, by rw [show c.depth.toNat = j by omega]; exact hv, hp⟩
        unfold W_law13_ClimbAlone_7
        rw [whileM_eq]
        simp only [T_law13_ClimbAlone_7, S_law13_ClimbAlone_7, cond_dec]
        rw [wrap_id (by omega) (by omega), if_neg (by omega)]
      | succ r ih =>
        intro j hj v hv hp
        rw [if_pos (by omega)] at hp
        obtain ⟨a, b, s1, s2, hb, hbp⟩ := way_step hc hLo ⟨k0, k1⟩ ⟨i0, i1⟩ hv hp (by omega)
        obtain ⟨v', h1, h2, h3⟩ := ih (j + 1) (by omega) b hb (by simpa using hbp)
        refine ⟨v', ?_, h2, h3⟩
        rw [← h1]
        unfold W_law13_ClimbAlone_7
        rw [whileM_eq]
        simp only [T_law13_ClimbAlone_7, S_law13_ClimbAlone_7, cond_dec, C_climb_Step, s1]
        rw [wrap_id (n := 2 * c.depth) (by omega) (by omega), if_pos (by omega), wrap_id (n := 2 * (j : Int) + 1) (by omega) (by omega)]
        simp only [Bool.not_true, cond_false]
        conv => lhs; rw [whileM_eq]
        simp only [T_law13_ClimbAlone_7, S_law13_ClimbAlone_7, cond_dec, C_climb_Step, s2]
        rw [wrap_id (n := 2 * c.depth) (by omega) (by omega), if_pos (by omega), wrap_id (n := 2 * (j : Int) + 1 + 1) (by omega) (by omega)]
        simp only [Bool.not_true, cond_false]
        rw [show (2 * (j : Int) + 1 + 1) = 2 * ((j + 1 : Nat) : Int) by omega]
    obtain ⟨v, hv1, hv, hvp⟩ := hloop c.depth.toNat 0 (by omega) _ hw0 (by rw [if_pos (by omega)])
    rw [show (2 * ((0 : Nat) : Int)) = 0 from rfl] at hv1
    simp only [hv1]
    rw [bne_f hvp, cond_false, bne_f hv.at_, cond_false, bne_f hv.stop, cond_false]
    simp only [C_ref06_Size, ref06_size hc]
    rw [bne_f hv.len, cond_false]
    simp only [C_ref07_Path, ref07_path (d := c.depth) (k := k) ⟨by omega, by omega⟩ hL hLo, C_ref02_Ints, hv.held, ints_refl _ (show (pathJ L c.depth.toNat).length ≤ 4294967296 by rw [pathJ_len]; omega), Bool.not_true, cond_false]
    have h16 : W_law13_ClimbAlone_16 (c, k, v, 0) = some (.inl ()) := by
      refine whileM_for (fun i => (c, k, v, (i : Int))) c.depth.toNat (fun i hi => ?_) ?_
      · have hlen : ((pathJ L c.depth.toNat).length : Int) = c.depth := by rw [pathJ_len]; omega
        have hi2 : (i : Int) < c.depth := by omega
        have hnd := hne i hi2
        obtain ⟨q0, q1, _⟩ := nodeAt_bounds hc _ _ hnd
        have hll : nodeAt c it (nodeJ L i) < (v.m.words.length : Int) := by rw [hv.len]; unfold sizeOf; omega
        simp only [T_law13_ClimbAlone_16, S_law13_ClimbAlone_16, cond_dec, hlen, if_pos hi2, if_pos (Int.natCast_nonneg i), Int.toNat_natCast, hv.held, pathJ_getD L _ i hi, C_ref06_Node, hv.item, ref06_node hc, if_pos q0, if_pos hll, C_code_First, code_first (t := k) (by omega) (by omega)]
        rw [bne_f (hv.mine i hi), cond_false, wrap_id (by omega) (by omega)]
        rfl
      · have hlen : ((pathJ L c.depth.toNat).length : Int) = c.depth := by rw [pathJ_len]; omega
        simp only [T_law13_ClimbAlone_16, S_law13_ClimbAlone_16, cond_dec, hv.held, hlen]
        rw [if_neg (by omega)]
    simp only [h16]
  · rw [bne_t h0, cond_true]

end Go.Proofs.Mill
