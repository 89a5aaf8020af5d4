/- The plain law of GatherAll. -/
import Derived.Test.YtcokmmhkajmkhaaMillPGather2
set_option linter.all false
namespace Go.Proofs.Mill

theorem u8s_num {l : List Int} (h : (valLst .u8).Ok l) : ∀ x ∈ l, 0 ≤ x ∧ x ≤ 255 := by
  have h1 : AV.Ok (.lst .u8 l) := h
  intro x hx
  have := h1.2 x hx (.int .u8 x) (by simp [Ty.enc, encU8])
  cases this with
  | int h' =>
    simp [Lit.wf, IntKind.has, IntKind.min, IntKind.max, IntKind.signed, IntKind.bits] at h'
    omega

theorem wrap_small {x : Int} (h0 : 0 ≤ x) (h1 : x ≤ 255) : IntKind.i64.wrap x = x := by
  simp [IntKind.wrap, IntKind.signed, IntKind.bits]
  omega

section
variable (u : Turn) (l : List Int)

/-- Who left something at a node; all threads: nobody. -/
def qOf (i : Nat) : Int := (l.getD i 0).tmod (u.c.threads + 1)
def atOf (i : Nat) : Int := nodeAt u.c u.th.item (u.th.held.getD i 0)
def markOf (i : Nat) : Int := if qOf u l i = u.c.threads then 8 * (u.t + 1) + 1 else 8 * (qOf u l i + 1) + 3
def wJ : Nat → List Int
  | 0 => u.m.words
  | j + 1 => (wJ j).set (atOf u j).toNat (markOf u l j)
def wantJ : Nat → List Entry
  | 0 => u.th.batch
  | j + 1 => if qOf u l j = u.c.threads then wantJ j else wantJ j ++ u.m.boxes.getD (qOf u l j).toNat []
def stepsJ : Nat → Int
  | 0 => 0
  | j + 1 => stepsJ j + (if qOf u l j = u.c.threads then 2 else 3)
end

theorem wJ_len (u : Turn) (l : List Int) (j : Nat) : (wJ u l j).length = u.m.words.length := by
  induction j with
  | zero => rfl
  | succ j ih => show ((wJ u l j).set _ _).length = _; rw [List.length_set, ih]

theorem steps_bounds (u : Turn) (l : List Int) (j : Nat) : 0 ≤ stepsJ u l j ∧ stepsJ u l j ≤ 3 * j := by
  induction j with
  | zero => simp [stepsJ]
  | succ j ih =>
    simp only [stepsJ]
    split <;> omega

theorem want_len {u : Turn} (hB : Big u) (l : List Int) (j : Nat) : (wantJ u l j).length ≤ 20 + 20 * j := by
  induction j with
  | zero => exact hB.batch
  | succ j ih =>
    simp only [wantJ]
    split
    · omega
    · rw [List.length_append]
      have : (u.m.boxes.getD (qOf u l j).toNat ([] : List Entry)).length ≤ 20 := by
        rw [List.getD_eq_getElem?_getD]
        cases hb : u.m.boxes[(qOf u l j).toNat]? with
        | none => simp
        | some b => exact hB.box b (List.mem_of_getElem? hb)
      omega

/-- Nodes that are held, each once. -/
def Nice (u : Turn) (j : Nat) : Prop := (∀ i, i < j → atOf u i ≠ -1) ∧ ∀ i k, k < i → i < j → u.th.held.getD k 0 ≠ u.th.held.getD i 0

theorem at_ne {u : Turn} (hF : FitG u) {n i k : Nat} (h : Nice u n) (hi : i < n) (hk : k < n) (hne : i ≠ k) : (atOf u i).toNat ≠ (atOf u k).toNat := by
  have a := nodeAt_bounds hF.cfg _ _ (h.1 i hi)
  have b := nodeAt_bounds hF.cfg _ _ (h.1 k hk)
  have hd : u.th.held.getD i 0 ≠ u.th.held.getD k 0 := by
    rcases Nat.lt_or_ge i k with h1 | h1
    · exact h.2 k i h1 hk
    · exact (h.2 i k (by omega) hi).symm
  show (nodeAt _ _ _).toNat ≠ (nodeAt _ _ _).toNat
  omega

theorem q_bounds {u : Turn} (hF : FitG u) {l : List Int} (hl : ∀ x ∈ l, 0 ≤ x ∧ x ≤ 255) {i : Nat} (hi : i < l.length) : 0 ≤ qOf u l i ∧ qOf u l i ≤ u.c.threads := by
  have ht := hF.cfg.threads
  have hm : l.getD i 0 ∈ l := by
    rw [List.getD_eq_getElem?_getD, List.getElem?_eq_getElem hi, Option.getD_some]; exact List.getElem_mem hi
  have := tmod_in (a := l.getD i 0) (b := u.c.threads + 1) (hl _ hm).1 (by omega)
  exact ⟨this.1, by have := this.2; unfold qOf; omega⟩

theorem mark_num {u : Turn} (hF : FitG u) {l : List Int} (hl : ∀ x ∈ l, 0 ≤ x ∧ x ≤ 255) {i : Nat} (hi : i < l.length) : Num (markOf u l i) := by
  have := q_bounds hF hl hi
  have ht := hF.cfg.threads
  have hT := hF.t
  unfold markOf
  split
  · exact num_small (by omega) (by omega)
  · exact num_small (by omega) (by omega)

theorem wJ_nums {u : Turn} (hF : FitG u) {l : List Int} (hl : ∀ x ∈ l, 0 ≤ x ∧ x ≤ 255) : ∀ {j : Nat}, j ≤ l.length → ∀ n ∈ wJ u l j, Num n
  | 0, _ => hF.nums
  | j + 1, h => nums_set (wJ_nums hF hl (by omega)) (mark_num hF hl (by omega)) _

theorem wJ_at {u : Turn} (hF : FitG u) {l : List Int} {n : Nat} (hN : Nice u n) : ∀ {j : Nat}, j ≤ n → ∀ i, i < j → (wJ u l j).getD (atOf u i).toNat 0 = markOf u l i
  | 0, _, i, hi => by omega
  | j + 1, hj, i, hi => by
    show ((wJ u l j).set (atOf u j).toNat (markOf u l j)).getD _ 0 = _
    by_cases e : i = j
    · subst e
      have := hF.node (hN.1 i (by omega))
      exact getD_set_self (by rw [wJ_len]; show (nodeAt _ _ _).toNat < _; omega)
    · rw [getD_set_ne (at_ne hF hN (by omega) (by omega) (by omega))]
      exact wJ_at hF hN (by omega) i (by omega)

/-- The loop within: is a node held twice? -/
theorem loop12 {u : Turn} {c : Config} {l w : List Int} {want : List Entry} {s at' : Int} {i : Nat} (hi : i < u.th.held.length) (hsm : u.th.held.length ≤ 20) :
    ∃ y, W_law14_GatherAll_12 (l, u, c, w, want, s, i, at', 0) = some y ∧ (match y with
      | .inl v => v = (l, u, c, w, want, s, (i : Int), at') ∧ ∀ k, k < i → u.th.held.getD k 0 ≠ u.th.held.getD i 0
      | .inr b => b = true) := by
  refine whileM_ex (fun x => ∃ k : Nat, x = (l, u, c, w, want, s, (i : Int), at', (k : Int)) ∧ k ≤ i ∧ ∀ m, m < k → u.th.held.getD m 0 ≠ u.th.held.getD i 0) (fun x => (i - x.2.2.2.2.2.2.2.2).toNat) _ ?_ ⟨0, rfl, by omega, fun m hm => by omega⟩
  rintro _ ⟨k, rfl, hk, hd⟩
  simp only [T_law14_GatherAll_12, S_law14_GatherAll_12, cond_dec]
  by_cases h1 : (k : Int) < (i : Int)
  · rw [if_pos h1, if_pos (by omega), if_pos (by omega), if_pos (by omega), if_pos (by omega), Int.toNat_natCast, Int.toNat_natCast]
    by_cases e : u.th.held.getD k 0 = u.th.held.getD i 0
    · rw [beq_t e]
      exact .inr ⟨_, rfl, rfl⟩
    · rw [beq_f e, wrap_id (by omega) (by omega)]
      refine .inl ⟨_, rfl, ⟨k + 1, rfl, by omega, fun m hm => ?_⟩, by simp only; omega⟩
      by_cases em : m = k
      · rw [em]; exact e
      · exact hd m (by omega)
  · rw [if_neg h1]
    exact .inr ⟨_, rfl, rfl, fun m hm => hd m (by omega)⟩

/-- What lies at the nodes. -/
theorem loop8 {u : Turn} (hF : FitG u) (hB : Big u) {l : List Int} (hl : ∀ x ∈ l, 0 ≤ x ∧ x ≤ 255) (hlen : u.th.held.length ≤ l.length) (h4 : u.th.held.length ≤ 4) :
    ∃ y, W_law14_GatherAll_8 (l, u, u.c, u.m.words, u.th.batch, 0, 0) = some y ∧ (match y with
      | .inl v => v = (u, u.c, wJ u l u.th.held.length, wantJ u l u.th.held.length, stepsJ u l u.th.held.length) ∧ Nice u u.th.held.length
      | .inr b => b = true) := by
  have ht := hF.cfg.threads
  have hT := hF.t
  have hbx := hF.boxes
  have hwl := hF.len
  refine whileM_ex (fun x => ∃ j : Nat, x = (l, u, u.c, wJ u l j, wantJ u l j, stepsJ u l j, (j : Int)) ∧ j ≤ u.th.held.length ∧ Nice u j) (fun x => (u.th.held.length - x.2.2.2.2.2.2).toNat) _ ?_
    ⟨0, rfl, by omega, fun i hi => by omega, fun i k hk hi => by omega⟩
  rintro _ ⟨j, rfl, hj, hN⟩
  have hst := steps_bounds u l j
  have hwt := want_len hB l j
  simp only [T_law14_GatherAll_8, S_law14_GatherAll_8, cond_dec]
  by_cases h1 : (j : Int) < (u.th.held.length : Int)
  · obtain ⟨y, hy, hq⟩ := loop12 (u := u) (c := u.c) (l := l) (w := wJ u l j) (want := wantJ u l j) (s := stepsJ u l j) (at' := atOf u j) (i := j) (by omega) (by omega)
    have hy' : W_law14_GatherAll_12 (l, u, u.c, wJ u l j, wantJ u l j, stepsJ u l j, (j : Int), nodeAt u.c u.th.item (u.th.held.getD j 0), 0) = some y := hy
    simp only [if_pos h1, if_pos (Int.natCast_nonneg j), Int.toNat_natCast, C_ref06_Node, ref06_node hF.cfg, hy']
    cases y with
    | inr b =>
      simp only at hq
      subst hq
      exact .inr ⟨_, rfl, rfl⟩
    | inl v =>
      obtain ⟨rfl, hd⟩ := hq
      simp only
      by_cases hn : atOf u j = -1
      · rw [if_pos (by omega)]
        exact .inr ⟨_, rfl, rfl⟩
      have hnode := hF.node hn
      have n0 : 0 ≤ atOf u j := hnode.1
      have n1 : atOf u j < (u.m.words.length : Int) := hnode.2
      have hjl : j < l.length := by omega
      have hqb := q_bounds hF hl hjl
      have hmem : l.getD j 0 ∈ l := by
        rw [List.getD_eq_getElem?_getD, List.getElem?_eq_getElem hjl, Option.getD_some]; exact List.getElem_mem hjl
      have hN' : Nice u (j + 1) := by
        refine ⟨fun i hi => ?_, fun i k hk hi => ?_⟩
        · by_cases e : i = j
          · rw [e]; exact hn
          · exact hN.1 i (by omega)
        · by_cases e : i = j
          · rw [e]; exact hd k (by omega)
          · exact hN.2 i k hk (by omega)
      rw [if_neg (by omega), if_pos (Int.natCast_nonneg j), if_pos (by omega), wrap_id (n := u.c.threads + 1) (by omega) (by omega), if_neg (by omega), Int.toNat_natCast, wrap_small (hl _ hmem).1 (hl _ hmem).2,
        show (l.getD j 0).tmod (u.c.threads + 1) = qOf u l j from rfl, wJ_len, wrap_id (n := (j : Int) + 1) (by omega) (by omega)]
      by_cases e : qOf u l j = u.c.threads
      · rw [beq_t e, cond_true]
        simp only [C_code_First, code_first (t := u.t) (by omega) (by omega)]
        rw [if_pos n0, if_pos n1, wrap_id (n := stepsJ u l j + 2) (by omega) (by omega)]
        refine .inl ⟨_, rfl, ⟨j + 1, ?_, by omega, hN'⟩, by simp only; omega⟩
        simp only [wJ, wantJ, stepsJ, markOf, if_pos e]
        rfl
      · rw [beq_f e, cond_false]
        simp only [C_code_Deposited, code_deposited (t := qOf u l j) (by omega) (by omega)]
        have hbl : (u.m.boxes.getD (qOf u l j).toNat ([] : List Entry)).length ≤ 20 := by
          rw [List.getD_eq_getElem?_getD]
          cases hb : u.m.boxes[(qOf u l j).toNat]? with
          | none => simp
          | some b => exact hB.box b (List.mem_of_getElem? hb)
        rw [if_pos n0, if_pos n1, if_pos hqb.1, if_pos (by omega)]
        simp only [C_law14_entries, law14_entries _ (show (u.m.boxes.getD (qOf u l j).toNat ([] : List Entry)).length ≤ 4294967296 by omega)]
        rw [few_true (by omega), cond_true, wrap_id (n := stepsJ u l j + 3) (by omega) (by omega)]
        refine .inl ⟨_, rfl, ⟨j + 1, ?_, by omega, hN'⟩, by simp only; omega⟩
        simp only [wJ, wantJ, stepsJ, markOf, if_neg e]
        rfl
  · rw [if_neg h1]
    have : j = u.th.held.length := by omega
    subst this
    exact .inr ⟨_, rfl, rfl, hN⟩

/-- A turn that has gathered so far. -/
structure Gone (u : Turn) (l : List Int) (j : Nat) (v : Turn) : Prop where
  cfg : v.c = u.c
  tt : v.t = u.t
  item : v.th.item = u.th.item
  held : v.th.held = u.th.held
  stop : v.th.stop = u.th.stop
  at_ : v.th.at_ = j
  boxes : v.m.boxes = u.m.boxes
  batch : v.th.batch = wantJ u l j
  kids : v.th.kids.length ≤ 20 + j
  len : v.m.words.length = u.m.words.length
  nums : ∀ n ∈ v.m.words, Num n
  past : ∀ i, i < j → v.m.words.getD (atOf u i).toNat 0 = 0
  next : ∀ i, j ≤ i → i < u.th.held.length → v.m.words.getD (atOf u i).toNat 0 = markOf u l i
  phase : if j < u.th.held.length then v.th.phase = 7 else (j = 0 ∨ v.th.phase = if u.th.stop > 0 then 11 else 2)

theorem kind_deposited {t : Int} (h0 : 0 ≤ t) (h1 : t < 16) : kindOf (8 * (t + 1) + 3) = 3 := by
  unfold kindOf
  rw [if_neg (by omega), if_neg (by omega), if_pos (by omega)]; omega

/-- So many steps. -/
inductive StepsTo : Nat → Turn → Turn → Prop
  | here (v : Turn) : StepsTo 0 v v
  | more (n : Nat) (v x y : Turn) (h : F_gather_Step v = some (x, true)) (k : StepsTo n x y) : StepsTo (n + 1) v y

theorem node_steps {u : Turn} (hF : FitG u) (hB : Big u) {l : List Int} (hl : ∀ x ∈ l, 0 ≤ x ∧ x ≤ 255) (hlen : u.th.held.length ≤ l.length) (h4 : u.th.held.length ≤ 4) (hN : Nice u u.th.held.length)
    {j : Nat} (hj : j < u.th.held.length) {v : Turn} (h : Gone u l j v) : ∃ y, StepsTo (if qOf u l j = u.c.threads then 2 else 3) v y ∧ Gone u l (j + 1) y := by
  have ht := hF.cfg.threads
  have hT := hF.t
  have hbx := hF.boxes
  have hqb := q_bounds hF hl (i := j) (by omega)
  have hwt := want_len hB l j
  have hbl : (u.m.boxes.getD (qOf u l j).toNat ([] : List Entry)).length ≤ 20 := by
    rw [List.getD_eq_getElem?_getD]
    cases hb : u.m.boxes[(qOf u l j).toNat]? with
    | none => simp
    | some b => exact hB.box b (List.mem_of_getElem? hb)
  have hV : FitG v := ⟨by rw [h.cfg]; exact hF.cfg, by rw [h.cfg, h.tt]; exact hF.t, by rw [h.len, h.cfg]; exact hF.words, by rw [h.boxes, h.cfg]; exact hF.boxes, h.nums, by rw [h.batch]; omega, by have := h.kids; omega, by rw [h.boxes]; exact hF.box⟩
  have hp : v.th.phase = 7 := by have := h.phase; rw [if_pos hj] at this; exact this
  have hn : atOf u j ≠ -1 := hN.1 j hj
  have hh : heldAt v = atOf u j := by
    unfold heldAt
    rw [h.at_, h.held, if_neg (by omega), h.cfg, h.item, Int.toNat_natCast]
    rfl
  have hh1 : heldAt v ≠ -1 := by rw [hh]; exact hn
  have hw : wordAt v (heldAt v) = markOf u l j := by rw [hh]; exact h.next j (Nat.le_refl _) hj
  obtain ⟨n0, n1⟩ := hV.held hh1
  have e1 : wrapA IntKind.i64 (v.th.at_ + 1) = ((j + 1 : Nat) : Int) := by rw [h.at_, wrap_id (by omega) (by omega)]; omega
  -- the end of it
  have fin : ∀ x : Turn, x.c = v.c → x.t = v.t → x.m = v.m → x.th.item = v.th.item → x.th.held = v.th.held → x.th.stop = v.th.stop → x.th.at_ = v.th.at_ → x.th.batch = wantJ u l (j + 1) → x.th.kids.length ≤ 20 + (j + 1) →
      Gone u l (j + 1) (nextT (setW x (heldAt v) 0)) := by
    intro x c1 c2 c3 c4 c5 c6 c7 c8 c9
    have hx : (nextT (setW x (heldAt v) 0)).m.words = v.m.words.set (atOf u j).toNat 0 := by
      show x.m.words.set (heldAt v).toNat 0 = _
      rw [c3, hh]
    refine ⟨c1.trans h.cfg, c2.trans h.tt, c4.trans h.item, c5.trans h.held, c6.trans h.stop, ?_, ?_, c8, c9, by rw [hx, List.length_set]; exact h.len, by rw [hx]; exact nums_set h.nums (num_small (by omega) (by omega)) _, ?_, ?_, ?_⟩
    · show wrapA IntKind.i64 (x.th.at_ + 1) = _
      rw [c7, e1]
    · show x.m.boxes = _
      rw [c3, h.boxes]
    · intro i hi
      rw [hx]
      by_cases e : i = j
      · rw [e]
        exact getD_set_self (by rw [← hh]; omega)
      · rw [getD_set_ne (at_ne hF hN hj (by omega) (by omega))]
        exact h.past i (by omega)
    · intro i hi hi2
      rw [hx, getD_set_ne (at_ne hF hN hj hi2 (by omega))]
      exact h.next i (by omega) hi2
    · show (if j + 1 < _ then (nextT (setW x (heldAt v) 0)).th.phase = 7 else (j + 1 = 0 ∨ (nextT (setW x (heldAt v) 0)).th.phase = _))
      have ph : (nextT (setW x (heldAt v) 0)).th.phase = if 0 ≤ wrapA IntKind.i64 (x.th.at_ + 1) ∧ wrapA IntKind.i64 (x.th.at_ + 1) < (x.th.held.length : Int) then 7 else if x.th.stop > 0 then 11 else 2 := rfl
      rw [ph, c7, e1, c5, h.held, c6, h.stop]
      by_cases hlast : j + 1 < u.th.held.length
      · rw [if_pos hlast, if_pos (by omega)]
      · rw [if_neg hlast, if_neg (by omega)]
        exact .inr rfl
  by_cases e : qOf u l j = u.c.threads
  · have hm : markOf u l j = 8 * (u.t + 1) + 1 := by unfold markOf; rw [if_pos e]
    rw [if_pos e]
    have s1 := (gather_first hV hh1 (by rw [hw, hm, h.tt])).1 hp
    have hV2 : FitG ({ v with th := { v.th with phase := 8 } } : Turn) := hV.of rfl rfl rfl hV.nums rfl rfl rfl
    have s2 := (gather_first hV2 hh1 (by show wordAt v (heldAt v) = _; rw [hw, hm, ← h.tt])).2 rfl
    refine ⟨_, .more _ _ _ _ s1 (.more _ _ _ _ s2 (.here _)), fin _ rfl rfl rfl rfl rfl rfl rfl ?_ ?_⟩
    · show v.th.batch = _
      rw [h.batch]; simp only [wantJ, if_pos e]
    · show v.th.kids.length ≤ _
      have := h.kids; omega
  · have hm : markOf u l j = 8 * (qOf u l j + 1) + 3 := by unfold markOf; rw [if_neg e]
    rw [if_neg e]
    have hq16 : qOf u l j < 16 := by omega
    have s1 : F_gather_Step v = some ({ v with th := { v.th with phase := 9, who := qOf u l j } }, true) := by
      rw [gather_step hV]
      unfold gatherT
      rw [if_pos hp, if_neg hh1, hw, hm, if_neg (by omega), if_pos (kind_deposited hqb.1 hq16), show (8 * (qOf u l j + 1) + 3) / 8 - 1 = qOf u l j by omega]
    have hV2 : FitG ({ v with th := { v.th with phase := 9, who := qOf u l j } } : Turn) := hV.of rfl rfl rfl hV.nums rfl rfl rfl
    have s2 : F_gather_Step ({ v with th := { v.th with phase := 9, who := qOf u l j } } : Turn) =
        some ({ v with th := { v.th with phase := 10, who := qOf u l j, batch := v.th.batch ++ v.m.boxes.getD (qOf u l j).toNat [], kids := v.th.kids ++ [⟨qOf u l j, v.th.batch.length⟩] } }, true) := by
      rw [gather_step hV2]
      unfold gatherT
      rw [if_neg (by show ¬ (9 : Int) = 7; omega), if_neg (by show ¬ (9 : Int) = 8; omega), if_pos rfl]
      show some ((if qOf u l j < 0 ∨ qOf u l j ≥ (v.m.boxes.length : Int) then _ else _), true) = _
      rw [if_neg (by rw [h.boxes]; omega)]
      rfl
    have hV3 : FitG ({ v with th := { v.th with phase := 10, who := qOf u l j, batch := v.th.batch ++ v.m.boxes.getD (qOf u l j).toNat [], kids := v.th.kids ++ [⟨qOf u l j, v.th.batch.length⟩] } } : Turn) :=
      ⟨hV.cfg, hV.t, hV.words, hV.boxes, hV.nums, by show (v.th.batch ++ _).length ≤ _; rw [List.length_append, h.batch, h.boxes]; omega, by show (v.th.kids ++ [_]).length ≤ _; rw [List.length_append]; have := h.kids; simp; omega, hV.box⟩
    have s3 : F_gather_Step ({ v with th := { v.th with phase := 10, who := qOf u l j, batch := v.th.batch ++ v.m.boxes.getD (qOf u l j).toNat [], kids := v.th.kids ++ [⟨qOf u l j, v.th.batch.length⟩] } } : Turn) =
        some (nextT (setW ({ v with th := { v.th with phase := 10, who := qOf u l j, batch := v.th.batch ++ v.m.boxes.getD (qOf u l j).toNat [], kids := v.th.kids ++ [⟨qOf u l j, v.th.batch.length⟩] } } : Turn) (heldAt v) 0), true) := by
      rw [gather_step hV3]
      unfold gatherT
      rw [if_neg (by show ¬ (10 : Int) = 7; omega), if_neg (by show ¬ (10 : Int) = 8; omega), if_neg (by show ¬ (10 : Int) = 9; omega), if_pos rfl]
      show some ((if heldAt v = -1 then _ else _), true) = _
      rw [if_neg hh1]
      rfl
    refine ⟨_, .more _ _ _ _ s1 (.more _ _ _ _ s2 (.more _ _ _ _ s3 (.here _))), fin _ rfl rfl rfl rfl rfl rfl rfl ?_ ?_⟩
    · show v.th.batch ++ v.m.boxes.getD _ _ = _
      rw [h.batch, h.boxes]; simp only [wantJ, if_neg e]
    · show (v.th.kids ++ [_]).length ≤ _
      rw [List.length_append]; have := h.kids; simp; omega

/-- Steps, in the loop. -/
theorem loop30_steps {U : Turn} {c : Config} {w : List Int} {want : List Entry} {s : Int} : ∀ {n : Nat} {v y : Turn}, StepsTo n v y → ∀ i : Int, 0 ≤ i → i + n ≤ s → s ≤ 1000 →
    W_law14_GatherAll_30 (U, c, w, want, s, v, i) = W_law14_GatherAll_30 (U, c, w, want, s, y, i + n) := by
  intro n v y h
  induction h with
  | here v => intro i _ _ _; simp
  | more n v x y h k ih =>
    intro i h0 h1 h2
    have := ih (i + 1) (by omega) (by omega) h2
    rw [show (i + ((n + 1 : Nat) : Int)) = i + 1 + n by omega, ← this]
    conv => lhs; unfold W_law14_GatherAll_30; rw [whileM_eq]
    simp only [T_law14_GatherAll_30, S_law14_GatherAll_30, cond_dec, C_gather_Step, h]
    rw [if_pos (by omega), wrap_id (by omega) (by omega)]
    rfl

theorem pure_GatherAll (u : Turn) (l : List Int) (o : (valSt celTurn).Ok u) (o1 : (valLst .u8).Ok l) : F_law14_GatherAll u l = some true := by
  obtain ⟨b, hb, hbig⟩ := law14_big u
  obtain ⟨m, hm, hmay⟩ := law14_may u
  simp only [F_law14_GatherAll, C_law14_big, hb, C_law14_shown, law14_shown, C_law14_may, hm]
  cases b with
  | true => rfl
  | false =>
  cases m with
  | false => rfl
  | true =>
  have hB := hbig rfl
  have hM := hmay.1 rfl
  have hF := hM.fitG hB o
  have hl := u8s_num o1
  have hwl := hF.len
  have hbt := hB.batch
  simp only [Bool.not_true, cond_false, cond_dec]
  by_cases h4 : (u.th.held.length : Int) > 4
  · rw [if_pos h4]
  rw [if_neg h4]
  by_cases hlen : (l.length : Int) < (u.th.held.length : Int)
  · rw [if_pos hlen]
  rw [if_neg hlen, few_true (by omega), cond_true]
  simp only [C_law14_entries, law14_entries _ (show u.th.batch.length ≤ 4294967296 by omega)]
  obtain ⟨y, hy, hq⟩ := loop8 hF hB hl (by omega) (by omega)
  simp only [hy]
  cases y with
  | inr b => simp only at hq; rw [hq]
  | inl v =>
  obtain ⟨rfl, hN⟩ := hq
  simp only
  have hst := steps_bounds u l u.th.held.length
  -- the steps
  have hG0 : Gone u l 0 ({ u with m := { u.m with words := wJ u l u.th.held.length }, th := { u.th with phase := 7, at_ := 0 } } : Turn) :=
    ⟨rfl, rfl, rfl, rfl, rfl, rfl, rfl, rfl, by have := hB.kids; exact this, wJ_len _ _ _, wJ_nums hF hl (by omega), fun i hi => by omega, fun i _ hi => wJ_at hF hN (Nat.le_refl _) i hi, by
      split
      · rfl
      · exact .inl rfl⟩
  have hloop : ∀ r j : Nat, j + r = u.th.held.length → ∀ v, Gone u l j v → ∃ v', Gone u l u.th.held.length v' ∧ ∀ (U : Turn) (c : Config) (w : List Int) (want : List Entry),
      W_law14_GatherAll_30 (U, c, w, want, stepsJ u l u.th.held.length, v, stepsJ u l j) = some (.inl (U, c, w, want, v')) := by
    intro r
    induction r with
    | zero =>
      intro j hj v hv
      have : j = u.th.held.length := by omega
      subst this
      refine ⟨v, hv, fun U c w want => ?_⟩
      unfold W_law14_GatherAll_30
      rw [whileM_eq]
      simp only [T_law14_GatherAll_30, S_law14_GatherAll_30, cond_dec]
      rw [if_neg (by omega)]
    | succ r ih =>
      intro j hj v hv
      obtain ⟨y, hs, hy⟩ := node_steps hF hB hl (by omega) (by omega) hN (by omega) hv
      obtain ⟨v', hv', hw'⟩ := ih (j + 1) (by omega) y hy
      refine ⟨v', hv', fun U c w want => ?_⟩
      have hmono : stepsJ u l (j + 1) ≤ stepsJ u l u.th.held.length := by
        have key : ∀ k, stepsJ u l (j + 1) ≤ stepsJ u l (j + 1 + k) := by
          intro k
          induction k with
          | zero => exact Int.le_refl _
          | succ k ihk =>
            rw [show j + 1 + (k + 1) = (j + 1 + k) + 1 by omega]
            simp only [stepsJ] at ihk ⊢
            split <;> (split at ihk <;> omega)
        have := key (u.th.held.length - (j + 1))
        rw [show j + 1 + (u.th.held.length - (j + 1)) = u.th.held.length by omega] at this
        exact this
      have hsj : stepsJ u l (j + 1) = stepsJ u l j + ((if qOf u l j = u.c.threads then 2 else 3 : Nat) : Int) := by
        simp only [stepsJ]
        split <;> rfl
      have hb0 := steps_bounds u l j
      rw [loop30_steps hs (stepsJ u l j) hb0.1 (by rw [← hsj]; exact hmono) (by omega), ← hsj]
      exact hw' U c w want
  obtain ⟨v, hv, hw⟩ := hloop u.th.held.length 0 (by omega) _ hG0
  have hw := hw ({ u with m := { u.m with words := wJ u l u.th.held.length }, th := { u.th with phase := 7, at_ := 0 } } : Turn) u.c (wJ u l u.th.held.length) (wantJ u l u.th.held.length)
  rw [show stepsJ u l 0 = 0 from rfl] at hw
  simp only [hw]
  have hwt := want_len hB l u.th.held.length
  rw [bne_f (by rw [hv.len, wJ_len]), cond_false, hv.batch, if_neg (by omega)]
  simp only [law14_entries _ (show (wantJ u l u.th.held.length).length ≤ 4294967296 by omega), C_ref02_Same, same_refl _ (show (wantJ u l u.th.held.length).length ≤ 4294967296 by omega), Bool.not_true, cond_false]
  have h39 : W_law14_GatherAll_39 (({ u with m := { u.m with words := wJ u l u.th.held.length }, th := { u.th with phase := 7, at_ := 0 } } : Turn), u.c, v, 0) =
      some (.inl (({ u with m := { u.m with words := wJ u l u.th.held.length }, th := { u.th with phase := 7, at_ := 0 } } : Turn), v)) := by
    refine whileM_for (fun i => (({ u with m := { u.m with words := wJ u l u.th.held.length }, th := { u.th with phase := 7, at_ := 0 } } : Turn), u.c, v, (i : Int))) u.th.held.length (fun i hi => ?_) ?_
    · have h1 : (i : Int) < (u.th.held.length : Int) := by omega
      obtain ⟨n0, n1⟩ := hF.node (hN.1 i hi)
      have hz := hv.past i hi
      simp only [T_law14_GatherAll_39, S_law14_GatherAll_39, cond_dec, if_pos h1, if_pos (Int.natCast_nonneg i), Int.toNat_natCast, C_ref06_Node, ref06_node hF.cfg]
      rw [if_pos n0, hv.len, if_pos n1, bne_f (show v.m.words.getD (nodeAt u.c u.th.item (u.th.held.getD i 0)).toNat 0 = 0 from hz), cond_false, wrap_id (by omega) (by omega)]
      rfl
    · simp [T_law14_GatherAll_39, S_law14_GatherAll_39]
  simp only [h39]
  by_cases h0 : u.th.held.length = 0
  · rw [beq_t (by omega), cond_true]
  · rw [beq_f (by omega), cond_false]
    have hp := hv.phase
    rw [if_neg (by omega)] at hp
    rcases hp with hp | hp
    · exact (h0 hp).elim
    by_cases hs : u.th.stop > 0
    · rw [if_pos hs] at hp
      rw [beq_t hp, cond_true, if_pos hs]
    · rw [if_neg hs] at hp
      rw [beq_f (by omega), cond_false, beq_t hp, cond_true]
      simp
      omega

end Go.Proofs.Mill
