/- Whether a world is linear. -/
import Derived.Test.YtcokmmhkajmkhaaMillPHistory3
set_option linter.all false
namespace Go.Proofs.Mill

/-- A loop that asks of one after another. -/
theorem while_all {σ ρ : Type} {step : σ → Option (σ ⊕ (ρ ⊕ Bool))} (st : Nat → σ) (n : Nat) (P : Nat → Prop) {y : ρ} (h1 : ∀ i, i < n → (P i ∧ step (st i) = some (.inl (st (i + 1)))) ∨ (¬ P i ∧ step (st i) = some (.inr (.inr false)))) (h2 : step (st n) = some (.inr (.inl y))) :
    (whileM step (st 0) = some (.inl y) ∧ ∀ i, i < n → P i) ∨ (whileM step (st 0) = some (.inr false) ∧ ¬ ∀ i, i < n → P i) := by
  have key : ∀ k, k ≤ n → (Loops step (st (n - k)) (.inl y) ∧ ∀ i, n - k ≤ i → i < n → P i) ∨ (Loops step (st (n - k)) (.inr false) ∧ ¬ ∀ i, n - k ≤ i → i < n → P i) := by
    intro k
    induction k with
    | zero => intro _; exact .inl ⟨.done _ _ h2, fun i h1 h2 => by omega⟩
    | succ k ih =>
      intro hk
      have hs : n - (k + 1) + 1 = n - k := by omega
      rcases h1 (n - (k + 1)) (by omega) with ⟨p, h⟩ | ⟨p, h⟩
      · rw [hs] at h
        rcases ih (by omega) with ⟨l, q⟩ | ⟨l, q⟩
        · refine .inl ⟨.more _ _ _ h l, fun i hi hn => ?_⟩
          by_cases e : i = n - (k + 1)
          · rw [e]; exact p
          · exact q i (by omega) hn
        · exact .inr ⟨.more _ _ _ h l, fun hall => q fun i hi hn => hall i (by omega) hn⟩
      · exact .inr ⟨.done _ _ h, fun hall => p (hall _ (Nat.le_refl _) (by omega))⟩
  have := key n (Nat.le_refl _)
  rw [Nat.sub_self] at this
  rcases this with ⟨l, q⟩ | ⟨l, q⟩
  · exact .inl ⟨whileM_some.2 l, fun i hi => q i (by omega) hi⟩
  · exact .inr ⟨whileM_some.2 l, fun hall => q fun i _ hi => hall i hi⟩

/-! The config. -/
abbrev tab (c : Config) : Int × Int × Int × Int × Int × Int × Int × Int × Int × Int × Int × Int × Int × Int × Int × Int × Int × Int × Int × Int × Int × Int × Int × Int :=
  (c.threads, 1, 16, c.items, 1, 4, c.backend, 1, 3, c.depth, 0, 4, c.layers, 0, 3, c.width, 1, 8, c.spin, 0, 20, c.wait, 0, 1000)
theorem check_round {c : Config} {j j' v lo hi e : Int} (r : T_config_Check_2 (c, tab c, j) = bif decide (v < lo) then some (.inr (.inr e)) else bif decide (v > hi) then some (.inr (.inr e)) else some (.inl (c, tab c, j'))) :
    W_config_Check_2 (c, tab c, j) = if v < lo ∨ v > hi then some (.inr e) else W_config_Check_2 (c, tab c, j') := by
  have h := whileM_eq T_config_Check_2 (c, tab c, j)
  rw [r] at h
  unfold W_config_Check_2
  by_cases a : v < lo
  · rw [decide_eq_true a] at h
    rw [h, if_pos (.inl a)]
    rfl
  · by_cases b : v > hi
    · rw [decide_eq_false a, decide_eq_true b] at h
      rw [h, if_pos (.inr b)]
      rfl
    · rw [decide_eq_false a, decide_eq_false b] at h
      rw [h, if_neg (fun h => h.elim a b)]
      rfl

theorem config_check (c : Config) : ∃ e, F_config_Check c = some e ∧ (e = 0 ↔ CfgOK c) := by
  have hF : F_config_Check c = (match W_config_Check_2 (c, tab c, 0) with
    | some (.inl y1) => bif y1.bounded then bif decide (y1.init < y1.lo) then some 58 else bif decide (y1.hi < y1.init) then some 58 else some 0 else some 0
    | some (.inr y2) => some y2
    | none => none : Option Int) := rfl
  have h8 : W_config_Check_2 (c, tab c, 8) = some (.inl c) := by
    unfold W_config_Check_2
    rw [whileM_eq]
    rfl
  rw [hF, check_round (c := c) (j := 0) (j' := 1) (v := c.threads) (lo := 1) (hi := 16) (e := 50) (by show _ = _; kernel_rfl), check_round (c := c) (j := 1) (j' := 2) (v := c.items) (lo := 1) (hi := 4) (e := 51) (by show _ = _; kernel_rfl),
    check_round (c := c) (j := 2) (j' := 3) (v := c.backend) (lo := 1) (hi := 3) (e := 52) (by show _ = _; kernel_rfl), check_round (c := c) (j := 3) (j' := 4) (v := c.depth) (lo := 0) (hi := 4) (e := 53) (by show _ = _; kernel_rfl),
    check_round (c := c) (j := 4) (j' := 5) (v := c.layers) (lo := 0) (hi := 3) (e := 54) (by show _ = _; kernel_rfl), check_round (c := c) (j := 5) (j' := 6) (v := c.width) (lo := 1) (hi := 8) (e := 55) (by show _ = _; kernel_rfl),
    check_round (c := c) (j := 6) (j' := 7) (v := c.spin) (lo := 0) (hi := 20) (e := 56) (by show _ = _; kernel_rfl), check_round (c := c) (j := 7) (j' := 8) (v := c.wait) (lo := 0) (hi := 1000) (e := 57) (by show _ = _; kernel_rfl), h8]
  by_cases h0 : c.threads < 1 ∨ c.threads > 16
  · rw [if_pos h0]; exact ⟨50, rfl, by simp, fun h => by have := h.threads; omega⟩
  rw [if_neg h0]
  by_cases h1 : c.items < 1 ∨ c.items > 4
  · rw [if_pos h1]; exact ⟨51, rfl, by simp, fun h => by have := h.items; omega⟩
  rw [if_neg h1]
  by_cases h2 : c.backend < 1 ∨ c.backend > 3
  · rw [if_pos h2]; exact ⟨52, rfl, by simp, fun h => by have := h.backend; omega⟩
  rw [if_neg h2]
  by_cases h3 : c.depth < 0 ∨ c.depth > 4
  · rw [if_pos h3]; exact ⟨53, rfl, by simp, fun h => by have := h.depth; omega⟩
  rw [if_neg h3]
  by_cases h4 : c.layers < 0 ∨ c.layers > 3
  · rw [if_pos h4]; exact ⟨54, rfl, by simp, fun h => by have := h.layers; omega⟩
  rw [if_neg h4]
  by_cases h5 : c.width < 1 ∨ c.width > 8
  · rw [if_pos h5]; exact ⟨55, rfl, by simp, fun h => by have := h.width; omega⟩
  rw [if_neg h5]
  by_cases h6 : c.spin < 0 ∨ c.spin > 20
  · rw [if_pos h6]; exact ⟨56, rfl, by simp, fun h => by have := h.spin; omega⟩
  rw [if_neg h6]
  by_cases h7 : c.wait < 0 ∨ c.wait > 1000
  · rw [if_pos h7]; exact ⟨57, rfl, by simp, fun h => by have := h.wait; omega⟩
  rw [if_neg h7]
  simp only
  cases hb : c.bounded with
  | false => exact ⟨0, rfl, fun _ => ⟨by omega, by omega, by omega, by omega, by omega, by omega, by omega, by omega, fun h => by rw [hb] at h; cases h⟩, fun _ => rfl⟩
  | true =>
    simp only [cond_true]
    by_cases k1 : c.init < c.lo
    · rw [decide_eq_true k1]; exact ⟨58, rfl, by simp, fun h => by have := h.bounds hb; omega⟩
    rw [decide_eq_false k1]
    by_cases k2 : c.hi < c.init
    · rw [decide_eq_true k2]; exact ⟨58, rfl, by simp, fun h => by have := h.bounds hb; omega⟩
    rw [decide_eq_false k2]
    exact ⟨0, rfl, fun _ => ⟨by omega, by omega, by omega, by omega, by omega, by omega, by omega, by omega, fun _ => by omega⟩, fun _ => rfl⟩

/-! In order? -/
def Srt (l : List Mark) : Prop := ∀ i, i < l.length - 1 → ¬ (l.getD (i + 1) dMark).step < (l.getD i dMark).step

theorem sorted_program {l : List Mark} (h : l.length ≤ 4294967296) : (F_slices_IsSortedFunc_thread_Mark l () = some true ∧ Srt l) ∨ (F_slices_IsSortedFunc_thread_Mark l () = some false ∧ ¬ Srt l) := by
  cases hl : l with
  | nil =>
    refine .inl ⟨?_, fun i hi => by simp at hi⟩
    have : W_slices_IsSortedFunc_thread_Mark_2 ([], (), -1) = some (.inl ()) := by
      unfold W_slices_IsSortedFunc_thread_Mark_2
      rw [whileM_eq]
      rfl
    simp only [F_slices_IsSortedFunc_thread_Mark]
    rw [show wrapA .i64 ((([] : List Mark).length : Int) - 1) = -1 from wrap_id (by simp) (by simp), this]
  | cons m0 l0 =>
    rw [← hl]
    have hn : 0 < l.length := by rw [hl]; simp
    have w : wrapA .i64 ((l.length : Int) - 1) = ((l.length - 1 - 0 : Nat) : Int) := by rw [wrap_id (by omega) (by omega)]; omega
    have key := while_all (step := T_slices_IsSortedFunc_thread_Mark_2) (fun j => (l, (), ((l.length - 1 - j : Nat) : Int))) (l.length - 1) (fun j => ¬ (l.getD (l.length - 1 - j) dMark).step < (l.getD (l.length - 1 - j - 1) dMark).step) (y := ()) (fun j hj => ?_) ?_
    · simp only [F_slices_IsSortedFunc_thread_Mark, w]
      rcases key with ⟨k1, k2⟩ | ⟨k1, k2⟩
      · have k1 : W_slices_IsSortedFunc_thread_Mark_2 (l, (), ((l.length - 1 - 0 : Nat) : Int)) = some (.inl ()) := k1
        rw [k1]
        refine .inl ⟨rfl, fun i hi => ?_⟩
        have := k2 (l.length - 1 - (i + 1)) (by omega)
        rw [show l.length - 1 - (l.length - 1 - (i + 1)) = i + 1 by omega, Nat.add_sub_cancel] at this
        exact this
      · have k1 : W_slices_IsSortedFunc_thread_Mark_2 (l, (), ((l.length - 1 - 0 : Nat) : Int)) = some (.inr false) := k1
        rw [k1]
        refine .inr ⟨rfl, fun hs => k2 fun j hj => ?_⟩
        have := hs (l.length - 1 - j - 1) (by omega)
        rw [show l.length - 1 - j - 1 + 1 = l.length - 1 - j by omega] at this
        exact this
    · have b0 : decide (((l.length - 1 - j : Nat) : Int) > 0) = true := decide_eq_true (by omega)
      have b1 : decide ((0 : Int) ≤ ((l.length - 1 - j : Nat) : Int)) = true := decide_eq_true (by omega)
      have b2 : decide (((l.length - 1 - j : Nat) : Int) < (l.length : Int)) = true := decide_eq_true (by omega)
      have w1 : wrapA .i64 (((l.length - 1 - j : Nat) : Int) - 1) = ((l.length - 1 - j - 1 : Nat) : Int) := by rw [wrap_id (by omega) (by omega)]; omega
      have b3 : decide ((0 : Int) ≤ ((l.length - 1 - j - 1 : Nat) : Int)) = true := decide_eq_true (by omega)
      have b4 : decide (((l.length - 1 - j - 1 : Nat) : Int) < (l.length : Int)) = true := decide_eq_true (by omega)
      simp only [T_slices_IsSortedFunc_thread_Mark_2, S_slices_IsSortedFunc_thread_Mark_2, b0, b1, b2, w1, b3, b4, cond_true, Int.toNat_natCast, C_history_order, F_history_order]
      by_cases a : (l.getD (l.length - 1 - j) dMark).step < (l.getD (l.length - 1 - j - 1) dMark).step
      · refine .inr ⟨fun h => h a, ?_⟩
        rw [decide_eq_true a]
        rfl
      · refine .inl ⟨a, ?_⟩
        rw [decide_eq_false a, show l.length - 1 - (j + 1) = l.length - 1 - j - 1 by omega]
        cases decide ((l.getD (l.length - 1 - j) dMark).step > (l.getD (l.length - 1 - j - 1) dMark).step) <;> rfl
    · have b0 : decide (((l.length - 1 - (l.length - 1) : Nat) : Int) > 0) = false := decide_eq_false (by omega)
      simp only [T_slices_IsSortedFunc_thread_Mark_2, S_slices_IsSortedFunc_thread_Mark_2, b0, cond_false]

theorem sorted_ref {w : Wld} (h : w.log.length ≤ 4294967296) : (W_ref18_Linear_16 (w, 1) = some (.inl ()) ∧ Srt w.log) ∨ (W_ref18_Linear_16 (w, 1) = some (.inr false) ∧ ¬ Srt w.log) := by
  refine while_all (step := T_ref18_Linear_16) (fun j => (w, ((j + 1 : Nat) : Int))) (w.log.length - 1) (fun j => ¬ (w.log.getD (j + 1) dMark).step < (w.log.getD j dMark).step) (y := ()) (fun j hj => ?_) ?_
  · have b1 : decide ((0 : Int) ≤ ((j + 1 : Nat) : Int)) = true := decide_eq_true (by omega)
    have b2 : decide (((j + 1 : Nat) : Int) < (w.log.length : Int)) = true := decide_eq_true (by omega)
    have w1 : wrapA .i64 (((j + 1 : Nat) : Int) - 1) = (j : Int) := by rw [wrap_id (by omega) (by omega)]; omega
    have w2 : wrapA .i64 (((j + 1 : Nat) : Int) + 1) = ((j + 1 + 1 : Nat) : Int) := by rw [wrap_id (by omega) (by omega)]; omega
    have b3 : decide ((0 : Int) ≤ (j : Int)) = true := decide_eq_true (by omega)
    have b4 : decide ((j : Int) < (w.log.length : Int)) = true := decide_eq_true (by omega)
    simp only [T_ref18_Linear_16, S_ref18_Linear_16, b1, b2, w1, w2, b3, b4, cond_true, Int.toNat_natCast]
    by_cases a : (w.log.getD (j + 1) dMark).step < (w.log.getD j dMark).step
    · refine .inr ⟨fun h => h a, ?_⟩
      rw [decide_eq_true a]
      rfl
    · refine .inl ⟨a, ?_⟩
      rw [decide_eq_false a]
      rfl
  · have b2 : decide (((w.log.length - 1 + 1 : Nat) : Int) < (w.log.length : Int)) = false := decide_eq_false (by omega)
    simp only [T_ref18_Linear_16, S_ref18_Linear_16, b2, cond_false]

/-! The cells. -/
theorem load_eq (m : Memo) (a : Int) : F_wmem_Load m a = F_ref03_Load m a := by
  simp only [F_wmem_Load, C_wmem_at_int, F_wmem_at_int, F_ref03_Load, cond_dec]
  by_cases h1 : a < 0
  · simp only [if_pos h1]
  by_cases h2 : a ≥ (m.words.length : Int)
  · simp only [if_neg h1, if_pos h2]
  simp only [if_neg h1, if_neg h2, if_pos (show 0 ≤ a by omega), if_pos (show a < (m.words.length : Int) by omega)]
theorem load_some (m : Memo) (a : Int) : ∃ r, F_ref03_Load m a = some r := by
  simp only [F_ref03_Load, cond_dec]
  by_cases h1 : a < 0
  · exact ⟨_, by rw [if_pos h1]⟩
  by_cases h2 : a ≥ (m.words.length : Int)
  · exact ⟨_, by rw [if_neg h1, if_pos h2]⟩
  exact ⟨_, by rw [if_neg h1, if_neg h2, if_pos (by omega), if_pos (by omega)]⟩
theorem cell_program {c : Config} (h : CfgOK c) {i : Int} (h0 : 0 ≤ i) (h1 : i < c.items) : F_arena_Cell c i = some (i * blockOf c) := by
  have := mul_item h h0 (by omega)
  have := lines_bounds h
  simp only [F_arena_Cell, cond_dec, C_arena_of, arena_of h]
  rw [if_neg (by omega), if_neg (by omega), wrap_id (by omega) (by omega)]
theorem cell_ref {c : Config} (h : CfgOK c) {i : Int} (h0 : 0 ≤ i) (h1 : i < c.items) : F_ref06_Cell c i = some (i * blockOf c) := by
  have := mul_item h h0 (by omega)
  have := lines_bounds h
  simp only [F_ref06_Cell, cond_dec, C_ref06_block, ref06_block h]
  rw [if_neg (by omega), if_neg (by omega), wrap_id (by omega) (by omega)]

/-- An item's log tells what its cell has. -/
def ItemOK (w : Wld) (i : Nat) : Prop := ∃ r, F_ref03_Load w.m ((i : Int) * blockOf w.c) = some r ∧ (replay w.c w.log i).2 = true ∧ r.2 = 0 ∧ (replay w.c w.log i).1 = r.1
def ThreadOK (w : Wld) (i : Nat) : Prop := F_ref18_Answers w.c w.log w.hist i = some true

theorem item_step {α : Type} {w : Wld} {i : Nat} {r : Int × Int} (hr : F_ref03_Load w.m ((i : Int) * blockOf w.c) = some r) {N F : α} :
    (ItemOK w i ∧ (bif !(replay w.c w.log i).2 then F else bif r.2 != (0 : Int) then F else bif (replay w.c w.log i).1 != r.1 then F else N) = N) ∨
    (¬ ItemOK w i ∧ (bif !(replay w.c w.log i).2 then F else bif r.2 != (0 : Int) then F else bif (replay w.c w.log i).1 != r.1 then F else N) = F) := by
  have hiff : ItemOK w i ↔ (replay w.c w.log i).2 = true ∧ r.2 = 0 ∧ (replay w.c w.log i).1 = r.1 := by
    constructor
    · rintro ⟨r', h1, h2⟩
      rw [hr] at h1
      obtain rfl := Option.some.inj h1
      exact h2
    · exact fun h => ⟨r, hr, h⟩
  rw [hiff]
  by_cases a : (replay w.c w.log i).2 = true
  · by_cases b : r.2 = 0
    · by_cases d : (replay w.c w.log i).1 = r.1
      · refine .inl ⟨⟨a, b, d⟩, ?_⟩
        rw [a, show (r.2 != (0 : Int)) = false by rw [b]; rfl, show ((replay w.c w.log i).1 != r.1) = false by rw [d, bne_self_eq_false]]
        rfl
      · refine .inr ⟨fun h => d h.2.2, ?_⟩
        rw [a, show (r.2 != (0 : Int)) = false by rw [b]; rfl, show ((replay w.c w.log i).1 != r.1) = true from bne_iff_ne.2 d]
        rfl
    · refine .inr ⟨fun h => b h.2.1, ?_⟩
      rw [a, show (r.2 != (0 : Int)) = true from bne_iff_ne.2 b]
      rfl
  · refine .inr ⟨fun h => a h.1, ?_⟩
    rw [show (replay w.c w.log i).2 = false by simpa using a]
    rfl

/-- What a world is made of. -/
structure WOK (w : Wld) : Prop where
  cfg : CfgOK w.c
  conf : ConfOK w.c
  marks : ∀ m ∈ w.log, MarkOK m
  events : ∀ e ∈ w.hist, EventOK e
  log : w.log.length ≤ 300
  hist : w.hist.length ≤ 300

theorem items_program {w : Wld} (h : WOK w) : (W_history_Linear_4 (w, w.c.items, 0) = some (.inl w) ∧ ∀ i, i < w.c.items.toNat → ItemOK w i) ∨ (W_history_Linear_4 (w, w.c.items, 0) = some (.inr false) ∧ ¬ ∀ i, i < w.c.items.toNat → ItemOK w i) := by
  have hi := h.cfg.items
  have hlog := h.log
  refine while_all (step := T_history_Linear_4) (fun j => (w, w.c.items, (j : Int))) w.c.items.toNat (ItemOK w) (y := w) (fun j hj => ?_) ?_
  · obtain ⟨r, hr⟩ := load_some w.m ((j : Int) * blockOf w.c)
    have b : decide ((j : Int) < w.c.items) = true := decide_eq_true (by omega)
    have w1 : wrapA .i64 ((j : Int) + 1) = ((j + 1 : Nat) : Int) := by rw [wrap_id (by omega) (by omega)]; omega
    simp only [T_history_Linear_4, S_history_Linear_4, b, cond_true, w1, C_history_Replay, history_replay (l := w.log) (j : Int) h.conf h.marks (by omega), C_arena_Cell, cell_program h.cfg (i := (j : Int)) (by omega) (by omega), C_wmem_Load, load_eq, hr]
    exact item_step hr
  · have b : decide ((w.c.items.toNat : Int) < w.c.items) = false := decide_eq_false (by omega)
    simp only [T_history_Linear_4, S_history_Linear_4, b, cond_false]

theorem items_ref {w : Wld} (h : WOK w) : (W_ref18_Linear_4 (w, 0) = some (.inl w) ∧ ∀ i, i < w.c.items.toNat → ItemOK w i) ∨ (W_ref18_Linear_4 (w, 0) = some (.inr false) ∧ ¬ ∀ i, i < w.c.items.toNat → ItemOK w i) := by
  have hi := h.cfg.items
  have hlog := h.log
  refine while_all (step := T_ref18_Linear_4) (fun j => (w, (j : Int))) w.c.items.toNat (ItemOK w) (y := w) (fun j hj => ?_) ?_
  · obtain ⟨r, hr⟩ := load_some w.m ((j : Int) * blockOf w.c)
    have b : decide ((j : Int) < w.c.items) = true := decide_eq_true (by omega)
    have w1 : wrapA .i64 ((j : Int) + 1) = ((j + 1 : Nat) : Int) := by rw [wrap_id (by omega) (by omega)]; omega
    simp only [T_ref18_Linear_4, S_ref18_Linear_4, b, cond_true, w1, C_ref18_Replay, ref18_replay w.c w.log (j : Int) (by omega), C_ref06_Cell, cell_ref h.cfg (i := (j : Int)) (by omega) (by omega), C_ref03_Load, hr]
    exact item_step hr
  · have b : decide ((w.c.items.toNat : Int) < w.c.items) = false := decide_eq_false (by omega)
    simp only [T_ref18_Linear_4, S_ref18_Linear_4, b, cond_false]

theorem threads_program {w : Wld} (h : WOK w) : (∃ y, W_history_Linear_12 (w, w.c.threads, 0) = some (.inl y) ∧ ∀ i, i < w.c.threads.toNat → ThreadOK w i) ∨ (W_history_Linear_12 (w, w.c.threads, 0) = some (.inr false) ∧ ¬ ∀ i, i < w.c.threads.toNat → ThreadOK w i) := by
  have hi := h.cfg.threads
  have hlog := h.log
  have hhist := h.hist
  have key := while_all (step := T_history_Linear_12) (fun j => (w, w.c.threads, (j : Int))) w.c.threads.toNat (ThreadOK w) (y := ()) (fun j hj => ?_) ?_
  · rcases key with ⟨k1, k2⟩ | ⟨k1, k2⟩
    · exact .inl ⟨_, k1, k2⟩
    · exact .inr ⟨k1, k2⟩
  · obtain ⟨r, hr1, hr2⟩ := answers_both (c := w.c) (l := w.log) (h := w.hist) (j : Int) h.conf h.events (by omega) (by omega)
    have b : decide ((j : Int) < w.c.threads) = true := decide_eq_true (by omega)
    have w1 : wrapA .i64 ((j : Int) + 1) = ((j + 1 : Nat) : Int) := by rw [wrap_id (by omega) (by omega)]; omega
    simp only [T_history_Linear_12, S_history_Linear_12, b, cond_true, w1, C_history_Answers, hr1]
    unfold ThreadOK
    rw [hr2]
    cases r with
    | true => exact .inl ⟨rfl, rfl⟩
    | false => exact .inr ⟨(fun h => by cases h), rfl⟩
  · have b : decide ((w.c.threads.toNat : Int) < w.c.threads) = false := decide_eq_false (by omega)
    simp only [T_history_Linear_12, S_history_Linear_12, b, cond_false]

theorem threads_ref {w : Wld} (h : WOK w) : (W_ref18_Linear_11 (w, 0) = some (.inl w) ∧ ∀ i, i < w.c.threads.toNat → ThreadOK w i) ∨ (W_ref18_Linear_11 (w, 0) = some (.inr false) ∧ ¬ ∀ i, i < w.c.threads.toNat → ThreadOK w i) := by
  have hi := h.cfg.threads
  have hlog := h.log
  have hhist := h.hist
  refine while_all (step := T_ref18_Linear_11) (fun j => (w, (j : Int))) w.c.threads.toNat (ThreadOK w) (y := w) (fun j hj => ?_) ?_
  · obtain ⟨r, hr1, hr2⟩ := answers_both (c := w.c) (l := w.log) (h := w.hist) (j : Int) h.conf h.events (by omega) (by omega)
    have b : decide ((j : Int) < w.c.threads) = true := decide_eq_true (by omega)
    have w1 : wrapA .i64 ((j : Int) + 1) = ((j + 1 : Nat) : Int) := by rw [wrap_id (by omega) (by omega)]; omega
    simp only [T_ref18_Linear_11, S_ref18_Linear_11, b, cond_true, w1, C_ref18_Answers, hr2]
    unfold ThreadOK
    rw [hr2]
    cases r with
    | true => exact .inl ⟨rfl, rfl⟩
    | false => exact .inr ⟨(fun h => by cases h), rfl⟩
  · have b : decide ((w.c.threads.toNat : Int) < w.c.threads) = false := decide_eq_false (by omega)
    simp only [T_ref18_Linear_11, S_ref18_Linear_11, b, cond_false]

theorem linear_both {w : Wld} (h : ∀ c : CfgOK w.c, WOK w) (hlog : w.log.length ≤ 300) : ∃ b, F_history_Linear w = some b ∧ F_ref18_Linear w = some b := by
  obtain ⟨e1, he1, hc1⟩ := config_check w.c
  obtain ⟨e2, he2, hc2⟩ := check_some w.c
  simp only [F_history_Linear, C_config_Check, he1, F_ref18_Linear, C_ref05_Check, he2, C_slices_IsSortedFunc_thread_Mark]
  by_cases hc : CfgOK w.c
  · obtain rfl := hc1.2 hc
    obtain rfl := hc2.2 hc
    have hw := h hc
    simp only [bne_self_eq_false, cond_false]
    rcases sorted_program (l := w.log) (by omega) with ⟨s1, s2⟩ | ⟨s1, s2⟩ <;> rcases sorted_ref (w := w) (by omega) with ⟨t1, t2⟩ | ⟨t1, t2⟩ <;> (first | exact (t2 s2).elim | exact (s2 t2).elim | skip) <;>
      rcases items_program hw with ⟨i1, i2⟩ | ⟨i1, i2⟩ <;> rcases items_ref hw with ⟨j1, j2⟩ | ⟨j1, j2⟩ <;> (first | exact (j2 i2).elim | exact (i2 j2).elim | skip) <;>
      rcases threads_program hw with ⟨y, a1, a2⟩ | ⟨a1, a2⟩ <;> rcases threads_ref hw with ⟨b1, b2⟩ | ⟨b1, b2⟩ <;> (first | exact (b2 a2).elim | exact (a2 b2).elim | skip) <;>
      simp only [s1, t1, i1, j1, a1, b1, Bool.not_true, Bool.not_false, cond_true, cond_false] <;> exact ⟨_, rfl, rfl⟩
  · have n1 : (e1 != (0 : Int)) = true := bne_iff_ne.2 fun h => hc (hc1.1 h)
    have n2 : (e2 != (0 : Int)) = true := bne_iff_ne.2 fun h => hc (hc2.1 h)
    rw [n1, n2]
    exact ⟨false, rfl, rfl⟩

end Go.Proofs.Mill
