/- A thread in a funnel: what the laws share. -/
import Derived.Test.YtcokmmhkajmkhaaMillPCollide
import Derived.KernelRfl
set_option linter.all false
namespace Go.Proofs.Mill

/-- The config, a turn, of the case that is shown. -/
def shownC : Config := ⟨2, 1, 3, 0, 1, 1, 1, 0, false, 0, 0, 0⟩
def shownU (w : List Int) (ph left who : Int) (batch : List Entry) (kids : List Kid) : Turn :=
  ⟨shownC, 0, 0, ⟨w, [[], [⟨1, ⟨1, 7⟩⟩]]⟩, ⟨ph, 0, ⟨0, 0⟩, batch, kids, [], 0, 0, 0, 1, left, 1, who, 0, 0, 0⟩, ⟨[], 0⟩, [], false⟩
def e0 : Entry := ⟨0, ⟨1, 2⟩⟩
def e1 : Entry := ⟨1, ⟨1, 7⟩⟩

theorem shownC_ok : CfgOK shownC := ⟨by decide, by decide, by decide, by decide, by decide, by decide, by decide, by decide, fun h => by cases h⟩

theorem shownU_fit {w : List Int} {ph left who : Int} {batch : List Entry} {kids : List Kid} (hw : w.length = 6) (hn : ∀ n ∈ w, 0 ≤ n ∧ n ≤ 1000) (hb : batch.length ≤ 2) (hk : kids.length ≤ 2) : FitC (shownU w ph left who batch kids) := by
  refine ⟨⟨shownC_ok, (by decide : (0 : Int) ≤ 0 ∧ (0 : Int) < 2), ?_, rfl, fun n h => num_small (hn n h).1 (by have := (hn n h).2; omega), ?_, ?_, fun b hb => ?_⟩, (by decide : (0 : Int) ≤ 0 ∧ (0 : Int) < 1), (by decide : (1 : Int) ≤ 1 ∧ (1 : Int) ≤ 3), (by decide : (-9223372036854775808 : Int) ≤ 0 ∧ (0 : Int) ≤ 9223372036854775807), (by decide : (0 : Nat) ≤ 4294967296), (by decide : (-9223372036854775808 : Int) ≤ 1 ∧ (1 : Int) ≤ 9223372036854775807)⟩
  · show (w.length : Int) = _
    rw [hw]; rfl
  · show batch.length ≤ 1000000
    omega
  · show kids.length ≤ 1000000
    omega
  · have : b = [] ∨ b = [⟨1, ⟨1, 7⟩⟩] := by simpa [shownU] using hb
    rcases this with rfl | rfl <;> simp

theorem shown_round {w : List Int} {ph left who : Int} {batch : List Entry} {kids : List Kid} (m : Memo) (l : List Int) (i : Int) (u : Turn) (l' : List Int) (i' : Int)
    (hf : FitC (shownU w ph left who batch kids)) (h : (bif decide (i < 5) then
        bif !(collideT (shownU w ph left who batch kids)).2 then some (Sum.inr (Sum.inr false))
        else bif ((collideT (shownU w ph left who batch kids)).1.m.words.length : Int) != (6 : Int) then some (Sum.inr (Sum.inr false))
        else bif fewB (l.length + ((collideT (shownU w ph left who batch kids)).1.th.phase :: ([] : List Int)).length) then
          some (Sum.inl (shownC, m, (collideT (shownU w ph left who batch kids)).1, l ++ (collideT (shownU w ph left who batch kids)).1.th.phase :: ([] : List Int), wrapA IntKind.i64 (i + 1)))
        else none
      else some (Sum.inr (Sum.inl (shownC, m, shownU w ph left who batch kids, l))) : Option ((Config × Memo × Turn × (List Int) × Int) ⊕ ((Config × Memo × Turn × (List Int)) ⊕ (Bool)))) = some (.inl (shownC, m, u, l', i'))) :
    W_law15_shown_12 (shownC, m, shownU w ph left who batch kids, l, i) = W_law15_shown_12 (shownC, m, u, l', i') := by
  unfold W_law15_shown_12
  rw [whileM_eq]
  have e : T_law15_shown_12 (shownC, m, shownU w ph left who batch kids, l, i) = some (.inl (shownC, m, u, l', i')) := by
    refine Eq.trans ?_ h
    simp only [T_law15_shown_12, S_law15_shown_12, C_collide_Step, collide_step hf]
  rw [e]

theorem small6 {a b c d e f : Int} (h : 0 ≤ a ∧ a ≤ 1000) (h2 : 0 ≤ b ∧ b ≤ 1000) (h3 : 0 ≤ c ∧ c ≤ 1000) (h4 : 0 ≤ d ∧ d ≤ 1000) (h5 : 0 ≤ e ∧ e ≤ 1000) (h6 : 0 ≤ f ∧ f ≤ 1000) : ∀ n ∈ [a, b, c, d, e, f], 0 ≤ n ∧ n ≤ 1000 := by
  intro n hn
  simp only [List.mem_cons, List.not_mem_nil, or_false] at hn
  rcases hn with rfl | rfl | rfl | rfl | rfl | rfl <;> assumption

theorem shown_mem : F_arena_Build shownC = some ⟨[0, 0, 0, 0, 0, 0], [[], []]⟩ := by
  have hw : W_arena_Build_3 (shownC, ⟨[], []⟩, ⟨[0, 0, 0, 0, 0, 0], [[], []]⟩, 1, 0) = some (⟨[], []⟩, ⟨[0, 0, 0, 0, 0, 0], [[], []]⟩) := by
    unfold W_arena_Build_3
    rw [whileM_eq, show T_arena_Build_3 (shownC, ⟨[], []⟩, ⟨[0, 0, 0, 0, 0, 0], [[], []]⟩, 1, 0) = some (.inl (shownC, ⟨[], []⟩, ⟨[0, 0, 0, 0, 0, 0], [[], []]⟩, 1, 1)) by kernel_rfl]
    simp only
    rw [whileM_eq, show T_arena_Build_3 (shownC, ⟨[], []⟩, ⟨[0, 0, 0, 0, 0, 0], [[], []]⟩, 1, 1) = some (.inr (⟨[], []⟩, ⟨[0, 0, 0, 0, 0, 0], [[], []]⟩)) by kernel_rfl]
  have e : F_arena_Build shownC = (match W_arena_Build_3 (shownC, ⟨[], []⟩, ⟨[0, 0, 0, 0, 0, 0], [[], []]⟩, 1, 0) with | some y => some y.snd | none => none) := by kernel_rfl
  rw [e, hw]

def shownM : Memo := ⟨[0, 2, 0, 0, 20, 0], [[], [⟨1, ⟨1, 7⟩⟩]]⟩

theorem shown_loop : W_law15_shown_12 (shownC, shownM, shownU [0, 2, 0, 0, 20, 0] 18 0 0 [e0] [], [], 0) =
    some (.inl (shownC, shownM, shownU [0, 1, 0, 0, 0, 0] 25 0 1 [e0, e1] [⟨1, 1⟩], [19, 20, 21, 22, 25])) := by
  rw [shown_round shownM [] 0 (shownU [0, 2, 20, 0, 20, 0] 19 0 0 [e0] []) [19] 1 (shownU_fit rfl (small6 (by decide) (by decide) (by decide) (by decide) (by decide) (by decide)) (by decide) (by decide)) (by kernel_rfl),
    shown_round shownM [19] 1 (shownU [0, 1, 20, 0, 20, 0] 20 0 1 [e0] []) [19, 20] 2 (shownU_fit rfl (small6 (by decide) (by decide) (by decide) (by decide) (by decide) (by decide)) (by decide) (by decide)) (by kernel_rfl),
    shown_round shownM [19, 20] 2 (shownU [0, 1, 0, 0, 20, 0] 21 0 1 [e0] []) [19, 20, 21] 3 (shownU_fit rfl (small6 (by decide) (by decide) (by decide) (by decide) (by decide) (by decide)) (by decide) (by decide)) (by kernel_rfl),
    shown_round shownM [19, 20, 21] 3 (shownU [0, 1, 0, 0, 0, 0] 22 0 1 [e0] []) [19, 20, 21, 22] 4 (shownU_fit rfl (small6 (by decide) (by decide) (by decide) (by decide) (by decide) (by decide)) (by decide) (by decide)) (by kernel_rfl),
    shown_round shownM [19, 20, 21, 22] 4 (shownU [0, 1, 0, 0, 0, 0] 25 0 1 [e0, e1] [⟨1, 1⟩]) [19, 20, 21, 22, 25] 5 (shownU_fit rfl (small6 (by decide) (by decide) (by decide) (by decide) (by decide) (by decide)) (by decide) (by decide)) (by kernel_rfl)]
  unfold W_law15_shown_12
  rw [whileM_eq]
  have e : T_law15_shown_12 (shownC, shownM, shownU [0, 1, 0, 0, 0, 0] 25 0 1 [e0, e1] [⟨1, 1⟩], [19, 20, 21, 22, 25], 5) = some (.inr (.inl (shownC, shownM, shownU [0, 1, 0, 0, 0, 0] 25 0 1 [e0, e1] [⟨1, 1⟩], [19, 20, 21, 22, 25]))) := by
    simp only [T_law15_shown_12, S_law15_shown_12, cond_dec]
    rw [if_neg (by decide)]
  rw [e]

theorem law15_shown : F_law15_shown = some true := by
  unfold F_law15_shown
  rw [show C_arena_Build (Config.mk 2 1 3 0 1 1 1 0 false 0 0 0) = some ⟨[0, 0, 0, 0, 0, 0], [[], []]⟩ from shown_mem, show C_code_Open (0, 1) = some 20 by kernel_rfl]
  simp only [List.length_cons, List.length_nil, List.length_set]
  have hl := shown_loop
  unfold shownM shownU shownC at hl
  rw [show (((0 + 1 + 1 + 1 + 1 + 1 + 1 : Nat) : Int) != 6) = false from rfl, cond_false, show (((0 + 1 + 1 : Nat) : Int) != 2) = false from rfl, cond_false,
    show (decide ((1 : Int) < ((0 + 1 + 1 + 1 + 1 + 1 + 1 : Nat) : Int))) = true from rfl, cond_true, show (decide ((4 : Int) < ((0 + 1 + 1 + 1 + 1 + 1 + 1 : Nat) : Int))) = true from rfl, cond_true,
    show (decide ((1 : Int) < ((0 + 1 + 1 : Nat) : Int))) = true from rfl, cond_true]
  erw [hl]
  simp only
  show _ = _
  kernel_rfl

theorem law15_layered (u : Turn) : ∃ b, F_law15_layered u = some b ∧ (b = true ↔ May u ∧ 1 ≤ u.th.layer ∧ u.th.layer ≤ 3) := by
  obtain ⟨m, hm, hmay⟩ := law15_may u
  simp only [F_law15_layered, C_law15_may, hm, cond_dec]
  cases m with
  | false => exact ⟨false, rfl, by simp, fun h => by have := hmay.2 h.1; cases this⟩
  | true =>
    have hM := hmay.1 rfl
    simp only [cond_true]
    by_cases h1 : u.th.layer ≥ 1
    · rw [if_pos h1]
      exact ⟨_, rfl, fun h => ⟨hM, h1, of_decide_eq_true h⟩, fun h => decide_eq_true h.2.2⟩
    · rw [if_neg h1]
      exact ⟨_, rfl, by simp, fun h => (h1 h.2.1).elim⟩

theorem turn_at {u : Turn} (h : (valSt celTurn).Ok u) : Num u.tape.at_ ∧ Num u.th.width ∧ Num u.th.left := by
  have h1 : ∀ x : Int, AV.int .i64 x ∈ celTurn.enc u → Num x := fun x hx => lit_ok (h _ hx)
  refine ⟨h1 _ ?_, h1 _ ?_, h1 _ ?_⟩ <;>
  · simp only [celTurn, celAs, celApp, celMemo, celLst, celConfig, celInt, celBool, celTape, celThread, celOp, List.mem_append, List.mem_singleton]
    simp

theorem May.fitC {u : Turn} (h : May u) (b : Big u) (o : (valSt celTurn).Ok u) (hl : 1 ≤ u.th.layer ∧ u.th.layer ≤ 3) : FitC u :=
  ⟨h.fitG b o, h.item, hl, (turn_at o).1, by have := b.tape; omega, (turn_at o).2.1⟩

theorem FitC.of {u v : Turn} (h : FitC u) (hc : v.c = u.c) (ht : v.t = u.t) (hl : v.m.words.length = u.m.words.length) (hn : ∀ n ∈ v.m.words, Num n) (hb : v.m.boxes = u.m.boxes) (h1 : v.th.batch = u.th.batch) (h2 : v.th.kids = u.th.kids)
    (h3 : v.th.item = u.th.item) (h4 : v.th.layer = u.th.layer) (h5 : v.tape = u.tape) (h6 : v.th.width = u.th.width) : FitC v :=
  ⟨h.g.of hc ht hl hn hb h1 h2, by rw [h3, hc]; exact h.item, by rw [h4]; exact h.layer, by rw [h5]; exact h.tape, by rw [h5]; exact h.draws, by rw [h6]; exact h.width⟩

theorem onwardT_m (u : Turn) : (onwardT u).m = u.m := by
  unfold onwardT
  split <;> rfl

/-- The slots of a turn's item and layer, filled with a word. -/
def fillT (u : Turn) (w : Int) : Nat → List Int → List Int
  | 0, l => l
  | k + 1, l => (fillT u w k l).set (slotAt u.c u.th.item u.th.layer k).toNat w

theorem fillT_len (u : Turn) (w : Int) (k : Nat) (l : List Int) : (fillT u w k l).length = l.length := by
  induction k with
  | zero => rfl
  | succ k ih => rw [fillT, List.length_set, ih]
theorem fillT_nums {u : Turn} {w : Int} (hw : Num w) (k : Nat) {l : List Int} (h : ∀ n ∈ l, Num n) : ∀ n ∈ fillT u w k l, Num n := by
  induction k with
  | zero => exact h
  | succ k ih => exact nums_set ih hw _
theorem fillT_at {u : Turn} {w : Int} {k : Nat} {l : List Int} (hs : ∀ j : Nat, j < k → (slotAt u.c u.th.item u.th.layer j).toNat < l.length) {j : Nat} (hj : j < k) :
    (fillT u w k l).getD (slotAt u.c u.th.item u.th.layer j).toNat 0 = w := by
  induction k with
  | zero => omega
  | succ k ih =>
    rw [fillT]
    by_cases e : (slotAt u.c u.th.item u.th.layer k).toNat = (slotAt u.c u.th.item u.th.layer j).toNat
    · rw [← e]; exact getD_set_self (by rw [fillT_len]; exact hs k (by omega))
    · rw [getD_set_ne e]
      have : j ≠ k := fun h => e (by rw [h])
      exact ih (fun j hj => hs j (by omega)) (by omega)
theorem fillT_ne {u : Turn} {w : Int} {k : Nat} {l : List Int} {a : Nat} (h : ∀ j : Nat, j < k → (slotAt u.c u.th.item u.th.layer j).toNat ≠ a) : (fillT u w k l).getD a 0 = l.getD a 0 := by
  induction k with
  | zero => rfl
  | succ k ih => rw [fillT, getD_set_ne (h k (by omega)), ih (fun j hj => h j (by omega))]

/-- All slots of a turn's item and layer are places of lines. -/
theorem FitC.slots {u : Turn} (h : FitC u) (hl : u.th.layer ≤ u.c.layers) {j : Int} (h0 : 0 ≤ j) (h1 : j < u.c.width) :
    0 ≤ slotAt u.c u.th.item u.th.layer j ∧ slotAt u.c u.th.item u.th.layer j < linesOf u.c ∧ slotAt u.c u.th.item u.th.layer j < (u.m.words.length : Int) := by
  have h2 := slotAt_in h.g.cfg h.item ⟨h.layer.1, hl⟩ ⟨h0, h1⟩
  have h3 := h.g.words
  have h4 := h.g.cfg.threads
  unfold sizeOf at h3
  omega

end Go.Proofs.Mill
