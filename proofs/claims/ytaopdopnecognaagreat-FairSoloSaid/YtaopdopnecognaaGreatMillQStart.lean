/- A memory that was just built, a thread that begins, a machine alone. -/
import Derived.Test.YtaopdopnecognaaGreatMillQMLogs
namespace Go.Proofs.Mill
set_option linter.all false

/-! ### A memory -/
def fillW (c : Config) : Nat → List Int
  | 0 => List.replicate (sizeOf c).toNat 0
  | k + 1 => (fillW c k).set ((k : Int) * blockOf c).toNat c.init

theorem fillW_length (c : Config) : ∀ k, (fillW c k).length = (sizeOf c).toNat
  | 0 => by simp [fillW]
  | k + 1 => by simp [fillW, fillW_length c k]

theorem fillW_nums {c : Config} (h : Num c.init) : ∀ k, ∀ n ∈ fillW c k, Num n
  | 0 => by
    intro n hn
    have := List.eq_of_mem_replicate hn
    subst this
    exact ⟨by omega, by omega⟩
  | k + 1 => by
    intro n hn
    rcases List.mem_or_eq_of_mem_set hn with h1 | rfl
    · exact fillW_nums h k n h1
    · exact h

theorem size_bounds {c : Config} (h : CfgOK c) : 1 ≤ sizeOf c ∧ sizeOf c ≤ 192 := by
  have := lines_bounds h
  have := h.threads
  unfold sizeOf
  omega

theorem cell_lt {c : Config} (h : CfgOK c) {i : Int} (h0 : 0 ≤ i) (h1 : i < c.items) : 0 ≤ i * blockOf c ∧ i * blockOf c < linesOf c ∧ i * blockOf c < sizeOf c := by
  have a := mul_item h (i := i + 1) (by omega) (by omega)
  have b := block_bounds h
  have c1 := mul_item h (i := i) h0 (by omega)
  have e : (i + 1) * blockOf c = i * blockOf c + blockOf c := by rw [Int.add_mul, Int.one_mul]
  have := h.threads
  unfold sizeOf
  omega

/-- A cell holds its beginning. -/
theorem fillW_cell {c : Config} (h : CfgOK c) : ∀ (k : Nat), (k : Int) ≤ c.items → ∀ j : Nat, j < k → (fillW c k).getD ((j : Int) * blockOf c).toNat 0 = c.init
  | 0, _, j, hj => by omega
  | k + 1, hk, j, hj => by
    have hk' := cell_lt h (i := (k : Int)) (by omega) (by omega)
    unfold fillW
    rw [List.getD_eq_getElem?_getD]
    by_cases e : j = k
    · subst e
      rw [List.getElem?_set_self (by rw [fillW_length]; omega), Option.getD_some]
    · have hb := block_bounds h
      have hne : ((k : Int) * blockOf c).toNat ≠ ((j : Int) * blockOf c).toNat := by
        intro e2
        have hj' := cell_lt h (i := (j : Int)) (by omega) (by omega)
        have e3 : (k : Int) * blockOf c = (j : Int) * blockOf c := by omega
        have := Int.eq_of_mul_eq_mul_right (by omega) e3
        omega
      rw [List.getElem?_set_ne hne, ← List.getD_eq_getElem?_getD]
      exact fillW_cell h k (by omega) j (by omega)

def builtM (c : Config) : Memo := ⟨fillW c c.items.toNat, List.replicate c.threads.toNat []⟩

theorem arena_build {c : Config} (h : CfgOK c) : F_arena_Build c = some (builtM c) := by
  have hs := size_bounds h
  have ht := h.threads
  have hi := h.items
  have hl := lines_bounds h
  unfold F_arena_Build
  have e1 : C_arena_Size c = some (sizeOf c) := by
    show F_arena_Size c = _
    unfold F_arena_Size
    simp only [C_arena_of, arena_of h]
    rw [wrap_id (n := (2 : Int) * c.threads) (by omega) (by omega), wrap_id (by omega) (by omega)]
    rfl
  have e2 : C_wmem_New (sizeOf c, c.threads) = some ⟨List.replicate (sizeOf c).toNat 0, List.replicate c.threads.toNat []⟩ := by
    show F_wmem_New _ _ = _
    simp only [F_wmem_New, C_wmem_made_int, F_wmem_made_int, C_wmem_made_lbatch_Entry, F_wmem_made_lbatch_Entry, cond_dec, beq_self_eq_true, cond_true]
    rw [if_neg (show ¬ sizeOf c < 1 by omega), if_neg (show ¬ sizeOf c > 10000 by omega), if_pos (show 0 ≤ sizeOf c by omega), if_pos (show sizeOf c ≤ maxElems by unfold maxElems; omega),
      if_neg (show ¬ c.threads < 1 by omega), if_neg (show ¬ c.threads > 10000 by omega), if_pos (show 0 ≤ c.threads by omega), if_pos (show c.threads ≤ maxElems by unfold maxElems; omega)]
  simp only [e1, e2]
  have hw : W_arena_Build_3 (c, ⟨[], []⟩, ⟨List.replicate (sizeOf c).toNat 0, List.replicate c.threads.toNat []⟩, c.items, 0) = some (⟨[], []⟩, builtM c) := by
    have h0 := whileM_for (step := T_arena_Build_3) (fun k => (c, ⟨[], []⟩, (⟨fillW c k, List.replicate c.threads.toNat []⟩ : Memo), c.items, (k : Int))) c.items.toNat (y := (⟨[], []⟩, builtM c)) (fun k hk => ?_) ?_
    · exact h0
    · show S_arena_Build_3 _ _ _ _ _ = _
      unfold S_arena_Build_3
      have hkc := cell_lt h (i := (k : Int)) (by omega) (by omega)
      have hcell : C_arena_Cell (c, (k : Int)) = some ((k : Int) * blockOf c) := by
        show F_arena_Cell _ _ = _
        rw [arena_cell h]
        unfold cellAt
        rw [if_neg (by omega)]
      simp only [cond_dec, hcell]
      rw [if_pos (by omega), if_pos hkc.1, if_pos (by rw [fillW_length]; omega), wrap_id (by omega) (by omega)]
      rfl
    · show S_arena_Build_3 _ _ _ _ _ = _
      unfold S_arena_Build_3
      simp only [cond_dec]
      rw [if_neg (by omega)]
      rfl
  rw [hw]

/-! ### A thread -/
theorem shape_leaf (d t : Int) (h0 : 0 ≤ d) (h1 : d ≤ 4) : ∃ y, F_shape_Leaf d t = some y := by
  unfold F_shape_Leaf
  simp only [cond_dec]
  by_cases h : d < 1
  · exact ⟨0, by rw [if_pos h]⟩
  · rw [if_neg h, wrap_id (n := d - 1) (by omega) (by omega), if_neg (by omega)]
    exact ⟨_, rfl⟩

noncomputable def leafOf (c : Config) (t : Int) : Int := (F_shape_Leaf c.depth t).getD 0
theorem leaf_eq {c : Config} (h : CfgOK c) (t : Int) : F_shape_Leaf c.depth t = some (leafOf c t) := by
  obtain ⟨y, hy⟩ := shape_leaf c.depth t h.depth.1 h.depth.2
  rw [leafOf, hy]; rfl

noncomputable def begunT (c : Config) (t item : Int) (op : Op) (now w : Int) : Thread :=
  ⟨1, item, op, [⟨t, op⟩], [], [], 0, leafOf c t, 0, 0, 0, w, 0, 0, 0, if c.wait > 0 then wrapA .i64 (now + c.wait) else 0⟩

theorem thread_begin {c : Config} (h : CfgOK c) (t : Int) (th : Thread) (item : Int) (op : Op) (now : Int) : F_thread_Begin c t th item op now = some (begunT c t item op now th.width) := by
  unfold F_thread_Begin begunT
  simp only [C_shape_Leaf, leaf_eq h, cond_dec]
  by_cases e : c.wait > 0
  · rw [if_pos e, if_pos e]
  · rw [if_neg e, if_neg e]

/-- A turn of a thread that begins, in a memory that was just built. -/
noncomputable def firstT (c : Config) (t item : Int) (op : Op) (now : Int) (tp : Tape) : Turn := ⟨c, t, now, builtM c, begunT c t item op now 1, tp, [], false⟩

theorem firstT_fit {c : Config} (h : CfgOK c) (hi : Num c.init) (hlo : Num c.lo) (hhi : Num c.hi) {t item : Int} {op : Op} {now : Int} (ht : 0 ≤ t ∧ t < c.threads) (hitem : 0 ≤ item ∧ item < c.items) (hop : Num op.v) {tp : Tape} (htp : Num tp.at_ ∧ tp.l.length ≤ 4294967296) : FitM (firstT c t item op now tp) := by
  have hs := size_bounds h
  refine ⟨⟨h, ht, ?_, ?_, ?_, ?_, ?_, ?_⟩, ?_, hitem, fun h => ?_, htp.1, htp.2, ⟨by show (-9223372036854775808 : Int) ≤ 1; omega, by show (1 : Int) ≤ _; omega⟩, hlo, hhi, ⟨by show (-9223372036854775808 : Int) ≤ 0; omega, by show (0 : Int) ≤ _; omega⟩, fun e he => ?_⟩
  · show ((fillW c _).length : Int) = sizeOf c
    rw [fillW_length]; omega
  · show ((List.replicate c.threads.toNat ([] : List Entry)).length : Int) = c.threads
    simp; omega
  · exact fillW_nums hi _
  · show 1 ≤ 1000000; omega
  · show 0 ≤ 1000000; omega
  · intro b hb
    have := List.eq_of_mem_replicate hb
    subst this
    simp
  · show 0 ≤ 4294967295; omega
  · have h : (17 : Int) ≤ 1 := h
    omega
  · have he : e ∈ [(⟨t, op⟩ : Entry)] := he
    rw [List.mem_singleton] at he
    subst he
    exact hop

/-! ### Alone -/
theorem conf_nums {c : Config} (o : (valSt celConfig).Ok c) : Num c.init ∧ Num c.lo ∧ Num c.hi := by
  have h1 : ∀ x : Int, AV.int .i64 x ∈ celConfig.enc c → Num x := fun x hx => lit_ok (o _ hx)
  refine ⟨h1 _ ?_, h1 _ ?_, h1 _ ?_⟩ <;>
  · simp only [celConfig, celAs, celApp, celInt, celBool, List.mem_append, List.mem_singleton]
    simp
theorem op_num {p : Op} (o : (valSt celOp).Ok p) : Num p.v := by
  have h1 : ∀ x : Int, AV.int .i64 x ∈ celOp.enc p → Num x := fun x hx => lit_ok (o _ hx)
  refine h1 _ ?_
  simp only [celOp, celAs, celApp, celInt, List.mem_append, List.mem_singleton]
  simp
theorem u8_num {x : Int} (h : (valInt .u8).Ok x) : 0 ≤ x ∧ x ≤ 255 := by
  have h' : (Lit.int .u8 x).wf = true := h
  simp [Lit.wf, IntKind.has, IntKind.min, IntKind.max, IntKind.signed, IntKind.bits] at h'
  omega
theorem wrap_u8 {x : Int} (h : (valInt .u8).Ok x) : IntKind.i64.wrap x = x := by
  obtain ⟨h1, h2⟩ := u8_num h
  simp [IntKind.wrap, IntKind.signed, IntKind.bits]
  omega

theorem tmod_in {a b : Int} (h0 : 0 ≤ a) (h1 : 1 ≤ b) : 0 ≤ a.tmod b ∧ a.tmod b < b := ⟨Int.tmod_nonneg b h0, Int.tmod_lt_of_pos a (by omega)⟩

end Go.Proofs.Mill
