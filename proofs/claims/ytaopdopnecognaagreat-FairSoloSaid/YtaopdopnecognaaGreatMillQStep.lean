/- A machine's step, as a plain function of a turn. -/
import Derived.Test.YtaopdopnecognaaGreatMillQCollide
import Derived.Test.YtaopdopnecognaaGreatMillQApply
namespace Go.Proofs.Mill
set_option linter.all false

/-! ### A batch, done to a cell -/
noncomputable def allT (lo hi : Int) : List Entry → Int → Int
  | [], x => x
  | e :: r, x => allT lo hi r (App e.op x lo hi).1
noncomputable def priorsT (lo hi : Int) : List Entry → Int → List Int
  | [], _ => []
  | e :: r, x => x :: priorsT lo hi r (App e.op x lo hi).1

theorem priorsT_length (lo hi : Int) : ∀ (b : List Entry) (x : Int), (priorsT lo hi b x).length = b.length
  | [], _ => rfl
  | e :: r, x => by simp [priorsT, priorsT_length lo hi r]

theorem cells_all {lo hi : Int} (hlo : Num lo) (hhi : Num hi) : ∀ (b : List Entry) (x : Int), Num x → (∀ e ∈ b, Num e.op.v) →
    ∃ l, cellsOf (apC lo hi) b x = some l ∧ l.map (·.1) = priorsT lo hi b x ∧ l.foldl (fun _ p => p.2) x = allT lo hi b x ∧ Num (allT lo hi b x)
  | [], x, hx, _ => ⟨[], rfl, rfl, rfl, hx⟩
  | e :: r, x, hx, hb => by
    have hv := hb e (by simp)
    obtain ⟨l, h1, h2, h3, h4⟩ := cells_all hlo hhi r (App e.op x lo hi).1 (app_num hx hv hlo) (fun e he => hb e (by simp [he]))
    refine ⟨(x, (App e.op x lo hi).1) :: l, ?_, by simp [h2, priorsT], h3, h4⟩
    unfold cellsOf
    have : apC lo hi e x = some (App e.op x lo hi).1 := by
      unfold apC
      rw [show C_oper_Apply (e.op, x, lo, hi) = some (App e.op x lo hi) from oper_apply hx hv hlo hhi]
    rw [this]
    simp only [h1]

theorem batch_all {lo hi x : Int} {b : List Entry} (hlo : Num lo) (hhi : Num hi) (hx : Num x) (hb : ∀ e ∈ b, Num e.op.v) (hl : b.length ≤ 4294967296) : F_batch_All b x lo hi = some (allT lo hi b x) := by
  obtain ⟨l, h1, _, h3, _⟩ := cells_all hlo hhi b x hx hb
  simp only [F_batch_All, few_true hl, cond_true, h1, h3]

theorem batch_priors {lo hi x : Int} {b : List Entry} (hlo : Num lo) (hhi : Num hi) (hx : Num x) (hb : ∀ e ∈ b, Num e.op.v) (hl : b.length ≤ 4294967296) : F_batch_Priors b x lo hi = some (priorsT lo hi b x) := by
  obtain ⟨l, h1, h2, _, _⟩ := cells_all hlo hhi b x hx hb
  simp only [F_batch_Priors, few_true hl, cond_true, h1, h2]

theorem batch_upto {b : List Entry} {n : Int} (hl : b.length ≤ 4294967296) : F_batch_Upto b n = some (b.take n.toNat) := by
  unfold F_batch_Upto
  simp only [cond_dec]
  have key : ∀ m : Int, 0 ≤ m → m ≤ (b.length : Int) → C_slices_Clone_batch_Entry (List.drop (Int.toNat (0 : Int)) (List.take m.toNat b)) = some (b.take m.toNat) := by
    intro m h0 h1
    show F_slices_Clone_batch_Entry _ = _
    rw [show Int.toNat (0 : Int) = 0 from rfl, List.drop_zero, clone_entry (by simp; omega)]
  by_cases h : (b.length : Int) < n
  · simp only [if_pos h]
    by_cases h2 : (b.length : Int) > 0
    · simp only [if_pos h2]
      rw [if_pos (by omega), if_pos (by omega), key _ (by omega) (by omega)]
      rw [List.take_of_length_le (by omega), List.take_of_length_le (by omega)]
    · simp only [if_neg h2]
      rw [if_pos (by omega), if_pos (by omega), key _ (by omega) (by omega)]
      have : b = [] := List.length_eq_zero_iff.1 (by omega)
      subst this
      simp
  · simp only [if_neg h]
    by_cases h2 : n > 0
    · simp only [if_pos h2]
      rw [if_pos (by omega), if_pos (by omega), key _ (by omega) (by omega)]
    · simp only [if_neg h2]
      rw [if_pos (by omega), if_pos (by omega), key _ (by omega) (by omega)]
      have : n.toNat = 0 := by omega
      simp [this]

/-! ### Telling -/
theorem code_told : F_code_Told = some 5 := by kernel_rfl

def cellAt (c : Config) (item : Int) : Int := if item < 0 ∨ item ≥ c.items then -1 else item * blockOf c
def resAt (c : Config) (t : Int) : Int := if t < 0 ∨ t ≥ c.threads then -1 else linesOf c + 2 * t + 1

theorem arena_cell {c : Config} (h : CfgOK c) (i : Int) : F_arena_Cell c i = some (cellAt c i) := by
  unfold F_arena_Cell cellAt
  simp only [cond_dec]
  by_cases h1 : i < 0
  · rw [if_pos h1, if_pos (.inl h1)]
  · rw [if_neg h1]
    by_cases h2 : i ≥ c.items
    · rw [if_pos h2, if_pos (.inr h2)]
    · rw [if_neg h2, if_neg (fun h => h.elim h1 h2)]
      simp only [C_arena_of, arena_of h]
      have := mul_item h (i := i) (by omega) (by omega)
      have := lines_bounds h
      rw [wrap_id (by omega) (by omega)]

theorem arena_result {c : Config} (h : CfgOK c) (t : Int) : F_arena_Result c t = some (resAt c t) := by
  unfold F_arena_Result resAt
  simp only [cond_dec]
  by_cases h1 : t < 0
  · rw [if_pos h1, if_pos (.inl h1)]
  · rw [if_neg h1]
    by_cases h2 : t ≥ c.threads
    · rw [if_pos h2, if_pos (.inr h2)]
    · rw [if_neg h2, if_neg (fun h => h.elim h1 h2)]
      simp only [C_arena_of, arena_of h]
      have := lines_bounds h
      have := h.threads
      rw [wrap_id (n := (2 : Int) * t) (by omega) (by omega), wrap_id (n := linesOf c + 2 * t) (by omega) (by omega), wrap_id (by omega) (by omega)]

def settleT (u : Turn) : Turn := if u.th.at_ < 0 ∨ u.th.at_ ≥ (u.th.kids.length : Int) then { u with th := { u.th with phase := 0 }, done := true } else { u with th := { u.th with phase := 15 } }

theorem share_settle (u : Turn) : F_share_Settle u = some (settleT u) := by
  unfold F_share_Settle settleT
  simp only [cond_dec]
  by_cases h1 : u.th.at_ < 0
  · rw [if_pos h1, if_pos (.inl h1)]
  · rw [if_neg h1]
    by_cases h2 : u.th.at_ ≥ (u.th.kids.length : Int)
    · rw [if_pos h2, if_pos (.inr h2)]
    · rw [if_neg h2, if_neg (show ¬ (u.th.at_ < 0 ∨ u.th.at_ ≥ (u.th.kids.length : Int)) from fun h => h.elim h1 h2), if_pos (by omega), if_pos (by omega)]

/-- What a machine's step asks of a turn. -/
structure FitM (u : Turn) : Prop where
  g : FitG u
  held : u.th.held.length ≤ 4294967295
  item : 0 ≤ u.th.item ∧ u.th.item < u.c.items
  layer : 17 ≤ u.th.phase → 1 ≤ u.th.layer ∧ u.th.layer ≤ 3
  tape : Num u.tape.at_
  draws : u.tape.l.length ≤ 4294967296
  width : Num u.th.width
  lo : Num u.c.lo
  hi : Num u.c.hi
  x : Num u.th.x
  ops : ∀ e ∈ u.th.batch, Num e.op.v

theorem FitM.cell {u : Turn} (h : FitM u) : cellAt u.c u.th.item = u.th.item * blockOf u.c ∧ 0 ≤ u.th.item * blockOf u.c ∧ u.th.item * blockOf u.c < (u.m.words.length : Int) := by
  have h1 := mul_item h.g.cfg (i := u.th.item) h.item.1 (by have := h.item.2; omega)
  have h2 := h.g.words
  have h3 := h.g.cfg.threads
  unfold sizeOf at h2
  refine ⟨?_, h1.1, by omega⟩
  unfold cellAt
  rw [if_neg (by have := h.item; omega)]

theorem res_in {u : Turn} (h : FitG u) {t : Int} (h0 : 0 ≤ t) (h1 : t < u.c.threads) : resAt u.c t = linesOf u.c + 2 * t + 1 ∧ 0 ≤ resAt u.c t ∧ resAt u.c t < (u.m.words.length : Int) := by
  have h2 := h.words
  have h3 := lines_bounds h.cfg
  have e : resAt u.c t = linesOf u.c + 2 * t + 1 := by unfold resAt; rw [if_neg (by omega)]
  unfold sizeOf at h2
  rw [e]
  omega

theorem line_in {u : Turn} (h : FitG u) {t : Int} (h0 : 0 ≤ t) (h1 : t < u.c.threads) : 0 ≤ lineAt u.c t ∧ lineAt u.c t < (u.m.words.length : Int) ∧ lineAt u.c t ≠ -1 := by
  have h2 := lineAt_in h.cfg h0 h1
  have h3 := h.words
  have h4 := lines_bounds h.cfg
  omega

/-- The kid that is next. -/
def kidAt (u : Turn) : Kid := u.th.kids.getD u.th.at_.toNat ⟨0, 0⟩
abbrev noKid (u : Turn) : Prop := u.th.at_ < 0 ∨ u.th.at_ ≥ (u.th.kids.length : Int)

/-- A step of a thread that tells, or is told. -/
noncomputable def shareT (u : Turn) : Turn × Bool :=
  if u.th.phase = 13 then (if wordAt u (lineAt u.c u.t) = 5 then { u with th := { u.th with phase := 14 } } else u, true)
  else if u.th.phase = 14 then (settleT { u with th := { u.th with at_ := 0, x := wordAt u (resAt u.c u.t) } }, true)
  else if u.th.phase = 15 then (if noKid u then u else if resAt u.c (kidAt u).t = -1 then u
    else { setW u (resAt u.c (kidAt u).t) (allT u.c.lo u.c.hi (u.th.batch.take (kidAt u).ahead.toNat) u.th.x) with th := { u.th with phase := 16 } }, true)
  else if u.th.phase = 16 then (if noKid u then u else if lineAt u.c (kidAt u).t = -1 then u
    else settleT { setW u (lineAt u.c (kidAt u).t) 5 with th := { u.th with at_ := wrapA .i64 (u.th.at_ + 1) } }, true)
  else (u, false)

theorem wmem_load_in {m : Memo} {a : Int} (h0 : 0 ≤ a) (h1 : a < (m.words.length : Int)) : F_wmem_Load m a = some (m.words.getD a.toNat 0, 0) := by
  simp only [F_wmem_Load, C_wmem_at_int, wmem_at_in h0 h1]

theorem FitG.wl {u : Turn} (h : FitG u) : u.m.words.length ≤ 4294967296 := by have := h.len; omega

theorem share_step {u : Turn} (h : FitM u) : F_share_Step u = some (shareT u) := by
  have hc := h.g.cfg
  have hl := line_in h.g h.g.t.1 h.g.t.2
  have hr := res_in h.g h.g.t.1 h.g.t.2
  unfold F_share_Step shareT
  by_cases p13 : u.th.phase = 13
  · rw [beq_t p13, if_pos p13]
    simp only [cond_true, G_share_13, C_arena_Line, arena_line hc, C_wmem_Load, wmem_load_in hl.1 hl.2.1, C_code_Told, code_told]
    by_cases e : u.m.words.getD (lineAt u.c u.t).toNat 0 = 5
    · rw [show ((0 : Int) == 0) = true from rfl, beq_t e, if_pos e]; rfl
    · rw [show ((0 : Int) == 0) = true from rfl, beq_f e, if_neg e]; rfl
  rw [beq_f p13, if_neg p13]
  simp only [cond_false]
  by_cases p14 : u.th.phase = 14
  · rw [beq_t p14, if_pos p14]
    simp only [cond_true, G_share_14, C_arena_Result, arena_result hc, C_wmem_Load, wmem_load_in hr.2.1 hr.2.2, bne_self_eq_false, cond_false, C_share_Settle, share_settle]
  rw [beq_f p14, if_neg p14]
  simp only [cond_false]
  by_cases p15 : u.th.phase = 15
  · rw [beq_t p15, if_pos p15]
    simp only [cond_true, G_share_15, cond_dec]
    by_cases k1 : u.th.at_ < 0
    · rw [if_pos k1, if_pos (show noKid u from .inl k1)]
    rw [if_neg k1]
    by_cases k2 : u.th.at_ ≥ (u.th.kids.length : Int)
    · rw [if_pos k2, if_pos (show noKid u from .inr k2)]
    rw [if_neg k2, if_neg (show ¬ noKid u from fun h => h.elim k1 k2), if_pos (by omega), if_pos (by omega)]
    have hb : u.th.batch.length ≤ 4294967296 := by have := h.g.batch; omega
    have hall : C_batch_All (u.th.batch.take (kidAt u).ahead.toNat, u.th.x, u.c.lo, u.c.hi) = some (allT u.c.lo u.c.hi (u.th.batch.take (kidAt u).ahead.toNat) u.th.x) :=
      batch_all h.lo h.hi h.x (fun e he => h.ops e (List.mem_of_mem_take he)) (by simp; omega)
    have hup : C_batch_Upto (u.th.batch, (u.th.kids.getD u.th.at_.toNat dKid).ahead) = some (u.th.batch.take (kidAt u).ahead.toNat) := batch_upto hb
    have hres : C_arena_Result (u.c, (u.th.kids.getD u.th.at_.toNat dKid).t) = some (resAt u.c (kidAt u).t) := arena_result hc _
    simp only [hup, hall, hres, C_wmem_Store]
    by_cases e : resAt u.c (kidAt u).t = -1
    · rw [wmem_store_out (.inl (by omega)), if_pos e]; rfl
    · have hk : 0 ≤ (kidAt u).t ∧ (kidAt u).t < u.c.threads := by unfold resAt at e; split at e <;> omega
      have hk2 := res_in h.g hk.1 hk.2
      rw [wmem_store_in hk2.2.1 hk2.2.2 h.g.wl, if_neg e]; rfl
  rw [beq_f p15, if_neg p15]
  simp only [cond_false]
  by_cases p16 : u.th.phase = 16
  · rw [beq_t p16, if_pos p16]
    simp only [cond_true, G_share_16, cond_dec]
    by_cases k1 : u.th.at_ < 0
    · rw [if_pos k1, if_pos (show noKid u from .inl k1)]
    rw [if_neg k1]
    by_cases k2 : u.th.at_ ≥ (u.th.kids.length : Int)
    · rw [if_pos k2, if_pos (show noKid u from .inr k2)]
    rw [if_neg k2, if_neg (show ¬ noKid u from fun h => h.elim k1 k2), if_pos (by omega), if_pos (by omega)]
    have hline : C_arena_Line (u.c, (u.th.kids.getD u.th.at_.toNat dKid).t) = some (lineAt u.c (kidAt u).t) := arena_line hc _
    simp only [hline, C_code_Told, code_told, C_wmem_Store]
    by_cases e : lineAt u.c (kidAt u).t = -1
    · rw [wmem_store_out (.inl (by omega)), if_pos e]; rfl
    · have hk := lineAt_bounds hc e
      have hk2 := line_in h.g hk.2.2.1 hk.2.2.2.1
      rw [wmem_store_in hk2.1 hk2.2.1 h.g.wl, if_neg e]
      simp only [bne_self_eq_false, cond_false, C_share_Settle, share_settle]
  rw [beq_f p16, if_neg p16]
  rfl

/-! ### Committing -/
noncomputable def marksT (u : Turn) (x : Int) : List Mark := List.zipWith (fun (e : Entry) p => (⟨e.t, u.th.item, e.op, p, 0⟩ : Mark)) u.th.batch (priorsT u.c.lo u.c.hi u.th.batch x)

theorem marksT_length (u : Turn) (x : Int) : (marksT u x).length = u.th.batch.length := by simp [marksT, priorsT_length]

noncomputable def commitT (u : Turn) (x : Int) : Turn := settleT { u with th := { u.th with at_ := 0, x := x }, log := u.log ++ marksT u x }

theorem commit_loop {u z : Turn} {x : Int} {ps : List Int} (hp : ps.length = u.th.batch.length) (hl : u.log.length + u.th.batch.length ≤ 4294967296) :
    W_commit_commit_4 (x, u, z, (), u.log, ps, (ps.length : Int), 0) = some (x, u, z, (), u.log ++ List.zipWith (fun (e : Entry) p => (⟨e.t, u.th.item, e.op, p, 0⟩ : Mark)) u.th.batch ps) := by
  obtain ⟨ms, hms⟩ : ∃ ms, ms = List.zipWith (fun (e : Entry) p => (⟨e.t, u.th.item, e.op, p, 0⟩ : Mark)) u.th.batch ps := ⟨_, rfl⟩
  have hlen : ms.length = ps.length := by rw [hms]; simp [hp]
  rw [← hms]
  unfold W_commit_commit_4
  have h0 : whileM T_commit_commit_4 (x, u, z, (), u.log ++ ms.take 0, ps, (ps.length : Int), ((0 : Nat) : Int)) = some (x, u, z, (), u.log ++ ms) := whileM_for (step := T_commit_commit_4) (fun i => (x, u, z, (), u.log ++ ms.take i, ps, (ps.length : Int), (i : Int))) ps.length (y := (x, u, z, (), u.log ++ ms)) (fun i hi => ?_) ?_
  · rw [List.take_zero, List.append_nil] at h0
    exact h0
  · show S_commit_commit_4 _ _ _ _ _ _ _ _ = _
    unfold S_commit_commit_4
    have hw : wrapA .i64 ((i : Int) + 1) = ((i + 1 : Nat) : Int) := by rw [wrap_id (by omega) (by omega)]; rfl
    have hg : (ms.getD i ⟨0, 0, ⟨0, 0⟩, 0, 0⟩) = ⟨(u.th.batch.getD i dEntry).t, u.th.item, (u.th.batch.getD i dEntry).op, ps.getD i 0, 0⟩ := by
      have h1 : i < u.th.batch.length := by omega
      rw [hms]
      simp only [List.getD_eq_getElem?_getD, List.getElem?_zipWith, List.getElem?_eq_getElem h1, List.getElem?_eq_getElem hi, Option.getD_some]
    have hfew : fewB ((u.log ++ ms.take i).length + ([(⟨(u.th.batch.getD i dEntry).t, u.th.item, (u.th.batch.getD i dEntry).op, ps.getD i 0, 0⟩ : Mark)]).length) = true := few_true (by simp; omega)
    simp only [cond_dec, Int.toNat_natCast]
    rw [if_pos (by omega), if_pos (by omega), if_pos (by omega), if_pos (by omega), if_pos (by omega), hfew, hw]
    simp only [cond_true]
    rw [← take_next ms ⟨0, 0, ⟨0, 0⟩, 0, 0⟩ i (by omega), hg, List.append_assoc]
  · show S_commit_commit_4 _ _ _ _ _ _ _ _ = some (.inr _)
    unfold S_commit_commit_4
    simp only [cond_dec]
    rw [if_neg (by omega), List.take_of_length_le (by omega)]

theorem commit_commit {u : Turn} {x : Int} (hlo : Num u.c.lo) (hhi : Num u.c.hi) (hx : Num x) (hb : ∀ e ∈ u.th.batch, Num e.op.v) (hl : u.log.length + u.th.batch.length ≤ 4294967296) : F_commit_commit u x = some (commitT u x) := by
  unfold F_commit_commit
  rw [few_true (by omega)]
  simp only [cond_true, C_batch_Priors, batch_priors hlo hhi hx hb (by omega)]
  rw [commit_loop (priorsT_length _ _ _ _) hl]
  simp only [C_share_Settle, share_settle]
  rfl

noncomputable def comparedU (u : Turn) : Turn :=
  if wordAt u (cellAt u.c u.th.item) = u.th.x then commitT (setW u (cellAt u.c u.th.item) u.th.y) u.th.x
  else { u with th := { u.th with phase := 2, width := if u.th.width < u.c.width then (if u.c.width < wrapA .i64 (u.th.width * 2) then u.c.width else wrapA .i64 (u.th.width * 2)) else (if u.c.width < u.th.width then u.c.width else u.th.width) } }

/-- A step of a thread at a cell. -/
noncomputable def commitS (u : Turn) : Turn × Bool :=
  if u.th.phase = 3 then (comparedU u, true)
  else if u.th.phase = 2 ∨ u.th.phase = 25 then
    (if allT u.c.lo u.c.hi u.th.batch (wordAt u (cellAt u.c u.th.item)) = wordAt u (cellAt u.c u.th.item) then commitT u (wordAt u (cellAt u.c u.th.item))
     else if u.th.phase = 25 then onwardT u
     else { u with th := { u.th with phase := 3, x := wordAt u (cellAt u.c u.th.item), y := allT u.c.lo u.c.hi u.th.batch (wordAt u (cellAt u.c u.th.item)) } }, true)
  else (u, false)

theorem commit_step {u : Turn} (h : FitM u) (hlog : u.log = []) : F_commit_Step u = some (commitS u) := by
  have hc := h.g.cfg
  obtain ⟨hcell, c0, c1⟩ := h.cell
  rw [← hcell] at c0 c1
  have hb : u.th.batch.length ≤ 4294967296 := by have := h.g.batch; omega
  have hw : Num (wordAt u (cellAt u.c u.th.item)) := h.g.word c0 c1
  have hcom : ∀ {v : Turn} {x : Int}, v.c = u.c → v.th.batch = u.th.batch → v.log = u.log → Num x → C_commit_commit (v, x) = some (commitT v x) := by
    intro v x h1 h2 h3 hx
    refine commit_commit (by rw [h1]; exact h.lo) (by rw [h1]; exact h.hi) hx (by rw [h2]; exact h.ops) ?_
    rw [h2, h3, hlog]
    have := h.g.batch
    simp only [List.length_nil]
    omega
  have hall : C_batch_All (u.th.batch, wordAt u (cellAt u.c u.th.item), u.c.lo, u.c.hi) = some (allT u.c.lo u.c.hi u.th.batch (wordAt u (cellAt u.c u.th.item))) := batch_all h.lo h.hi hw h.ops hb
  unfold F_commit_Step commitS
  by_cases p3 : u.th.phase = 3
  · rw [beq_t p3, if_pos p3]
    simp only [cond_true, C_commit_compared, F_commit_compared, C_arena_Cell, arena_cell hc, C_wmem_Cas, wmem_cas_in c0 c1 h.g.wl, bne_self_eq_false, cond_false]
    unfold comparedU
    by_cases e : u.m.words.getD (cellAt u.c u.th.item).toNat 0 = u.th.x
    · rw [decide_eq_true e, if_pos e, if_pos e]
      simp only [cond_true]
      rw [hcom (v := setW u (cellAt u.c u.th.item) u.th.y) (x := u.th.x) rfl rfl rfl h.x]
    · rw [decide_eq_false e, if_neg e, if_neg (show ¬ wordAt u (cellAt u.c u.th.item) = u.th.x from e)]
      simp only [cond_false, cond_dec]
      by_cases e2 : u.th.width < u.c.width
      · rw [if_pos e2, if_pos e2]
      · rw [if_neg e2, if_neg e2]
  rw [beq_f p3, if_neg p3]
  simp only [cond_false, C_arena_Cell, arena_cell hc, C_wmem_Load, wmem_load_in c0 c1]
  have hrest : ∀ q : Bool, (q = (u.th.phase == (25 : Int))) → (match C_batch_All (u.th.batch, u.m.words.getD (cellAt u.c u.th.item).toNat 0, u.c.lo, u.c.hi) with
      | some y3 =>
        bif (0 : Int) != (0 : Int) then some (u, true)
        else
          bif u.m.words.getD (cellAt u.c u.th.item).toNat 0 == u.m.words.getD (cellAt u.c u.th.item).toNat 0 && (y3 == u.m.words.getD (cellAt u.c u.th.item).toNat 0 && true) then
            match C_commit_commit (u, u.m.words.getD (cellAt u.c u.th.item).toNat 0) with
            | some y4 => some (y4, true)
            | none => none
          else
            bif u.th.phase == (25 : Int) then
              match C_commit_Onward u with
              | some y4 => some (y4, true)
              | none => none
            else some ({ u with th := { u.th with phase := (3 : Int), x := u.m.words.getD (cellAt u.c u.th.item).toNat 0, y := y3 } }, true)
      | none => none) = some (if allT u.c.lo u.c.hi u.th.batch (wordAt u (cellAt u.c u.th.item)) = wordAt u (cellAt u.c u.th.item) then commitT u (wordAt u (cellAt u.c u.th.item))
     else if u.th.phase = 25 then onwardT u
     else { u with th := { u.th with phase := 3, x := wordAt u (cellAt u.c u.th.item), y := allT u.c.lo u.c.hi u.th.batch (wordAt u (cellAt u.c u.th.item)) } }, true) := by
    intro q hq
    rw [hall]
    simp only [bne_self_eq_false, cond_false, beq_self_eq_true, Bool.true_and, Bool.and_true]
    by_cases e : allT u.c.lo u.c.hi u.th.batch (wordAt u (cellAt u.c u.th.item)) = wordAt u (cellAt u.c u.th.item)
    · rw [beq_t e, if_pos e]
      simp only [cond_true]
      rw [hcom rfl rfl rfl hw]
    · rw [beq_f e, if_neg e]
      simp only [cond_false]
      by_cases p : u.th.phase = 25
      · rw [beq_t p, if_pos p]
        simp only [cond_true, C_commit_Onward, commit_onward]
      · rw [beq_f p, if_neg p]
        rfl
  by_cases p2 : u.th.phase = 2
  · rw [bne_f p2, if_pos (.inl p2)]
    simp only [cond_false]
    exact hrest _ rfl
  · rw [bne_t p2]
    simp only [cond_true]
    by_cases p25 : u.th.phase = 25
    · rw [bne_f p25, if_pos (.inr p25)]
      simp only [cond_false]
      exact hrest _ rfl
    · rw [bne_t p25, if_neg (fun h => h.elim p2 p25)]
      rfl

/-! ### The whole -/
def startT (u : Turn) : Turn :=
  if u.c.backend = 2 ∧ u.c.depth > 0 then { u with th := { u.th with phase := 4 } }
  else if u.c.backend = 3 ∧ u.c.layers > 0 then { u with th := { u.th with phase := 17, layer := 1 } }
  else { u with th := { u.th with phase := 2 } }

theorem machine_start (u : Turn) : F_machine_Start u = some (startT u) := by
  unfold F_machine_Start startT
  simp only [cond_dec]
  by_cases b2 : u.c.backend = 2
  · have b3 : ¬ u.c.backend = 3 := by omega
    rw [beq_t b2, beq_f b3, if_neg (show ¬ (u.c.backend = 3 ∧ u.c.layers > 0) from fun h => b3 h.1)]
    simp only [cond_true, cond_false]
    by_cases d : u.c.depth > 0
    · rw [if_pos d, if_pos (show u.c.backend = 2 ∧ u.c.depth > 0 from ⟨b2, d⟩)]
    · rw [if_neg d, if_neg (show ¬ (u.c.backend = 2 ∧ u.c.depth > 0) from fun h => d h.2)]
  · rw [beq_f b2, if_neg (show ¬ (u.c.backend = 2 ∧ u.c.depth > 0) from fun h => b2 h.1)]
    simp only [cond_false]
    by_cases b3 : u.c.backend = 3
    · rw [beq_t b3]
      simp only [cond_true]
      by_cases d : u.c.layers > 0
      · rw [if_pos d, if_pos (show u.c.backend = 3 ∧ u.c.layers > 0 from ⟨b3, d⟩)]
      · rw [if_neg d, if_neg (show ¬ (u.c.backend = 3 ∧ u.c.layers > 0) from fun h => d h.2)]
    · rw [beq_f b3, if_neg (show ¬ (u.c.backend = 3 ∧ u.c.layers > 0) from fun h => b3 h.1)]
      rfl

def clearT (u : Turn) : Turn × Bool := if u.th.phase = 1 then (startT (setW u (lineAt u.c u.t) 0), true) else (u, false)

theorem machine_clear {u : Turn} (h : FitG u) : F_machine_clear u = some (clearT u) := by
  have hl := line_in h h.t.1 h.t.2
  unfold F_machine_clear clearT
  by_cases p : u.th.phase = 1
  · rw [bne_f p, if_pos p]
    simp only [cond_false, C_arena_Line, arena_line h.cfg, C_wmem_Store, wmem_store_in hl.1 hl.2.1 h.wl, bne_self_eq_false, C_machine_Start, machine_start]
  · rw [bne_t p, if_neg p]
    rfl

theorem collide_idle {u : Turn} (hp : u.th.phase ≠ 17 ∧ u.th.phase ≠ 18 ∧ u.th.phase ≠ 19 ∧ u.th.phase ≠ 20 ∧ u.th.phase ≠ 21 ∧ u.th.phase ≠ 22 ∧ u.th.phase ≠ 23 ∧ u.th.phase ≠ 24 ∧ u.th.phase ≠ 26) : F_collide_Step u = some (u, false) ∧ collideT u = (u, false) := by
  obtain ⟨p1, p2, p3, p4, p5, p6, p7, p8, p9⟩ := hp
  constructor
  · simp only [F_collide_Step, C_code_Open, F_code_Open, C_code_said_word, F_code_said_word, beq_f p1, beq_f p2, beq_f p3, beq_f p4, beq_f p5, beq_f p6, beq_f p7, beq_f p8, beq_f p9, cond_false]
  · simp only [collideT, if_neg p1, if_neg p2, if_neg p3, if_neg p4, if_neg p5, if_neg p6, if_neg p7, if_neg p8, if_neg p9]

theorem FitM.fit {u : Turn} (h : FitM u) : Fit u := ⟨h.g.cfg, h.g.t, h.g.words, h.g.nums, h.held⟩

theorem collide_all {u : Turn} (h : FitM u) : F_collide_Step u = some (collideT u) := by
  by_cases p : 17 ≤ u.th.phase
  · exact collide_step ⟨h.g, h.item, h.layer p, h.tape, h.draws, h.width⟩
  · obtain ⟨h1, h2⟩ := collide_idle (u := u) (by omega)
    rw [h1, h2]

/-- A turn that begins a step. -/
def begT (u : Turn) : Turn := { u with log := [], done := false }
theorem FitM.beg {u : Turn} (h : FitM u) : FitM (begT u) := ⟨⟨h.g.cfg, h.g.t, h.g.words, h.g.boxes, h.g.nums, h.g.batch, h.g.kids, h.g.box⟩, h.held, h.item, h.layer, h.tape, h.draws, h.width, h.lo, h.hi, h.x, h.ops⟩

/-- **A machine's step.** -/
noncomputable def machineT (u : Turn) : Turn :=
  if u.th.phase = 0 then u
  else if (clearT (begT u)).2 = true then (clearT (begT u)).1
  else if (shareT (begT u)).2 = true then (shareT (begT u)).1
  else if (commitS (begT u)).2 = true then (commitS (begT u)).1
  else if (climbT (begT u)).2 = true then (climbT (begT u)).1
  else if (gatherT (begT u)).2 = true then (gatherT (begT u)).1
  else if (collideT (begT u)).2 = true then (collideT (begT u)).1
  else begT u

theorem machine_step {u : Turn} (h : FitM u) : F_machine_Step u = some (machineT u) := by
  have hb := h.beg
  unfold F_machine_Step machineT
  simp only [C_thread_Busy, F_thread_Busy]
  by_cases p : u.th.phase = 0
  · rw [bne_f p, if_pos p]; rfl
  rw [bne_t p, if_neg p]
  have e1 : C_machine_clear { u with log := ([] : List Mark), done := false } = some (clearT (begT u)) := machine_clear hb.g
  have e2 : C_share_Step { u with log := ([] : List Mark), done := false } = some (shareT (begT u)) := share_step hb
  have e3 : C_commit_Step { u with log := ([] : List Mark), done := false } = some (commitS (begT u)) := commit_step hb rfl
  have e4 : C_climb_Step { u with log := ([] : List Mark), done := false } = some (climbT (begT u)) := climb_step hb.fit
  have e5 : C_gather_Step { u with log := ([] : List Mark), done := false } = some (gatherT (begT u)) := gather_step hb.g
  have e6 : C_collide_Step { u with log := ([] : List Mark), done := false } = some (collideT (begT u)) := collide_all hb
  simp only [Bool.not_true, cond_false, e1, e2, e3, e4, e5, e6]
  cases h1 : (clearT (begT u)).2 with
  | true => rfl
  | false =>
  cases h2 : (shareT (begT u)).2 with
  | true => rfl
  | false =>
  cases h3 : (commitS (begT u)).2 with
  | true => rfl
  | false =>
  cases h4 : (climbT (begT u)).2 with
  | true => rfl
  | false =>
  cases h5 : (gatherT (begT u)).2 with
  | true => rfl
  | false =>
  cases h6 : (collideT (begT u)).2 with
  | true => rfl
  | false => rfl

end Go.Proofs.Mill
