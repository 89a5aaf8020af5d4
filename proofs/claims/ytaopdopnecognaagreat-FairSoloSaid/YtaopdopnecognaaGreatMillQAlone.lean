/- A thread that nobody disturbs, step by step. -/
import Derived.Test.YtaopdopnecognaaGreatMillQMCell
namespace Go.Proofs.Mill
set_option linter.all false

theorem blk_inj {B a b r s : Int} (hr : 0 ≤ r ∧ r < B) (hs : 0 ≤ s ∧ s < B) (h : a * B + r = b * B + s) : a = b ∧ r = s := by
  have h1 : (a * B + r) / B = a := by rw [Int.add_comm, Int.add_mul_ediv_right _ _ (by omega), Int.ediv_eq_zero_of_lt hr.1 hr.2, Int.zero_add]
  have h2 : (b * B + s) / B = b := by rw [Int.add_comm, Int.add_mul_ediv_right _ _ (by omega), Int.ediv_eq_zero_of_lt hs.1 hs.2, Int.zero_add]
  have e : a = b := by rw [← h1, h, h2]
  subst e
  exact ⟨rfl, by omega⟩

/-- A place of an item's. -/
abbrev pl (c : Config) (it r : Int) : Int := it * blockOf c + r

theorem pl_bounds {c : Config} (h : CfgOK c) {it r : Int} (h0 : 0 ≤ it) (h1 : it < c.items) (r0 : 0 ≤ r) (r1 : r < blockOf c) : 0 ≤ pl c it r ∧ pl c it r < linesOf c ∧ pl c it r < sizeOf c := by
  have a := mul_item h (i := it + 1) (by omega) (by omega)
  have b := mul_item h (i := it) h0 (by omega)
  have e : (it + 1) * blockOf c = it * blockOf c + blockOf c := by rw [Int.add_mul, Int.one_mul]
  have := h.threads
  unfold sizeOf
  show 0 ≤ it * blockOf c + r ∧ it * blockOf c + r < linesOf c ∧ it * blockOf c + r < linesOf c + 2 * c.threads
  omega

/-- What the words are. -/
structure Mem1 (c : Config) (t i : Int) (S : List Int) (lw : Int) (ws : List Int) : Prop where
  len : (ws.length : Int) = sizeOf c
  nums : ∀ n ∈ ws, Num n
  cells : ∀ it, 0 ≤ it → it < c.items → ws.getD (pl c it 0).toNat 0 = c.init
  nodes : ∀ it n, 0 ≤ it → it < c.items → 1 ≤ n → n ≤ nodesOf c → ws.getD (pl c it n).toNat 0 = if it = i ∧ n ∈ S then 8 * (t + 1) + 1 else 0
  slots : ∀ it r, 0 ≤ it → it < c.items → nodesOf c < r → r < blockOf c → ws.getD (pl c it r).toNat 0 = 0 ∨ ws.getD (pl c it r).toNat 0 = t + 1
  line : ws.getD (lineAt c t).toNat 0 = lw

theorem nums_set {l : List Int} (h : ∀ n ∈ l, Num n) {w : Int} (hw : Num w) (i : Nat) : ∀ n ∈ l.set i w, Num n := by
  intro n hn
  rcases List.mem_or_eq_of_mem_set hn with h1 | rfl
  · exact h n h1
  · exact hw

theorem getD_set_self' {l : List Int} {i : Nat} {a : Int} (h : i < l.length) : (l.set i a).getD i 0 = a := by
  rw [List.getD_eq_getElem?_getD, List.getElem?_set_self h, Option.getD_some]

section
variable {c : Config} {t i : Int} {S S' : List Int} {lw : Int} {ws : List Int}

theorem pl_ne (h : CfgOK c) {a b r s : Int} (ha : 0 ≤ a ∧ a < c.items) (hb : 0 ≤ b ∧ b < c.items) (hr : 0 ≤ r ∧ r < blockOf c) (hs : 0 ≤ s ∧ s < blockOf c) (hne : ¬ (a = b ∧ r = s)) : (pl c a r).toNat ≠ (pl c b s).toNat := by
  have h1 := pl_bounds h ha.1 ha.2 hr.1 hr.2
  have h2 := pl_bounds h hb.1 hb.2 hs.1 hs.2
  intro e
  exact hne (blk_inj hr hs (show a * blockOf c + r = b * blockOf c + s by have : pl c a r = pl c b s := by omega
                                                                          exact this))

theorem nodes_block (h : CfgOK c) : nodesOf c < blockOf c := by
  have := slots_bounds h
  unfold blockOf
  omega

/-- A node is written. -/
theorem Mem1.node (hc : CfgOK c) (ht : 0 ≤ t ∧ t < c.threads) (hi : 0 ≤ i ∧ i < c.items) (h : Mem1 c t i S lw ws) {n w : Int} (h1 : 1 ≤ n) (h2 : n ≤ nodesOf c) (hw : w = if n ∈ S' then 8 * (t + 1) + 1 else 0) (hS : ∀ m, m ≠ n → (m ∈ S' ↔ m ∈ S)) :
    Mem1 c t i S' lw (ws.set (pl c i n).toNat w) := by
  have hb := nodes_block hc
  have hp := pl_bounds hc hi.1 hi.2 (r := n) (by omega) (by omega)
  have htt := hc.threads
  have hl := lineAt_in hc ht.1 ht.2
  have hlen := h.len
  have ne : ∀ {a r : Int}, 0 ≤ a → a < c.items → 0 ≤ r → r < blockOf c → ¬ (i = a ∧ n = r) → (ws.set (pl c i n).toNat w).getD (pl c a r).toNat 0 = ws.getD (pl c a r).toNat 0 :=
    fun ha0 ha1 hr0 hr1 hne => getD_set_ne' (pl_ne hc hi ⟨ha0, ha1⟩ ⟨by omega, by omega⟩ ⟨hr0, hr1⟩ hne)
  refine ⟨by rw [List.length_set]; exact h.len, nums_set h.nums ?_ _, fun a h0 h1' => ?_, fun a m h0 h1' m1 m2 => ?_, fun a r h0 h1' r0 r1 => ?_, ?_⟩
  · rw [hw]; split
    · exact ⟨by omega, by omega⟩
    · exact ⟨by omega, by omega⟩
  · rw [ne h0 h1' (Int.le_refl 0) (by omega) (by omega)]; exact h.cells a h0 h1'
  · by_cases e : i = a ∧ n = m
    · obtain ⟨rfl, rfl⟩ := e
      rw [getD_set_self' (by omega), hw]
      simp
    · rw [ne h0 h1' (by omega) (by omega) e, h.nodes a m h0 h1' m1 m2]
      by_cases ea : a = i
      · subst ea
        have hm : m ≠ n := fun x => e ⟨rfl, x.symm⟩
        simp only [true_and, hS m hm]
      · rw [if_neg (fun x => ea x.1), if_neg (fun x => ea x.1)]
  · rw [ne h0 h1' (by omega) r1 (by omega)]; exact h.slots a r h0 h1' r0 r1
  · rw [getD_set_ne' (by omega)]; exact h.line

/-- The line is written. -/
theorem Mem1.lineW (hc : CfgOK c) (ht : 0 ≤ t ∧ t < c.threads) (h : Mem1 c t i S lw ws) {w : Int} (hw : Num w) : Mem1 c t i S w (ws.set (lineAt c t).toNat w) := by
  have hb := nodes_block hc
  have hl := lineAt_in hc ht.1 ht.2
  have hlen := h.len
  have ne : ∀ {a r : Int}, 0 ≤ a → a < c.items → 0 ≤ r → r < blockOf c → (ws.set (lineAt c t).toNat w).getD (pl c a r).toNat 0 = ws.getD (pl c a r).toNat 0 :=
    fun ha0 ha1 hr0 hr1 => getD_set_ne' (by have := pl_bounds hc ha0 ha1 hr0 hr1; omega)
  have hnb := nodes_bounds c
  have hll := lines_bounds hc
  refine ⟨by rw [List.length_set]; exact h.len, nums_set h.nums hw _, fun a h0 h1 => ?_, fun a m h0 h1 m1 m2 => ?_, fun a r h0 h1 r0 r1 => ?_, getD_set_self' (by omega)⟩
  · rw [ne h0 h1 (Int.le_refl 0) (by omega)]; exact h.cells a h0 h1
  · rw [ne h0 h1 (by omega) (by omega)]; exact h.nodes a m h0 h1 m1 m2
  · rw [ne h0 h1 (by omega) r1]; exact h.slots a r h0 h1 r0 r1

/-- A slot is written. -/
theorem Mem1.slot (hc : CfgOK c) (ht : 0 ≤ t ∧ t < c.threads) (hi : 0 ≤ i ∧ i < c.items) (h : Mem1 c t i S lw ws) {r : Int} (r0 : nodesOf c < r) (r1 : r < blockOf c) : Mem1 c t i S lw (ws.set (pl c i r).toNat (t + 1)) := by
  have hb := nodes_block hc
  have hl := lineAt_in hc ht.1 ht.2
  have hlen := h.len
  have htt := hc.threads
  have hnb := nodes_bounds c
  have hp := pl_bounds hc hi.1 hi.2 (r := r) (by omega) (by omega)
  have ne : ∀ {a s : Int}, 0 ≤ a → a < c.items → 0 ≤ s → s < blockOf c → ¬ (i = a ∧ r = s) → (ws.set (pl c i r).toNat (t + 1)).getD (pl c a s).toNat 0 = ws.getD (pl c a s).toNat 0 :=
    fun ha0 ha1 hr0 hr1 hne => getD_set_ne' (pl_ne hc hi ⟨ha0, ha1⟩ ⟨by omega, by omega⟩ ⟨hr0, hr1⟩ hne)
  refine ⟨by rw [List.length_set]; exact h.len, nums_set h.nums ⟨by omega, by omega⟩ _, fun a h0 h1 => ?_, fun a m h0 h1 m1 m2 => ?_, fun a s h0 h1 s0 s1 => ?_, ?_⟩
  · rw [ne h0 h1 (Int.le_refl 0) (by omega) (by omega)]; exact h.cells a h0 h1
  · rw [ne h0 h1 (by omega) (by omega) (by omega)]; exact h.nodes a m h0 h1 m1 m2
  · by_cases e : i = a ∧ r = s
    · obtain ⟨rfl, rfl⟩ := e
      rw [getD_set_self' (by omega)]
      exact .inr rfl
    · rw [ne h0 h1 (by omega) s1 e]; exact h.slots a s h0 h1 s0 s1
  · rw [getD_set_ne' (by omega)]; exact h.line
end

/-! ### The turn -/
structure Al (c : Config) (t i : Int) (op : Op) (S : List Int) (lw : Int) (u : Turn) : Prop where
  fit : FitM u
  cE : u.c = c
  tE : u.t = t
  item : u.th.item = i
  batch : u.th.batch = [⟨t, op⟩]
  kids : u.th.kids = []
  stop : u.th.stop = 0
  log : u.log = []
  done : u.done = false
  late : ¬ Late u
  wd : u.th.width = 1
  mem : Mem1 c t i S lw u.m.words

/-- What is the same of two turns. -/
structure Like (u v : Turn) : Prop where
  c : v.c = u.c
  t : v.t = u.t
  now : v.now = u.now
  item : v.th.item = u.th.item
  batch : v.th.batch = u.th.batch
  kids : v.th.kids = u.th.kids
  stop : v.th.stop = u.th.stop
  log : v.log = u.log
  done : v.done = u.done
  until_ : v.th.until_ = u.th.until_
  tape : v.tape = u.tape ∨ (Num v.tape.at_ ∧ v.tape.l.length ≤ 4294967296)

theorem Al.next {c : Config} {t i : Int} {op : Op} {S S' : List Int} {lw lw' : Int} {u v : Turn} (h : Al c t i op S lw u) (l : Like u v) (hm : Mem1 c t i S' lw' v.m.words) (hb : v.m.boxes = u.m.boxes ∨ ∃ k, v.m.boxes = u.m.boxes.set k u.th.batch)
    (hh : v.th.held.length ≤ 4294967295) (hl : 17 ≤ v.th.phase → 1 ≤ v.th.layer ∧ v.th.layer ≤ 3) (hw : v.th.width = 1) (hx : Num v.th.x) : Al c t i op S' lw' v := by
  have f := h.fit
  refine ⟨⟨⟨by rw [l.c]; exact f.g.cfg, by rw [l.c, l.t]; exact f.g.t, by rw [l.c, h.cE]; exact hm.len, ?_, hm.nums, by rw [l.batch]; exact f.g.batch, by rw [l.kids]; exact f.g.kids, ?_⟩, hh, by rw [l.item, l.c]; exact f.item, hl, (l.tape.elim (fun e => by rw [e]; exact f.tape) (fun e => e.1)), (l.tape.elim (fun e => by rw [e]; exact f.draws) (fun e => e.2)), by rw [hw]; exact ⟨by omega, by omega⟩,
    by rw [l.c]; exact f.lo, by rw [l.c]; exact f.hi, hx, by rw [l.batch]; exact f.ops⟩, l.c.trans h.cE, l.t.trans h.tE, l.item.trans h.item, l.batch.trans h.batch, l.kids.trans h.kids, l.stop.trans h.stop, l.log.trans h.log, l.done.trans h.done, ?_, hw, hm⟩
  · rcases hb with e | ⟨k, e⟩
    · rw [e, l.c]; exact f.g.boxes
    · rw [e, List.length_set, l.c]; exact f.g.boxes
  · intro b hbm
    rcases hb with e | ⟨k, e⟩
    · rw [e] at hbm; exact f.g.box b hbm
    · rw [e] at hbm
      rcases List.mem_or_eq_of_mem_set hbm with h1 | rfl
      · exact f.g.box b h1
      · exact f.g.batch
  · intro hl2
    apply h.late
    unfold Late at hl2 ⊢
    rw [l.until_, l.now] at hl2
    exact hl2

theorem Al.beg {c : Config} {t i : Int} {op : Op} {S : List Int} {lw : Int} {u : Turn} (h : Al c t i op S lw u) : begT u = u := by
  unfold begT
  rw [← h.log, ← h.done]

/-- It is over within so many steps. -/
inductive EndsIn (G : Turn → Prop) : Turn → Int → Prop
  | last {u : Turn} (hf : FitM u) (hp : u.th.phase ≠ 0) (hd : (machineT u).done = true) (hg : G (machineT u)) : EndsIn G u 1
  | step {u v : Turn} {k : Int} (hf : FitM u) (hp : u.th.phase ≠ 0) (hv : machineT u = v) (hd : v.done = false) (hl : v.log = []) (h : EndsIn G v k) (hk : 0 ≤ k) : EndsIn G u (k + 1)
  | more {u : Turn} {k k' : Int} (h : EndsIn G u k) (hk : k ≤ k') : EndsIn G u k'

/-- What is to be in the end. -/
structure Good (c : Config) (t i : Int) (op : Op) (v : Turn) : Prop where
  done : v.done = true
  idle : v.th.phase = 0
  x : v.th.x = c.init
  log : v.log = [⟨t, i, op, c.init, 0⟩]
  len : (v.m.words.length : Int) = sizeOf c
  cells : ∀ it, 0 ≤ it → it < c.items → v.m.words.getD (pl c it 0).toNat 0 = if it = i then (App op c.init c.lo c.hi).1 else c.init
  nodes : ∀ it n, 0 ≤ it → it < c.items → 1 ≤ n → n ≤ nodesOf c → v.m.words.getD (pl c it n).toNat 0 = 0
  line : v.m.words.getD (lineAt c t).toNat 0 = 0

section
variable {c : Config} {t i : Int} {op : Op} {u : Turn} {S : List Int} {lw : Int}

/-! ### The cell -/
theorem commitT_good {v : Turn} (hk : v.th.kids = []) (hb : v.th.batch = [⟨t, op⟩]) (hl : v.log = []) (hi : v.th.item = i) (hlen : (v.m.words.length : Int) = sizeOf c)
    (h1 : ∀ it, 0 ≤ it → it < c.items → v.m.words.getD (pl c it 0).toNat 0 = if it = i then (App op c.init c.lo c.hi).1 else c.init)
    (h2 : ∀ it n, 0 ≤ it → it < c.items → 1 ≤ n → n ≤ nodesOf c → v.m.words.getD (pl c it n).toNat 0 = 0) (h3 : v.m.words.getD (lineAt c t).toNat 0 = 0) : Good c t i op (commitT v c.init) := by
  have e : commitT v c.init = { v with th := { v.th with at_ := 0, x := c.init, phase := 0 }, log := v.log ++ marksT v c.init, done := true } := by
    unfold commitT settleT
    rw [if_pos]
    right
    show (0 : Int) ≥ (v.th.kids.length : Int)
    rw [hk]; simp
  rw [e]
  refine ⟨rfl, rfl, rfl, ?_, hlen, h1, h2, h3⟩
  show v.log ++ marksT v c.init = _
  rw [hl, List.nil_append]
  unfold marksT
  rw [hb, hi]
  rfl

theorem Al.cellA (h : Al c t i op S lw u) : cellAt u.c u.th.item = pl c i 0 := by
  rw [h.fit.cell.1, h.cE, h.item]; simp [pl]

theorem Al.itemB (h : Al c t i op S lw u) : 0 ≤ i ∧ i < c.items := by have := h.fit.item; rwa [h.item, h.cE] at this
theorem Al.cfg (h : Al c t i op S lw u) : CfgOK c := by have := h.fit.g.cfg; rwa [h.cE] at this
theorem Al.thr (h : Al c t i op S lw u) : 0 ≤ t ∧ t < c.threads := by have := h.fit.g.t; rwa [h.cE, h.tE] at this

theorem ends3 (h : Al c t i op [] 0 u) (p : u.th.phase = 3) (hx : u.th.x = c.init) (hy : u.th.y = (App op c.init c.lo c.hi).1) : EndsIn (Good c t i op) u 1 := by
  have hc := h.cfg
  have hi := h.itemB
  have ht := h.thr
  have hm := h.mem
  have hb := nodes_block hc
  have hnb := nodes_bounds c
  have hp := pl_bounds hc hi.1 hi.2 (r := 0) (Int.le_refl 0) (by omega)
  have hl := lineAt_in hc ht.1 ht.2
  have hlen := hm.len
  have e : machineT u = commitT (setW u (pl c i 0) (App op c.init c.lo c.hi).1) c.init := by
    rw [commit_phase (.inr (.inl p)), h.beg]
    unfold commitS
    rw [if_pos p]
    show comparedU u = _
    unfold comparedU
    rw [h.cellA, hx, hy, if_pos (hm.cells i hi.1 hi.2)]
  have g : Good c t i op (machineT u) := by
    rw [e]
    refine commitT_good h.kids h.batch h.log h.item ?_ (fun it h0 h1 => ?_) (fun it n h0 h1 n0 n1 => ?_) ?_
    · show ((u.m.words.set _ _).length : Int) = _
      rw [List.length_set]; exact hlen
    · show (u.m.words.set _ _).getD _ 0 = _
      by_cases e : it = i
      · subst e
        rw [if_pos rfl, getD_set_self' (by omega)]
      · rw [if_neg e, getD_set_ne' (pl_ne hc hi ⟨h0, h1⟩ ⟨Int.le_refl 0, by omega⟩ ⟨Int.le_refl 0, by omega⟩ (fun x => e x.1.symm)), hm.cells it h0 h1]
    · show (u.m.words.set _ _).getD _ 0 = _
      rw [getD_set_ne' (pl_ne hc hi ⟨h0, h1⟩ ⟨Int.le_refl 0, by omega⟩ ⟨by omega, by omega⟩ (by omega)), hm.nodes it n h0 h1 n0 n1]
      simp
    · show (u.m.words.set _ _).getD _ 0 = _
      rw [getD_set_ne' (by omega)]; exact hm.line
  exact EndsIn.last h.fit (by omega) g.done g

theorem ends2 (h : Al c t i op [] 0 u) (p : u.th.phase = 2) : EndsIn (Good c t i op) u 2 := by
  have hi := h.itemB
  have hm := h.mem
  have hw : wordAt u (cellAt u.c u.th.item) = c.init := by rw [h.cellA]; exact hm.cells i hi.1 hi.2
  have ha : allT u.c.lo u.c.hi u.th.batch (wordAt u (cellAt u.c u.th.item)) = (App op c.init c.lo c.hi).1 := by rw [hw, h.cE, h.batch]; rfl
  have e0 : machineT u = if (App op c.init c.lo c.hi).1 = c.init then commitT u c.init else { u with th := { u.th with phase := 3, x := c.init, y := (App op c.init c.lo c.hi).1 } } := by
    rw [commit_phase (.inl p), h.beg]
    unfold commitS
    rw [if_neg (by omega), if_pos (.inl p)]
    simp only [ha]
    rw [hw, if_neg (show ¬ u.th.phase = 25 by omega)]
  by_cases hy : (App op c.init c.lo c.hi).1 = c.init
  · rw [if_pos hy] at e0
    have g : Good c t i op (machineT u) := by
      rw [e0]
      refine commitT_good h.kids h.batch h.log h.item hm.len (fun it h0 h1 => ?_) (fun it n h0 h1 n0 n1 => ?_) hm.line
      · rw [hm.cells it h0 h1, hy]; split <;> rfl
      · rw [hm.nodes it n h0 h1 n0 n1]; simp
    exact (EndsIn.last h.fit (by omega) g.done g).more (by omega)
  · rw [if_neg hy] at e0
    have h3 : Al c t i op [] 0 { u with th := { u.th with phase := 3, x := c.init, y := (App op c.init c.lo c.hi).1 } } :=
      h.next ⟨rfl, rfl, rfl, rfl, rfl, rfl, rfl, rfl, rfl, rfl, .inl rfl⟩ hm (.inl rfl) h.fit.held (fun h => by have h : (17 : Int) ≤ 3 := h; omega) h.wd (by
        have := hm.cells i hi.1 hi.2
        have hp := pl_bounds h.cfg hi.1 hi.2 (r := 0) (Int.le_refl 0) (by have := nodes_block h.cfg; have := nodes_bounds c; omega)
        have hlen := hm.len
        have := hm.nums (u.m.words.getD (pl c i 0).toNat 0) (by
          rw [List.getD_eq_getElem?_getD, List.getElem?_eq_getElem (by omega), Option.getD_some]
          exact List.getElem_mem _)
        rwa [hm.cells i hi.1 hi.2] at this)
    exact EndsIn.step h.fit (by omega) e0 h.done h.log (ends3 h3 rfl rfl rfl) (by omega)

end
end Go.Proofs.Mill
