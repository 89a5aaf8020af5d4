/- A thread that nobody disturbs, through a tree and a funnel. -/
import Derived.Test.YtaopdopnecognaaGreatMillQAlone
namespace Go.Proofs.Mill
set_option linter.all false

theorem noClear {u : Turn} (p : u.th.phase ≠ 1) : ¬ (clearT u).2 = true := by unfold clearT; rw [if_neg p]; simp
theorem noShare {u : Turn} (p : u.th.phase < 13 ∨ 16 < u.th.phase) : ¬ (shareT u).2 = true := by
  unfold shareT
  rw [if_neg (by omega), if_neg (by omega), if_neg (by omega), if_neg (by omega)]
  simp
theorem noCommit {u : Turn} (p : u.th.phase ≠ 2 ∧ u.th.phase ≠ 3 ∧ u.th.phase ≠ 25) : ¬ (commitS u).2 = true := by
  unfold commitS
  rw [if_neg (by omega), if_neg (by omega)]
  simp
theorem noClimb {u : Turn} (p : u.th.phase < 4 ∨ 6 < u.th.phase) : ¬ (climbT u).2 = true := by
  unfold climbT
  rw [if_neg (by omega), if_neg (by omega), if_neg (by omega)]
  simp
theorem noGather {u : Turn} (p : u.th.phase < 7 ∨ 12 < u.th.phase) : ¬ (gatherT u).2 = true := by
  unfold gatherT
  rw [if_neg (by omega), if_neg (by omega), if_neg (by omega), if_neg (by omega), if_neg (by omega), if_neg (by omega)]
  simp

theorem climb_phase {u : Turn} (hb : begT u = u) (p : 4 ≤ u.th.phase ∧ u.th.phase ≤ 6) : machineT u = (climbT u).1 := by
  unfold machineT
  rw [hb, if_neg (by omega), if_neg (noClear (by omega)), if_neg (noShare (by omega)), if_neg (noCommit (by omega)), if_pos]
  unfold climbT
  by_cases p4 : u.th.phase = 4
  · rw [if_pos p4]
  rw [if_neg p4]
  by_cases p5 : u.th.phase = 5
  · rw [if_pos p5]
  rw [if_neg p5, if_pos (by omega)]

theorem gather_phase {u : Turn} (hb : begT u = u) (p : u.th.phase = 7 ∨ u.th.phase = 8) : machineT u = (gatherT u).1 := by
  unfold machineT
  rw [hb, if_neg (by omega), if_neg (noClear (by omega)), if_neg (noShare (by omega)), if_neg (noCommit (by omega)), if_neg (noClimb (by omega)), if_pos]
  unfold gatherT
  by_cases p7 : u.th.phase = 7
  · rw [if_pos p7]
  rw [if_neg p7, if_pos (by omega)]

theorem collide_phase {u : Turn} (hb : begT u = u) (p : 17 ≤ u.th.phase ∧ u.th.phase ≤ 19 ∨ u.th.phase = 23 ∨ u.th.phase = 26) : machineT u = (collideT u).1 := by
  unfold machineT
  rw [hb, if_neg (by omega), if_neg (noClear (by omega)), if_neg (noShare (by omega)), if_neg (noCommit (by omega)), if_neg (noClimb (by omega)), if_neg (noGather (by omega)), if_pos]
  unfold collideT
  by_cases p17 : u.th.phase = 17
  · rw [if_pos p17]
  rw [if_neg p17]
  by_cases p18 : u.th.phase = 18
  · rw [if_pos p18]
  rw [if_neg p18]
  by_cases p19 : u.th.phase = 19
  · rw [if_pos p19]
  rw [if_neg p19, if_neg (by omega), if_neg (by omega), if_neg (by omega)]
  by_cases p23 : u.th.phase = 23
  · rw [if_pos p23]
  rw [if_neg p23, if_neg (by omega), if_pos (by omega)]

theorem nodeAt_pl {c : Config} {i n : Int} (h : 0 ≤ i ∧ i < c.items) (h1 : 1 ≤ n) (h2 : n ≤ nodesOf c) : nodeAt c i n = pl c i n := by
  unfold nodeAt
  rw [if_neg (by omega)]

section
variable {c : Config} {t i : Int} {op : Op}

/-! ### Down a tree -/
theorem ends7_step {H : List Int} (hd : H.Pairwise (· > ·)) (hH : ∀ n ∈ H, 1 ≤ n ∧ n ≤ nodesOf c) (hl : H.length ≤ 100) (k : Nat) (u : Turn) (m : Nat) (hk : H.length = k + (m + 1)) (h : Al c t i op (H.drop k) 0 u) (p : u.th.phase = 7) (hh : u.th.held = H) (hat : u.th.at_ = (k : Int)) {E : Int}
    (next : ∀ v, Al c t i op (H.drop (k + 1)) 0 v → v.th.phase = (if k + 1 < H.length then 7 else 2) → v.th.held = H → v.th.at_ = ((k + 1 : Nat) : Int) → EndsIn (Good c t i op) v E) (hE : 0 ≤ E) : EndsIn (Good c t i op) u (E + 1 + 1) := by
  have hc := h.cfg
  have hi := h.itemB
  have ht := h.thr
  have hkl : k < H.length := by omega
  obtain ⟨n, hn⟩ : ∃ n, n = H[k] := ⟨_, rfl⟩
  have hdr : H.drop k = n :: H.drop (k + 1) := by rw [hn]; exact List.drop_eq_getElem_cons hkl
  have hmem : n ∈ H := by rw [hn]; exact List.getElem_mem _
  obtain ⟨n1, n2⟩ := hH n hmem
  have hpw : (H.drop k).Pairwise (· > ·) := hd.sublist (List.drop_sublist k H)
  rw [hdr, List.pairwise_cons] at hpw
  have hnot : n ∉ H.drop (k + 1) := fun x => by have := hpw.1 n x; omega
  have hheld : heldAt u = pl c i n := by
    unfold heldAt
    rw [hat, hh, if_neg (by omega), h.cE, h.item, Int.toNat_natCast, List.getD_eq_getElem?_getD, List.getElem?_eq_getElem hkl, Option.getD_some, ← hn]
    exact nodeAt_pl hi n1 n2
  have hne : heldAt u ≠ -1 := by have := pl_bounds hc hi.1 hi.2 (r := n) (by omega) (by have := nodes_block hc; omega); omega
  have hw : wordAt u (heldAt u) = 8 * (u.t + 1) + 1 := by
    rw [hheld, h.tE]
    have := h.mem.nodes i n hi.1 hi.2 n1 n2
    rw [if_pos ⟨rfl, by rw [hdr]; simp⟩] at this
    exact this
  have e7 : machineT u = { u with th := { u.th with phase := 8 } } := by
    rw [gather_phase h.beg (.inl p)]
    unfold gatherT
    rw [if_pos p]
    show (if heldAt u = -1 then u else _) = _
    rw [if_neg hne, if_pos hw]
  have h8 : Al c t i op (H.drop k) 0 { u with th := { u.th with phase := 8 } } := h.next ⟨rfl, rfl, rfl, rfl, rfl, rfl, rfl, rfl, rfl, rfl, .inl rfl⟩ h.mem (.inl rfl) h.fit.held (fun h => by have h : (17 : Int) ≤ 8 := h; omega) h.wd h.fit.x
  refine EndsIn.step h.fit (by omega) e7 h.done h.log ?_ (by omega)
  obtain ⟨q, hq⟩ : ∃ q : Turn, q = { u with th := { u.th with phase := 8 } } := ⟨_, rfl⟩
  rw [← hq] at h8 ⊢
  have hqh : heldAt q = pl c i n := by rw [hq]; exact hheld
  have hqw : wordAt q (heldAt q) = 8 * (q.t + 1) + 1 := by rw [hq]; exact hw
  have pq : q.th.phase = 8 := by rw [hq]
  have e8 : machineT q = nextT (setW q (pl c i n) 0) := by
    rw [gather_phase h8.beg (.inr pq)]
    unfold gatherT
    rw [if_neg (by omega), if_pos pq]
    show (if heldAt q = -1 then q else _) = _
    rw [if_neg (by rw [hq]; exact hne), if_pos hqw, hqh]
  have eat : wrapA .i64 (u.th.at_ + 1) = ((k + 1 : Nat) : Int) := by rw [hat, wrap_id (by omega) (by omega)]; rfl
  have ev : nextT (setW q (pl c i n) 0) = { setW u (pl c i n) 0 with th := { u.th with at_ := ((k + 1 : Nat) : Int), phase := if k + 1 < H.length then 7 else 2 } } := by
    rw [hq]
    unfold nextT downT
    simp only [eat, hh, h.stop]
    by_cases hx : k + 1 < H.length
    · rw [if_pos (by omega), if_pos hx]
    · rw [if_neg (by omega), if_neg hx, if_neg (by omega)]
  rw [ev] at e8
  refine EndsIn.step h8.fit (by omega) e8 h.done h.log (next _ ?_ rfl hh rfl) hE
  refine h.next ⟨rfl, rfl, rfl, rfl, rfl, rfl, rfl, rfl, rfl, rfl, .inl rfl⟩ (h.mem.node hc ht hi n1 n2 (by rw [if_neg hnot]) (fun m hm => by rw [hdr]; simp [hm])) (.inl rfl) h.fit.held (fun h => ?_) h.wd h.fit.x
  have h : (17 : Int) ≤ if k + 1 < H.length then 7 else 2 := h
  split at h <;> omega

theorem ends7 {H : List Int} (hd : H.Pairwise (· > ·)) (hH : ∀ n ∈ H, 1 ≤ n ∧ n ≤ nodesOf c) (hl : H.length ≤ 100) : ∀ (m k : Nat) (u : Turn), H.length = k + (m + 1) → Al c t i op (H.drop k) 0 u → u.th.phase = 7 → u.th.held = H → u.th.at_ = (k : Int) →
    EndsIn (Good c t i op) u (2 + 2 * ((m : Int) + 1)) := by
  intro m
  induction m with
  | zero =>
    intro k u hk h p hh hat
    exact ends7_step hd hH hl k u 0 hk h p hh hat (fun v h1 h2 _ _ => ends2 (by rw [List.drop_eq_nil_of_le (by omega)] at h1; exact h1) (by rw [if_neg (by omega)] at h2; exact h2)) (by omega)
  | succ m ih =>
    intro k u hk h p hh hat
    have := ends7_step hd hH hl k u (m + 1) hk h p hh hat (E := 2 + 2 * ((m : Int) + 1)) (fun v h1 h2 h3 h4 => ih (k + 1) v (by omega) h1 (by rw [if_pos (by omega)] at h2; exact h2) h3 h4) (by omega)
    exact this.more (by push_cast; omega)

/-! ### Up a tree -/
def lv (n : Int) : Int := if n ≥ 8 then 4 else if n ≥ 4 then 3 else if n ≥ 2 then 2 else 1

theorem ends4 : ∀ (f : Nat) (n : Int) (H : List Int) (u : Turn), n.toNat ≤ f → 1 ≤ n → n ≤ nodesOf c → H.Pairwise (· > ·) → (∀ m ∈ H, n < m ∧ m ≤ nodesOf c) → H.length ≤ 50 - f → f ≤ 50 → Al c t i op H 0 u → u.th.phase = 4 → u.th.held = H → u.th.node = n →
    EndsIn (Good c t i op) u (2 + 4 * lv n + 2 * (H.length : Int)) := by
  intro f
  induction f with
  | zero => intro n H u hf h1; omega
  | succ f ih =>
    intro n H u hf n1 n2 hd hH hl hf2 h p hh hn
    have hc := h.cfg
    have hi := h.itemB
    have ht := h.thr
    have hnb := nodes_bounds c
    have hnode : nodeOf u = pl c i n := by
      show nodeAt u.c u.th.item u.th.node = _
      rw [h.cE, h.item, hn]
      exact nodeAt_pl hi n1 n2
    have hne : nodeOf u ≠ -1 := by have := pl_bounds hc hi.1 hi.2 (r := n) (by omega) (by have := nodes_block hc; omega); omega
    have hnot : n ∉ H := fun x => by have := (hH n x).1; omega
    have hw : wordAt u (nodeOf u) = 0 := by
      rw [hnode]
      have := h.mem.nodes i n hi.1 hi.2 n1 n2
      rw [if_neg (fun x => hnot x.2)] at this
      exact this
    have e4 : machineT u = { u with th := { u.th with phase := 5 } } := by
      rw [climb_phase h.beg (by omega)]
      unfold climbT
      rw [if_pos p]
      show (if nodeOf u = -1 then u else lookT u (wordAt u (nodeOf u))) = _
      rw [if_neg hne, hw]
      rfl
    have h5 : Al c t i op H 0 { u with th := { u.th with phase := 5 } } := h.next ⟨rfl, rfl, rfl, rfl, rfl, rfl, rfl, rfl, rfl, rfl, .inl rfl⟩ h.mem (.inl rfl) h.fit.held (fun h => by have h : (17 : Int) ≤ 5 := h; omega) h.wd h.fit.x
    obtain ⟨q, hq⟩ : ∃ q : Turn, q = { u with th := { u.th with phase := 5 } } := ⟨_, rfl⟩
    rw [← hq] at h5 e4
    have pq : q.th.phase = 5 := by rw [hq]
    have hqn : nodeOf q = pl c i n := by rw [hq]; exact hnode
    have e5 : machineT q = takenT (wroteT q (pl c i n) (8 * (t + 1) + 1)) := by
      rw [climb_phase h5.beg (by omega)]
      unfold climbT
      rw [if_neg (by omega), if_pos pq]
      show (if nodeOf q = -1 then q else if wordAt q (nodeOf q) = 0 then takenT (wroteT q (nodeOf q) (8 * (q.t + 1) + 1)) else _) = _
      rw [if_neg (by rw [hq]; exact hne), if_pos (by rw [hq]; exact hw), hqn, h5.tE]
    have hm' : Mem1 c t i (H ++ [n]) 0 (u.m.words.set (pl c i n).toNat (8 * (t + 1) + 1)) := h.mem.node hc ht hi n1 n2 (by rw [if_pos (by simp)]) (fun m hm => by simp [hm])
    have hlen : (H ++ [n]).length = H.length + 1 := by simp
    have hheldl : (H ++ [n]).length ≤ 4294967295 := by rw [hlen]; omega
    have hd' : (H ++ [n]).Pairwise (· > ·) := by
      rw [List.pairwise_append]
      refine ⟨hd, by simp, fun a ha b hb => ?_⟩
      rw [List.mem_singleton] at hb
      have := (hH a ha).1
      omega
    by_cases h2 : n / 2 > 0
    · have ev : takenT (wroteT q (pl c i n) (8 * (t + 1) + 1)) = { wroteT u (pl c i n) (8 * (t + 1) + 1) with th := { u.th with phase := 4, held := H ++ [n], node := n / 2 } } := by
        rw [hq]
        unfold takenT
        simp only [hh, hn]
        rw [if_pos h2]
      rw [ev] at e5
      obtain ⟨v, hv⟩ : ∃ v : Turn, v = { wroteT u (pl c i n) (8 * (t + 1) + 1) with th := { u.th with phase := 4, held := H ++ [n], node := n / 2 } } := ⟨_, rfl⟩
      rw [← hv] at e5
      have hAv : Al c t i op (H ++ [n]) 0 v := by
        rw [hv]
        exact h.next ⟨rfl, rfl, rfl, rfl, rfl, rfl, rfl, rfl, rfl, rfl, .inl rfl⟩ hm' (.inl rfl) hheldl (fun h => by have h : (17 : Int) ≤ 4 := h; omega) h.wd h.fit.x
      have r := ih (n / 2) (H ++ [n]) v (by omega) (by omega) (by omega) hd' (fun m hm => by
        rcases List.mem_append.1 hm with x | x
        · have := hH m x; omega
        · rw [List.mem_singleton] at x; omega) (by rw [hlen]; omega) (by omega) hAv (by rw [hv]) (by rw [hv]) (by rw [hv])
      have s5 := EndsIn.step h5.fit (by omega) e5 hAv.done hAv.log r (by unfold lv; (repeat' split) <;> omega)
      have s4 := EndsIn.step h.fit (by omega) e4 h5.done h5.log s5 (by unfold lv; (repeat' split) <;> omega)
      refine s4.more ?_
      rw [hlen]
      push_cast
      unfold lv
      repeat' split
      all_goals omega
    · have hn1 : n = 1 := by omega
      have ev : takenT (wroteT q (pl c i n) (8 * (t + 1) + 1)) = { wroteT u (pl c i n) (8 * (t + 1) + 1) with th := { u.th with phase := 7, held := H ++ [n], node := n / 2, at_ := 0 } } := by
        rw [hq]
        unfold takenT overT downT
        simp only [hh, hn]
        rw [if_neg h2, if_pos (by rw [hlen]; omega)]
      rw [ev] at e5
      obtain ⟨v, hv⟩ : ∃ v : Turn, v = { wroteT u (pl c i n) (8 * (t + 1) + 1) with th := { u.th with phase := 7, held := H ++ [n], node := n / 2, at_ := 0 } } := ⟨_, rfl⟩
      rw [← hv] at e5
      have hAv : Al c t i op (H ++ [n]) 0 v := by
        rw [hv]
        exact h.next ⟨rfl, rfl, rfl, rfl, rfl, rfl, rfl, rfl, rfl, rfl, .inl rfl⟩ hm' (.inl rfl) hheldl (fun h => by have h : (17 : Int) ≤ 7 := h; omega) h.wd h.fit.x
      have r := ends7 (c := c) (t := t) (i := i) (op := op) (H := H ++ [n]) hd' (fun m hm => by
        rcases List.mem_append.1 hm with x | x
        · have := hH m x; omega
        · rw [List.mem_singleton] at x; omega) (by rw [hlen]; omega) H.length 0 v (by rw [hlen]; omega) (by rw [List.drop_zero]; exact hAv) (by rw [hv]) (by rw [hv]) (by rw [hv]; rfl)
      have s5 := EndsIn.step h5.fit (by omega) e5 hAv.done hAv.log r (by omega)
      have s4 := EndsIn.step h.fit (by omega) e4 h5.done h5.log s5 (by omega)
      refine s4.more ?_
      subst hn1
      unfold lv
      rw [if_neg (by omega), if_neg (by omega), if_neg (by omega)]
      omega

end
end Go.Proofs.Mill
