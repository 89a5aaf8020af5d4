/- A thread that nobody disturbs, through a funnel; from its beginning on. -/
import Derived.Test.YtaopdopnecognaaGreatMillQAlone2
namespace Go.Proofs.Mill
set_option linter.all false

section
variable {c : Config} {t i : Int} {op : Op}

theorem drawT_fit {t : Tape} (h1 : Num t.at_) (h2 : t.l.length ≤ 4294967296) : Num (drawT t).2.at_ ∧ (drawT t).2.l.length ≤ 4294967296 := by
  unfold drawT
  split
  · exact ⟨h1, h2⟩
  · rename_i h
    have h : ¬ (t.at_ < 0 ∨ t.at_ ≥ (t.l.length : Int)) := h
    refine ⟨?_, h2⟩
    show Num (wrapA .i64 (t.at_ + 1))
    rw [wrap_id (by omega) (by omega)]
    exact ⟨by omega, by omega⟩

theorem below_one (t : Tape) : (belowT t 1).1 = 0 ∧ (belowT t 1).2 = (drawT t).2 := by
  have h := belowT_in t (n := 1) (by omega) (by omega)
  refine ⟨by omega, ?_⟩
  unfold belowT
  rw [if_neg (by omega)]

/-- The word of an open line. -/
def oW (i y : Int) : Int := 8 * (16 * i + y + 1) + 4

theorem oW_num {i y : Int} (h0 : 0 ≤ i ∧ i < 100) (h1 : 0 ≤ y ∧ y < 100) : Num (oW i y) := by unfold oW; exact ⟨by omega, by omega⟩

theorem ends26 {E : Int} (hE : 0 ≤ E) {y : Int} {u : Turn} (h : Al c t i op [] (oW i y) u) (p : u.th.phase = 26) (hy : u.th.layer = y) (y0 : 1 ≤ y ∧ y ≤ c.layers) (hh : u.th.held = [])
    (next : ∀ v, Al c t i op [] 0 v → v.th.held = [] → (if y < c.layers then v.th.phase = 17 ∧ v.th.layer = y + 1 else v.th.phase = 2) → EndsIn (Good c t i op) v E) : EndsIn (Good c t i op) u (E + 1) := by
  have hc := h.cfg
  have hi := h.itemB
  have ht := h.thr
  have hly := hc.layers
  have hmine : mineAt u = lineAt c t := by show lineAt u.c u.t = _; rw [h.cE, h.tE]
  have hop : openW u = oW i y := by show 8 * (16 * u.th.item + u.th.layer + 1) + 4 = _; rw [h.item, hy]; rfl
  have hw : wordAt u (mineAt u) = openW u := by rw [hmine, hop]; exact h.mem.line
  have e : machineT u = onwardT { setW u (lineAt c t) 0 with th := { u.th with phase := 26, width := if u.th.width / 2 > 1 then u.th.width / 2 else 1 } } := by
    rw [collide_phase h.beg (.inr (.inr p))]
    unfold collideT
    rw [if_neg (by omega), if_neg (by omega), if_neg (by omega), if_neg (by omega), if_neg (by omega), if_neg (by omega), if_neg (by omega), if_neg (by omega), if_pos p]
    show leaveT u = _
    unfold leaveT
    rw [if_pos hw, hmine]
  have hwn : (if u.th.width / 2 > 1 then u.th.width / 2 else 1) = 1 := by rw [h.wd]; rfl
  have hm' : Mem1 c t i [] 0 (u.m.words.set (lineAt c t).toNat 0) := h.mem.lineW hc ht ⟨by omega, by omega⟩
  obtain ⟨q, hq⟩ : ∃ q : Turn, q = { setW u (lineAt c t) 0 with th := { u.th with phase := 26, width := if u.th.width / 2 > 1 then u.th.width / 2 else 1 } } := ⟨_, rfl⟩
  rw [← hq] at e
  have hlate : ¬ Late q := by rw [hq]; exact h.late
  have hql : q.th.layer = y := by rw [hq]; exact hy
  have hqc : q.c = c := by rw [hq]; exact h.cE
  by_cases hlt : y < c.layers
  · have ev : onwardT q = { setW u (lineAt c t) 0 with th := { u.th with phase := 17, layer := y + 1, width := if u.th.width / 2 > 1 then u.th.width / 2 else 1 } } := by
      unfold onwardT
      rw [if_pos ⟨by rw [hql, hqc]; exact hlt, hlate⟩, hql, wrap_id (by omega) (by omega), hq]
    rw [ev] at e
    have hA := h.next (v := { setW u (lineAt c t) 0 with th := { u.th with phase := 17, layer := y + 1, width := if u.th.width / 2 > 1 then u.th.width / 2 else 1 } }) ⟨rfl, rfl, rfl, rfl, rfl, rfl, rfl, rfl, rfl, rfl, .inl rfl⟩ hm' (.inl rfl) h.fit.held
      (fun _ => ⟨by show 1 ≤ y + 1; omega, by show y + 1 ≤ 3; omega⟩) hwn h.fit.x
    exact EndsIn.step h.fit (by omega) e h.done h.log (next _ hA hh (by rw [if_pos hlt]; exact ⟨rfl, rfl⟩)) hE
  · have ev : onwardT q = { setW u (lineAt c t) 0 with th := { u.th with phase := 2, width := if u.th.width / 2 > 1 then u.th.width / 2 else 1 } } := by
      unfold onwardT
      rw [if_neg (fun x => hlt (by have := x.1; rwa [hql, hqc] at this)), hq]
    rw [ev] at e
    have hA := h.next (v := { setW u (lineAt c t) 0 with th := { u.th with phase := 2, width := if u.th.width / 2 > 1 then u.th.width / 2 else 1 } }) ⟨rfl, rfl, rfl, rfl, rfl, rfl, rfl, rfl, rfl, rfl, .inl rfl⟩ hm' (.inl rfl) h.fit.held
      (fun h => by have h : (17 : Int) ≤ 2 := h; omega) hwn h.fit.x
    exact EndsIn.step h.fit (by omega) e h.done h.log (next _ hA hh (by rw [if_neg hlt])) hE

theorem ends23 {E : Int} (hE : 0 ≤ E) {y : Int} (y0 : 1 ≤ y ∧ y ≤ c.layers)
    (next : ∀ v, Al c t i op [] 0 v → v.th.held = [] → (if y < c.layers then v.th.phase = 17 ∧ v.th.layer = y + 1 else v.th.phase = 2) → EndsIn (Good c t i op) v E) :
    ∀ (m : Nat) (u : Turn), m ≤ 1000 → Al c t i op [] (oW i y) u → u.th.phase = 23 → u.th.layer = y → u.th.held = [] → u.th.left = (m : Int) → EndsIn (Good c t i op) u (E + 1 + 1 + (m : Int)) := by
  intro m
  induction m with
  | zero =>
    intro u hm0 h p hy hh hl
    have hc := h.cfg
    have hly := hc.layers
    have hmine : mineAt u = lineAt c t := by show lineAt u.c u.t = _; rw [h.cE, h.tE]
    have hop : openW u = oW i y := by show 8 * (16 * u.th.item + u.th.layer + 1) + 4 = _; rw [h.item, hy]; rfl
    have hw : wordAt u (mineAt u) = openW u := by rw [hmine, hop]; exact h.mem.line
    have e : machineT u = { u with th := { u.th with phase := 26 } } := by
      rw [collide_phase h.beg (.inr (.inl p))]
      unfold collideT
      rw [if_neg (by omega), if_neg (by omega), if_neg (by omega), if_neg (by omega), if_neg (by omega), if_neg (by omega), if_pos p]
      show spinT u = _
      unfold spinT
      rw [if_neg (fun x => x hw), if_neg (fun x => by have := x.1; omega)]
    have hA := h.next (v := { u with th := { u.th with phase := 26 } }) ⟨rfl, rfl, rfl, rfl, rfl, rfl, rfl, rfl, rfl, rfl, .inl rfl⟩ h.mem (.inl rfl) h.fit.held (fun _ => ⟨by show 1 ≤ u.th.layer; omega, by show u.th.layer ≤ 3; omega⟩) h.wd h.fit.x
    exact (EndsIn.step h.fit (by omega) e h.done h.log (ends26 hE hA rfl hy y0 hh next) (by omega)).more (by omega)
  | succ m ih =>
    intro u hm0 h p hy hh hl
    have hc := h.cfg
    have hly := hc.layers
    have hmine : mineAt u = lineAt c t := by show lineAt u.c u.t = _; rw [h.cE, h.tE]
    have hop : openW u = oW i y := by show 8 * (16 * u.th.item + u.th.layer + 1) + 4 = _; rw [h.item, hy]; rfl
    have hw : wordAt u (mineAt u) = openW u := by rw [hmine, hop]; exact h.mem.line
    have e : machineT u = { u with th := { u.th with left := (m : Int) } } := by
      rw [collide_phase h.beg (.inr (.inl p))]
      unfold collideT
      rw [if_neg (by omega), if_neg (by omega), if_neg (by omega), if_neg (by omega), if_neg (by omega), if_neg (by omega), if_pos p]
      show spinT u = _
      unfold spinT
      have el : wrapA .i64 (u.th.left - 1) = (m : Int) := by rw [wrap_id (by omega) (by omega)]; omega
      rw [if_neg (fun x => x hw), if_pos ⟨by omega, h.late⟩, el]
    have hA := h.next (v := { u with th := { u.th with left := (m : Int) } }) ⟨rfl, rfl, rfl, rfl, rfl, rfl, rfl, rfl, rfl, rfl, .inl rfl⟩ h.mem (.inl rfl) h.fit.held (fun _ => ⟨by show 1 ≤ u.th.layer; omega, by show u.th.layer ≤ 3; omega⟩) h.wd h.fit.x
    exact (EndsIn.step h.fit (by omega) e h.done h.log (ih _ (by omega) hA p hy hh rfl) (by omega)).more (by push_cast; omega)

theorem fun17 (y : Int) (u : Turn) (y0 : 1 ≤ y) (y1 : y ≤ c.layers) (h : Al c t i op [] 0 u) (p : u.th.phase = 17) (hy : u.th.layer = y) (hh : u.th.held = []) {E : Int} (hE : 0 ≤ E)
    (next : ∀ v, Al c t i op [] 0 v → v.th.held = [] → (if y < c.layers then v.th.phase = 17 ∧ v.th.layer = y + 1 else v.th.phase = 2) → EndsIn (Good c t i op) v E) : EndsIn (Good c t i op) u (E + 6 + c.spin) := by
  have hc := h.cfg
  have hi := h.itemB
  have ht := h.thr
  have hly := hc.layers
  have hit := hc.items
  have hsp := hc.spin
  have hwd := hc.width
  -- its batch is shown
  have e17 : machineT u = { u with m := { u.m with boxes := u.m.boxes.set u.t.toNat u.th.batch }, th := { u.th with phase := 18 } } := by
    rw [collide_phase h.beg (.inl (by omega))]
    unfold collideT
    rw [if_pos p]
  obtain ⟨a, ha⟩ : ∃ a : Turn, a = { u with m := { u.m with boxes := u.m.boxes.set u.t.toNat u.th.batch }, th := { u.th with phase := 18 } } := ⟨_, rfl⟩
  rw [← ha] at e17
  have lay : ∀ {k : Int}, (17 ≤ k → 1 ≤ u.th.layer ∧ u.th.layer ≤ 3) := fun _ => ⟨by omega, by omega⟩
  have hA : Al c t i op [] 0 a := by
    rw [ha]
    exact h.next ⟨rfl, rfl, rfl, rfl, rfl, rfl, rfl, rfl, rfl, rfl, .inl rfl⟩ h.mem (.inr ⟨_, rfl⟩) h.fit.held (fun _ => ⟨by show 1 ≤ u.th.layer; omega, by show u.th.layer ≤ 3; omega⟩) h.wd h.fit.x
  have pa : a.th.phase = 18 := by rw [ha]
  have ya : a.th.layer = y := by rw [ha]; exact hy
  have hha : a.th.held = [] := by rw [ha]; exact hh
  -- its line is opened
  have hmine : mineAt a = lineAt c t := by show lineAt a.c a.t = _; rw [hA.cE, hA.tE]
  have hop : openW a = oW i y := by show 8 * (16 * a.th.item + a.th.layer + 1) + 4 = _; rw [hA.item, ya]; rfl
  have e18 : machineT a = { setW a (lineAt c t) (oW i y) with th := { a.th with phase := 19 } } := by
    rw [collide_phase hA.beg (.inl (by omega))]
    unfold collideT
    rw [if_neg (by omega), if_pos pa, hmine, hop]
  obtain ⟨b, hb⟩ : ∃ b : Turn, b = { setW a (lineAt c t) (oW i y) with th := { a.th with phase := 19 } } := ⟨_, rfl⟩
  rw [← hb] at e18
  have hB : Al c t i op [] (oW i y) b := by
    rw [hb]
    exact hA.next ⟨rfl, rfl, rfl, rfl, rfl, rfl, rfl, rfl, rfl, rfl, .inl rfl⟩ (hA.mem.lineW hc ht (oW_num ⟨hi.1, by omega⟩ ⟨by omega, by omega⟩)) (.inl rfl) hA.fit.held (fun _ => ⟨by show 1 ≤ a.th.layer; omega, by show a.th.layer ≤ 3; omega⟩) hA.wd hA.fit.x
  have pb : b.th.phase = 19 := by rw [hb]
  have yb : b.th.layer = y := by rw [hb]; exact ya
  have hhb : b.th.held = [] := by rw [hb]; exact hha
  -- its number is left in a slot
  have hs := slotAt_in hc hi ⟨y0, y1⟩ (i := 0) ⟨Int.le_refl 0, by omega⟩
  have hlb := layer_bounds hc y0 y1
  have hdr : drawnAt b = pl c i (1 + nodesOf c + (y - 1) * c.width) := by
    show slotAt b.c b.th.item b.th.layer (belowT b.tape b.th.width).1 = _
    rw [hB.cE, hB.item, yb, hB.wd, (below_one _).1, hs.1]
    show i * blockOf c + (1 + nodesOf c) + (y - 1) * c.width + 0 = i * blockOf c + (1 + nodesOf c + (y - 1) * c.width)
    omega
  have hrb : nodesOf c < 1 + nodesOf c + (y - 1) * c.width ∧ 1 + nodesOf c + (y - 1) * c.width < blockOf c := by
    unfold blockOf
    omega
  have hnb := nodes_bounds c
  have hne : drawnAt b ≠ -1 := by rw [hdr]; have := pl_bounds hc hi.1 hi.2 (r := 1 + nodesOf c + (y - 1) * c.width) (by omega) hrb.2; omega
  have hwz : ¬ (1 ≤ wordAt b (drawnAt b) ∧ wordAt b (drawnAt b) ≤ b.c.threads ∧ wordAt b (drawnAt b) ≠ b.t + 1) := by
    rw [hdr, hB.tE]
    intro x
    rcases hB.mem.slots i _ hi.1 hi.2 hrb.1 hrb.2 with e | e
    · have := x.1
      rw [show wordAt b (pl c i (1 + nodesOf c + (y - 1) * c.width)) = 0 from e] at this
      omega
    · exact x.2.2 e
  have e19 : machineT b = { setW b (pl c i (1 + nodesOf c + (y - 1) * c.width)) (t + 1) with tape := (drawT b.tape).2, th := { b.th with phase := 23, left := c.spin } } := by
    rw [collide_phase hB.beg (.inl (by omega))]
    unfold collideT
    rw [if_neg (by omega), if_neg (by omega), if_pos pb]
    show swapT b = _
    unfold swapT
    rw [if_neg hne, if_neg hwz, hdr, hB.tE, hB.cE, hB.wd, (below_one _).2]
  obtain ⟨d, hd⟩ : ∃ d : Turn, d = { setW b (pl c i (1 + nodesOf c + (y - 1) * c.width)) (t + 1) with tape := (drawT b.tape).2, th := { b.th with phase := 23, left := c.spin } } := ⟨_, rfl⟩
  rw [← hd] at e19
  have hD : Al c t i op [] (oW i y) d := by
    rw [hd]
    exact hB.next ⟨rfl, rfl, rfl, rfl, rfl, rfl, rfl, rfl, rfl, rfl, .inr (drawT_fit hB.fit.tape hB.fit.draws)⟩ (hB.mem.slot hc ht hi hrb.1 hrb.2) (.inl rfl) hB.fit.held (fun _ => ⟨by show 1 ≤ b.th.layer; omega, by show b.th.layer ≤ 3; omega⟩) hB.wd hB.fit.x
  have r := ends23 hE ⟨y0, y1⟩ next c.spin.toNat d (by omega) hD (by rw [hd]) (by rw [hd]; exact yb) (by rw [hd]; exact hhb) (by rw [hd]; show c.spin = _; omega)
  have s19 := EndsIn.step hB.fit (by omega) e19 hD.done hD.log r (by omega)
  have s18 := EndsIn.step hA.fit (by omega) e18 hB.done hB.log s19 (by omega)
  have s17 := EndsIn.step h.fit (by omega) e17 hA.done hA.log s18 (by omega)
  exact s17.more (by omega)

theorem ends17 : ∀ (f : Nat) (y : Int) (u : Turn), 1 ≤ y → y ≤ c.layers → (c.layers - y).toNat = f → Al c t i op [] 0 u → u.th.phase = 17 → u.th.layer = y → u.th.held = [] →
    EndsIn (Good c t i op) u (2 + (6 + c.spin) * ((f : Int) + 1)) := by
  intro f
  induction f with
  | zero =>
    intro y u y0 y1 hf h p hy hh
    exact (fun17 y u y0 y1 h p hy hh (E := 2) (by omega) (fun v h1 h2 h3 => ends2 h1 (by rw [if_neg (by omega)] at h3; exact h3))).more (by have := h.cfg.spin; omega)
  | succ f ih =>
    intro y u y0 y1 hf h p hy hh
    have hsp := h.cfg.spin
    have hnn : 0 ≤ (6 + c.spin) * ((f : Int) + 1) := Int.mul_nonneg (by omega) (by omega)
    refine (fun17 y u y0 y1 h p hy hh (E := 2 + (6 + c.spin) * ((f : Int) + 1)) (by omega) (fun v h1 h2 h3 => ?_)).more ?_
    · rw [if_pos (by omega)] at h3
      exact ih (y + 1) v (by omega) (by omega) (by omega) h1 h3.1 h3.2 h2
    · have e : (6 + c.spin) * (((f + 1 : Nat) : Int) + 1) = (6 + c.spin) * ((f : Int) + 1) + (6 + c.spin) := by push_cast; rw [Int.mul_add, Int.mul_one]
      rw [e]
      omega

end
end Go.Proofs.Mill
