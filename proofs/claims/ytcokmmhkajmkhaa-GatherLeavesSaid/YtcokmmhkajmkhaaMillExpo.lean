/- Values that leave a frame's store, and come into another one. -/
import Derived.Test.YtcokmmhkajmkhaaMillDraw
set_option linter.all false
namespace Go.Proofs.Mill
open Go.RowKit

def Alive (o : AV) : Prop := (∃ e τ, ∃ xs : List τ.den, o = .row e τ xs) ∨ ∃ cs, o = .box cs

/-- How a store goes on while values are taken out of it. -/
def Ev (ob ob' : List (Nat × AV)) : Prop := ∀ i, look ob' i = look ob i ∨ (Alive (look ob i) ∧ look ob' i = .dead) ∨ ∃ e τ, ∃ xs : List τ.den, look ob i = .row e τ xs ∧ look ob' i = .frz τ xs

theorem Ev.refl (ob : List (Nat × AV)) : Ev ob ob := fun _ => .inl rfl

theorem not_alive_dead : ¬ Alive .dead := by rintro (⟨_, _, _, h⟩ | ⟨_, h⟩) <;> cases h
theorem not_alive_frz {τ : Ty} {xs : List τ.den} : ¬ Alive (.frz τ xs) := by rintro (⟨_, _, _, h⟩ | ⟨_, h⟩) <;> cases h

theorem Ev.trans {a b c : List (Nat × AV)} (h : Ev a b) (k : Ev b c) : Ev a c := by
  intro i
  rcases h i with h1 | ⟨h1, h2⟩ | ⟨e, τ, xs, h1, h2⟩
  · rw [← h1]; exact k i
  · rcases k i with k1 | ⟨k1, _⟩ | ⟨_, _, _, k1, _⟩
    · exact .inr (.inl ⟨h1, k1.trans h2⟩)
    · rw [h2] at k1; exact (not_alive_dead k1).elim
    · rw [h2] at k1; cases k1
  · rcases k i with k1 | ⟨k1, _⟩ | ⟨_, _, _, k1, _⟩
    · exact .inr (.inr ⟨e, τ, xs, h1, k1.trans h2⟩)
    · rw [h2] at k1; exact (not_alive_frz k1).elim
    · rw [h2] at k1; cases k1

theorem Ev.dead {a b : List (Nat × AV)} (h : Ev a b) {i : Nat} (hd : look a i = .dead) : look b i = .dead := by
  rcases h i with h1 | ⟨h1, _⟩ | ⟨_, _, _, h1, _⟩
  · exact h1.trans hd
  · rw [hd] at h1; exact (not_alive_dead h1).elim
  · rw [hd] at h1; cases h1

theorem Ev.frz {a b : List (Nat × AV)} (h : Ev a b) {i : Nat} {τ : Ty} {xs : List τ.den} (hd : look a i = .frz τ xs) : look b i = .frz τ xs := by
  rcases h i with h1 | ⟨h1, _⟩ | ⟨_, _, _, h1, _⟩
  · exact h1.trans hd
  · rw [hd] at h1; exact (not_alive_frz h1).elim
  · rw [hd] at h1; cases h1

theorem Ev.alive {a b : List (Nat × AV)} (h : Ev a b) {i : Nat} (hd : Alive (look b i)) : look b i = look a i := by
  rcases h i with h1 | ⟨_, h2⟩ | ⟨_, _, _, _, h2⟩
  · exact h1
  · rw [h2] at hd; exact (not_alive_dead hd).elim
  · rw [h2] at hd; exact (not_alive_frz hd).elim

theorem Ev.kill {ob : List (Nat × AV)} {i : Nat} (h : Alive (look ob i)) : Ev ob ((i, .dead) :: ob) := by
  intro j
  by_cases e : i = j
  · subst e; exact .inr (.inl ⟨h, look_eq _ _ _⟩)
  · exact .inl (look_ne _ _ e)

/-- Two stores, the one that values leave and the one that they come into. -/
structure Cond (ob ob' : List (Nat × AV)) (ws : Wr) (os : List (Option Nat)) (c1 c2 : Cx) : Prop where
  dv : ∀ d v, c1.DV d v → c2.DV d v
  world : c2.w = c1.w
  frz : ∀ i τ (xs : List τ.den), look ob' i = .frz τ xs → c1.ob i = .frz τ xs
  old : ∀ i, look ob' i = .dead → Alive (look ob i) → c1.ob i = look ob i
  new : ∀ q ∈ ws.zip os, c2.ob q.1.1 = q.1.2 ∧ c2.mu q.1.1 = q.2.bind c1.mu

structure Moves (cs ys : List AV) (ob ob' : List (Nat × AV)) (ws : Wr) (os : List (Option Nat)) : Prop where
  ev : Ev ob ob'
  len : os.length = ws.length
  alive : ∀ i, some i ∈ os → Alive (look ob i) ∧ look ob' i = .dead
  nodup : (os.filterMap id).Nodup
  rows : ∀ p ∈ ws, Alive p.2
  sends : ∀ c1 c2, Cond ob ob' ws os c1 c2 → (∀ us, VL c1 cs us → VL c2 ys us) ∧ ((∀ i, ObjOK c1 i) → ∀ p ∈ ws, ObjOK c2 p.1)

theorem Moves.nil (ob : List (Nat × AV)) : Moves [] [] ob ob [] [] :=
  ⟨Ev.refl ob, rfl, fun _ h => (by cases h), List.nodup_nil, fun _ h => (by cases h), fun _ _ _ => ⟨fun us h => by rw [VL_nil h]; trivial, fun _ _ h => (by cases h)⟩⟩

theorem Cond.left {ob ob1 ob' : List (Nat × AV)} {ws1 ws2 : Wr} {os1 os2 : List (Option Nat)} {c1 c2 : Cx} (h1 : os1.length = ws1.length) (k : Ev ob1 ob')
    (h : Cond ob ob' (ws1 ++ ws2) (os1 ++ os2) c1 c2) : Cond ob ob1 ws1 os1 c1 c2 := by
  refine ⟨h.dv, h.world, fun i τ xs hi => h.frz i τ xs (k.frz hi), fun i hd ha => h.old i (k.dead hd) ha, fun q hq => h.new q ?_⟩
  rw [List.zip_append h1.symm]
  exact List.mem_append_left _ hq

theorem Cond.right {ob ob1 ob' : List (Nat × AV)} {ws1 ws2 : Wr} {os1 os2 : List (Option Nat)} {c1 c2 : Cx} (h1 : os1.length = ws1.length) (k : Ev ob ob1)
    (h : Cond ob ob' (ws1 ++ ws2) (os1 ++ os2) c1 c2) : Cond ob1 ob' ws2 os2 c1 c2 := by
  refine ⟨h.dv, h.world, h.frz, fun i hd ha => ?_, fun q hq => h.new q ?_⟩
  · have e := k.alive ha
    rw [e] at ha ⊢
    exact h.old i hd ha
  · rw [List.zip_append h1.symm]
    exact List.mem_append_right _ hq

theorem Moves.append {cs ys cs' ys' : List AV} {ob ob1 ob' : List (Nat × AV)} {ws1 ws2 : Wr} {os1 os2 : List (Option Nat)} (h : Moves cs ys ob ob1 ws1 os1) (k : Moves cs' ys' ob1 ob' ws2 os2) :
    Moves (cs ++ cs') (ys ++ ys') ob ob' (ws1 ++ ws2) (os1 ++ os2) := by
  refine ⟨h.ev.trans k.ev, by simp [h.len, k.len], fun i hi => ?_, ?_, fun p hp => ?_, fun c1 c2 hc => ?_⟩
  · rcases List.mem_append.1 hi with hi | hi
    · obtain ⟨h1, h2⟩ := h.alive i hi
      exact ⟨h1, k.ev.dead h2⟩
    · obtain ⟨h1, h2⟩ := k.alive i hi
      exact ⟨by rw [← h.ev.alive h1]; exact h1, h2⟩
  · rw [List.filterMap_append, List.nodup_append]
    refine ⟨h.nodup, k.nodup, fun x hx y hy e => ?_⟩
    subst e
    have hx : some x ∈ os1 := by simpa using hx
    have hy : some x ∈ os2 := by simpa using hy
    have := (k.alive x hy).1
    rw [(h.alive x hx).2] at this
    exact not_alive_dead this
  · rcases List.mem_append.1 hp with hp | hp
    · exact h.rows p hp
    · exact k.rows p hp
  · obtain ⟨a1, b1⟩ := h.sends c1 c2 (hc.left h.len k.ev)
    obtain ⟨a2, b2⟩ := k.sends c1 c2 (hc.right h.len h.ev)
    refine ⟨fun us hu => ?_, fun ho p hp => ?_⟩
    · obtain ⟨u1, u2, rfl, h1, h2⟩ := hu.split
      exact (a1 _ h1).append (a2 _ h2)
    · rcases List.mem_append.1 hp with hp | hp
      · exact b1 ho p hp
      · exact b2 ho p hp

/-- What is plain leaves as it is. -/
theorem Moves.plain {v x : AV} {ob : List (Nat × AV)} (h : ∀ c1 c2 : Cx, (∀ d v, c1.DV d v → c2.DV d v) → (∀ i τ (xs : List τ.den), look ob i = .frz τ xs → c1.ob i = .frz τ xs) → ∀ u, V c1 v u → V c2 x u) :
    Moves [v] [x] ob ob [] [] :=
  ⟨Ev.refl ob, rfl, fun _ h => (by cases h), List.nodup_nil, fun _ h => (by cases h), fun c1 c2 hc => ⟨fun us hu => by
    obtain ⟨u, us', rfl, h1, h2⟩ := VL_cons hu
    rw [VL_nil h2]
    exact ⟨h c1 c2 hc.dv hc.frz u h1, trivial⟩, fun _ _ h => (by cases h)⟩⟩

theorem DVs_to {c1 c2 : Cx} (h : ∀ d v, c1.DV d v → c2.DV d v) : ∀ {ds : List D} {vs : List Value}, c1.DVs ds vs → c2.DVs ds vs
  | [], [], _ => trivial
  | _ :: _, _ :: _, ⟨a, b⟩ => ⟨h _ _ a, DVs_to h b⟩

theorem expoCell_moves {κ : Kd} {v x : AV} {ob ob' : List (Nat × AV)} (h : expoCell κ v ob = some (x, ob')) (id : Nat) :
    ∃ os, Moves [v] [(impCell id x).1] ob ob' (impCell id x).2.1 os := by
  unfold expoCell at h
  split at h
  · rename_i e τ
    split at h
    · rename_i i
      split at h
      · rename_i e' ρ xs hl
        split at h
        case h_2 => cases h
        rename_i hh _
        cases hb : Nat.beq e' e with
        | false => rw [hb] at h; cases h
        | true =>
        rw [hb] at h
        have hb := Nat.eq_of_beq_eq_true hb
        subst hh hb
        simp only [cond_true, Option.some.injEq, Prod.mk.injEq] at h
        obtain ⟨rfl, rfl⟩ := h
        have ha : Alive (look ob i) := .inl ⟨_, _, _, hl⟩
        refine ⟨[some i], Ev.kill ha, rfl, fun j hj => ?_, by simp, fun p hp => ?_, fun c1 c2 hc => ?_⟩
        · simp only [List.mem_singleton, Option.some.injEq] at hj
          subst hj
          exact ⟨ha, look_eq _ _ _⟩
        · simp only [impCell, List.mem_singleton] at hp
          subst hp; exact .inl ⟨_, _, _, rfl⟩
        · have ho := hc.old i (look_eq _ _ _) ha
          rw [hl] at ho
          obtain ⟨hn1, hn2⟩ := hc.new ((id, .row e' ρ xs), some i) (by simp [impCell])
          simp only [Option.bind_some] at hn1 hn2
          refine ⟨fun us hu => ?_, fun hob p hp => ?_⟩
          · obtain ⟨u, us', rfl, h1, h2⟩ := VL_cons hu
            rw [VL_nil h2]
            refine ⟨?_, trivial⟩
            have h1 : OwnV c1 i u := h1
            show OwnV c2 id u
            unfold OwnV at h1 ⊢
            rw [ho] at h1
            rw [hn1]
            simp only at h1 ⊢
            rw [hn2]
            unfold RowAt at h1 ⊢
            rw [hc.world]
            exact h1
          · simp only [impCell, List.mem_singleton] at hp
            subst hp
            have h1 := hob i
            unfold ObjOK at h1 ⊢
            rw [ho] at h1
            rw [hn1]
            simp only at h1 ⊢
            rw [hn2]
            unfold RowAt at h1 ⊢
            rw [hc.world]
            rcases h1 with h1 | ⟨b, cap, cur, k1, k2, k3, k4, k5⟩
            · exact .inl h1
            · exact .inr ⟨b, cap, cur, k1, k2, k3, k4, DVs_to hc.dv k5⟩
      · cases h
    · simp only [Option.some.injEq, Prod.mk.injEq] at h
      obtain ⟨rfl, rfl⟩ := h
      refine ⟨[none], Ev.refl _, rfl, fun j hj => ?_, by simp, fun p hp => ?_, fun c1 c2 hc => ?_⟩
      · simp at hj
      · simp only [impCell, List.mem_singleton] at hp
        subst hp; exact .inl ⟨_, _, _, rfl⟩
      · obtain ⟨hn1, hn2⟩ := hc.new ((id, .row e τ []), none) (by simp [impCell])
        simp only [Option.bind_none] at hn1 hn2
        refine ⟨fun us hu => ?_, fun hob p hp => ?_⟩
        · obtain ⟨u, us', rfl, h1, h2⟩ := VL_cons hu
          rw [VL_nil h2]
          refine ⟨?_, trivial⟩
          simp only [V] at h1
          show OwnV c2 id u
          unfold OwnV
          rw [hn1]
          exact .inl ⟨hn2, rfl, none, h1⟩
        · simp only [impCell, List.mem_singleton] at hp
          subst hp
          unfold ObjOK
          rw [hn1]
          exact .inl ⟨hn2, rfl⟩
    · cases h
  · rename_i τ
    split at h
    · rename_i i
      split at h
      · rename_i e' ρ xs hl
        split at h
        case h_2 => cases h
        rename_i hh _
        subst hh
        simp only [Option.some.injEq, Prod.mk.injEq] at h
        obtain ⟨rfl, rfl⟩ := h
        have hev : Ev ob ((i, .frz ρ xs) :: ob) := by
          intro j
          by_cases e : i = j
          · subst e; exact .inr (.inr ⟨_, _, _, hl, look_eq _ _ _⟩)
          · exact .inl (look_ne _ _ e)
        refine ⟨[], hev, rfl, fun _ h => (by cases h), List.nodup_nil, fun _ h => (by cases h), fun c1 c2 hc => ⟨fun us hu => ?_, fun _ _ h => (by cases h)⟩⟩
        obtain ⟨u, us', rfl, h1, h2⟩ := VL_cons hu
        rw [VL_nil h2]
        refine ⟨hc.dv _ _ ?_, trivial⟩
        have h1 : OwnV c1 i u := h1
        unfold OwnV at h1
        rw [hc.frz i ρ xs (look_eq _ _ _)] at h1
        exact h1
      · rename_i ρ xs hl
        split at h
        case h_2 => cases h
        rename_i hh _
        subst hh
        simp only [Option.some.injEq, Prod.mk.injEq] at h
        obtain ⟨rfl, rfl⟩ := h
        refine ⟨[], Moves.plain fun c1 c2 hd hf u h1 => hd _ _ ?_⟩
        have h1 : OwnV c1 i u := h1
        unfold OwnV at h1
        rw [hf i ρ xs hl] at h1
        exact h1
      · cases h
    · split at h
      case h_2 => cases h
      rename_i hh _
      subst hh
      simp only [Option.some.injEq, Prod.mk.injEq] at h
      obtain ⟨rfl, rfl⟩ := h
      exact ⟨[], Moves.plain fun c1 c2 hd hf u h1 => hd _ _ h1⟩
    · simp only [Option.some.injEq, Prod.mk.injEq] at h
      obtain ⟨rfl, rfl⟩ := h
      refine ⟨[], Moves.plain fun c1 c2 hd hf u h1 => ?_⟩
      simp only [V] at h1
      subst h1
      exact DV.nil _ _ _ (fun _ => rfl)
    · cases h
  · split at h <;> first
      | (cases h; done)
      | (simp only [Option.some.injEq, Prod.mk.injEq] at h
         obtain ⟨rfl, rfl⟩ := h
         exact ⟨[], Moves.plain fun c1 c2 hd hf u h1 => by simpa only [impCell, V] using h1⟩)
      | (simp only [Option.some.injEq, Prod.mk.injEq] at h
         obtain ⟨rfl, rfl⟩ := h
         refine ⟨[], Moves.plain fun c1 c2 hd hf u h1 => ?_⟩
         obtain ⟨vs, e, hv⟩ := h1
         exact ⟨vs, e, by rw [VL_nil hv]; trivial⟩)
  · rename_i f
    split at h
    · rename_i g
      cases hb : Nat.beq g f with
      | false => rw [hb] at h; cases h
      | true =>
        rw [hb] at h
        have hb := Nat.eq_of_beq_eq_true hb
        subst hb
        simp only [cond_true, Option.some.injEq, Prod.mk.injEq] at h
        obtain ⟨rfl, rfl⟩ := h
        refine ⟨[], Moves.plain fun c1 c2 hd hf u h1 => ?_⟩
        obtain ⟨vs, e, hv⟩ := h1
        exact ⟨vs, e, by rw [VL_nil hv]; trivial⟩
    · cases h
  · cases h
  · cases h

theorem expoCells_moves : ∀ {ks : List Kd} {vs xs : List AV} {ob ob' : List (Nat × AV)}, expoCells ks vs ob = some (xs, ob') → ∀ id, ∃ os, Moves vs (impCells id xs).1 ob ob' (impCells id xs).2.1 os
  | [], [], xs, ob, ob', h, id => by
    simp only [expoCells, Option.some.injEq, Prod.mk.injEq] at h
    obtain ⟨rfl, rfl⟩ := h
    exact ⟨[], Moves.nil _⟩
  | κ :: ks, v :: vs, xs, ob, ob', h, id => by
    simp only [expoCells] at h
    split at h
    case h_2 => cases h
    rename_i x ob1 h1
    split at h
    case h_2 => cases h
    rename_i xs' ob2 h2
    simp only [Option.some.injEq, Prod.mk.injEq] at h
    obtain ⟨rfl, rfl⟩ := h
    obtain ⟨os1, m1⟩ := expoCell_moves h1 id
    obtain ⟨os2, m2⟩ := expoCells_moves h2 (impCell id x).2.2
    exact ⟨os1 ++ os2, m1.append m2⟩
  | [], _ :: _, _, _, _, h, _ => by simp [expoCells] at h
  | _ :: _, [], _, _, _, h, _ => by simp [expoCells] at h

theorem Moves.agg {cs ys : List AV} {ob ob' : List (Nat × AV)} {ws : Wr} {os : List (Option Nat)} (h : Moves cs ys ob ob' ws os) : Moves [.agg cs] [.agg ys] ob ob' ws os :=
  ⟨h.ev, h.len, h.alive, h.nodup, h.rows, fun c1 c2 hc => ⟨fun us hu => by
    obtain ⟨u, us', rfl, h1, h2⟩ := VL_cons hu
    rw [VL_nil h2]
    obtain ⟨vs, e, hv⟩ := h1
    exact ⟨⟨vs, e, (h.sends c1 c2 hc).1 _ hv⟩, trivial⟩, (h.sends c1 c2 hc).2⟩⟩

theorem Moves.tup {cs ys : List AV} {ob ob' : List (Nat × AV)} {ws : Wr} {os : List (Option Nat)} (h : Moves cs ys ob ob' ws os) : Moves [.tup cs] [.tup ys] ob ob' ws os :=
  ⟨h.ev, h.len, h.alive, h.nodup, h.rows, fun c1 c2 hc => ⟨fun us hu => by
    obtain ⟨u, us', rfl, h1, h2⟩ := VL_cons hu
    rw [VL_nil h2]
    obtain ⟨vs, e, hv⟩ := h1
    exact ⟨⟨vs, e, (h.sends c1 c2 hc).1 _ hv⟩, trivial⟩, (h.sends c1 c2 hc).2⟩⟩

theorem Moves.box {i n : Nat} {cs ys : List AV} {ob ob' : List (Nat × AV)} {ws : Wr} {os : List (Option Nat)} (hl : look ob i = .box cs) (h : Moves cs ys ((i, .dead) :: ob) ob' ws os) :
    Moves [.ptr i 0] [.ptr n 0] ob ob' ((n, .box ys) :: ws) (some i :: os) := by
  have ha : Alive (look ob i) := .inr ⟨_, hl⟩
  have hk := Ev.kill ha
  have hdead : look ob' i = .dead := h.ev.dead (look_eq _ _ _)
  refine ⟨hk.trans h.ev, by simp [h.len], fun j hj => ?_, ?_, fun p hp => ?_, fun c1 c2 hc => ?_⟩
  · rcases List.mem_cons.1 hj with hj | hj
    · obtain rfl := Option.some.inj hj
      exact ⟨ha, hdead⟩
    · obtain ⟨h1, h2⟩ := h.alive j hj
      exact ⟨by rw [← hk.alive h1]; exact h1, h2⟩
  · rw [show (some i :: os).filterMap id = i :: os.filterMap id from rfl, List.nodup_cons]
    refine ⟨fun hm => ?_, h.nodup⟩
    have hm : some i ∈ os := by simpa using hm
    have := (h.alive i hm).1
    rw [look_eq] at this
    exact not_alive_dead this
  · rcases List.mem_cons.1 hp with rfl | hp
    · exact .inr ⟨_, rfl⟩
    · exact h.rows p hp
  · have hc' : Cond ((i, .dead) :: ob) ob' ws os c1 c2 := hc.right (ws1 := [(n, .box ys)]) (os1 := [some i]) rfl hk
    obtain ⟨a1, b1⟩ := h.sends c1 c2 hc'
    have ho := hc.old i hdead ha
    rw [hl] at ho
    obtain ⟨hn1, hn2⟩ := hc.new ((n, .box ys), some i) (by simp)
    simp only [Option.bind_some] at hn1 hn2
    refine ⟨fun us hu => ?_, fun hob p hp => ?_⟩
    · obtain ⟨u, us', rfl, h1, h2⟩ := VL_cons hu
      rw [VL_nil h2]
      refine ⟨?_, trivial⟩
      have h1 : PtrV c1 i 0 u := h1
      show PtrV c2 n 0 u
      unfold PtrV at h1 ⊢
      rw [ho] at h1
      rw [hn1]
      simp only at h1 ⊢
      rw [hn2]
      exact h1
    · rcases List.mem_cons.1 hp with rfl | hp
      · have h1 := hob i
        unfold ObjOK at h1 ⊢
        rw [ho] at h1
        rw [hn1]
        simp only at h1 ⊢
        rw [hn2, hc.world]
        obtain ⟨b, cur, e, k1, k2, k3⟩ := h1
        exact ⟨b, cur, e, k1, k2, a1 _ k3⟩
      · exact b1 hob p hp

end Go.Proofs.Mill
