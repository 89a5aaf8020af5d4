/- A store that holds only what was taken along. -/
import Derived.Test.YtcokmmhkajmkhaaMillExpo
set_option linter.all false
namespace Go.Proofs.Mill
open Go.RowKit

theorem look_mem : ∀ (ob : List (Nat × AV)) (i : Nat), look ob i ≠ .undef → ∃ p ∈ ob, p.1 = i
  | [], i, h => (h rfl).elim
  | (j, o) :: ob, i, h => by
    by_cases e : j = i
    · exact ⟨(j, o), by simp, e⟩
    · rw [look_ne _ _ e] at h
      obtain ⟨p, hp, he⟩ := look_mem ob i h
      exact ⟨p, by simp [hp], he⟩

/-- What was only lent is frozen. -/
theorem ev_freeze {w0 w : World} {ob ob' : List (Nat × AV)} {mu : Nat → Option Nat} {ok : Nat → Prop} (hm : Mem w0 (cx w ob mu ok)) (hev : Ev ob ob') :
    ∃ ob1 mu1, Mem w0 (cx w ob1 mu1 ok) ∧ Mono (cx w ob mu ok) (cx w ob1 mu1 ok) ∧ (∀ i τ (xs : List τ.den), look ob' i = .frz τ xs → look ob1 i = .frz τ xs) ∧
      (∀ i, look ob' i = .dead → look ob1 i = look ob i) := by
  let ws : Wr := ob'.filterMap fun p => match look ob p.1, look ob' p.1 with | .row _ _ _, .frz τ xs => some (p.1, .frz τ xs) | _, _ => none
  have hmem : ∀ p ∈ ws, ∃ e τ, ∃ xs : List τ.den, look ob p.1 = .row e τ xs ∧ look ob' p.1 = .frz τ xs ∧ p.2 = .frz τ xs := by
    intro p hp
    obtain ⟨q, hq, hqp⟩ := List.mem_filterMap.1 hp
    rcases hev q.1 with h1 | ⟨_, h2⟩ | ⟨e, τ, xs, h1, h2⟩
    · rw [h1] at hqp
      cases hl : look ob q.1 <;> rw [hl] at hqp <;> cases hqp
    · rw [h2] at hqp
      cases hl : look ob q.1 <;> rw [hl] at hqp <;> cases hqp
    · rw [h1, h2] at hqp
      simp only [Option.some.injEq] at hqp
      subst hqp
      exact ⟨e, τ, xs, h1, h2, rfl⟩
  have hfz : Fz ob ws := fun p hp => by
    obtain ⟨e, τ, xs, h1, _, h3⟩ := hmem p hp
    exact ⟨e, τ, xs, h1, h3⟩
  obtain ⟨mu1, hm1, hmono, hws, hothers⟩ := freezeAll hfz hm
  refine ⟨appOb ws ob, mu1, hm1, hmono, fun i τ xs hi => ?_, fun i hi => ?_⟩
  · rcases hev i with h1 | ⟨_, h2⟩ | ⟨e, σ, ys, h1, h2⟩
    · by_cases hin : ∃ p ∈ ws, p.1 = i
      · obtain ⟨p, hp, rfl⟩ := hin
        obtain ⟨e, σ, ys, k1, k2, k3⟩ := hmem p hp
        rw [h1, k1] at k2
        cases k2
      · rw [(hothers i fun p hp e => hin ⟨p, hp, e⟩).1, ← h1]
        exact hi
    · rw [hi] at h2; cases h2
    · rw [hi] at h2
      obtain ⟨p, hp, he⟩ := look_mem ob' i (by rw [hi]; intro h; cases h)
      have : (i, AV.frz τ xs) ∈ ws := by
        refine List.mem_filterMap.2 ⟨p, hp, ?_⟩
        rw [he, h1, hi]
      exact hws _ this
  · refine (hothers i fun p hp e => ?_).1
    obtain ⟨_, _, _, _, k2, _⟩ := hmem p hp
    rw [e, hi] at k2
    cases k2

theorem zip_find {ws : Wr} {os : List (Option Nat)} (hn : (ws.map (·.1)).Nodup) (hl : os.length = ws.length) (q : (Nat × AV) × Option Nat) (hq : q ∈ ws.zip os) :
    (ws.zip os).find? (fun x => x.1.1 == q.1.1) = some q := by
  induction ws generalizing os with
  | nil => simp at hq
  | cons p ws ih =>
    cases os with
    | nil => simp at hl
    | cons o os =>
      simp only [List.map_cons, List.nodup_cons] at hn
      rw [List.zip_cons_cons] at hq ⊢
      rcases List.mem_cons.1 hq with rfl | hq'
      · simp
      · have hne : p.1 ≠ q.1.1 := by
          intro e
          apply hn.1
          rw [e]
          exact List.mem_map.2 ⟨q.1, (List.of_mem_zip hq').1, rfl⟩
        rw [List.find?_cons_of_neg (by simpa using hne)]
        exact ih hn.2 (by simpa using hl) hq'

/-- **What was taken out, in a store of its own.** -/
theorem moves_mem {w0 w : World} {ob ob' ob2 : List (Nat × AV)} {mu : Nat → Option Nat} {ok : Nat → Prop} {cs ys : List AV} {ws : Wr} {os : List (Option Nat)}
    (hm : Mem w0 (cx w ob mu ok)) (h : Moves cs ys ob ob' ws os) (hn : (ws.map (·.1)).Nodup) (h2 : ∀ p ∈ ws, look ob2 p.1 = p.2) (h3 : ∀ i, (∀ p ∈ ws, p.1 ≠ i) → look ob2 i = .undef) :
    ∃ mu2, Mem w0 (cx w ob2 mu2 ok) ∧ ∀ us, VL (cx w ob mu ok) cs us → VL (cx w ob2 mu2 ok) ys us := by
  obtain ⟨ob1, mu1, hm1, hmono, hfrz, hdead⟩ := ev_freeze hm h.ev
  let mu2 : Nat → Option Nat := fun i => match (ws.zip os).find? (fun x => x.1.1 == i) with | some q => q.2.bind mu1 | none => none
  have hin : ∀ q ∈ ws.zip os, mu2 q.1.1 = q.2.bind mu1 := by
    intro q hq
    show (match (ws.zip os).find? (fun x => x.1.1 == q.1.1) with | some q => q.2.bind mu1 | none => none) = _
    rw [zip_find hn h.len q hq]
  have hof : ∀ i b, mu2 i = some b → ∃ q ∈ ws.zip os, q.1.1 = i ∧ ∃ j, q.2 = some j ∧ mu1 j = some b := by
    intro i b hb
    have hb : (match (ws.zip os).find? (fun x => x.1.1 == i) with | some q => q.2.bind mu1 | none => none) = some b := hb
    cases hf : (ws.zip os).find? (fun x => x.1.1 == i) with
    | none => rw [hf] at hb; cases hb
    | some q =>
      rw [hf] at hb
      have hq := List.mem_of_find?_eq_some hf
      have he := List.find?_some hf
      cases hq2 : q.2 with
      | none => simp only [hq2, Option.bind_none] at hb; cases hb
      | some j =>
        simp only [hq2, Option.bind_some] at hb
        exact ⟨q, hq, by simpa using he, j, hq2, hb⟩
  have hnone : ∀ i, (∀ p ∈ ws, p.1 ≠ i) → mu2 i = none := by
    intro i hi
    cases hb : mu2 i with
    | none => rfl
    | some b =>
      obtain ⟨q, hq, he, _⟩ := hof i b hb
      exact (hi q.1 (List.of_mem_zip hq).1 he).elim
  have hc : Cond ob ob' ws os (cx w ob1 mu1 ok) (cx w ob2 mu2 ok) := by
    refine ⟨fun d v hd => DV.mono (fun b hb => ⟨hb.1, hb.2.1, fun i e => ?_⟩) (fun _ _ => rfl) hd, rfl, fun i τ xs hi => hfrz i τ xs hi, fun i hd _ => hdead i hd, fun q hq => ⟨h2 q.1 (List.of_mem_zip hq).1, hin q hq⟩⟩
    obtain ⟨_, _, _, j, _, hj⟩ := hof i b e
    exact hb.2.2 j hj
  obtain ⟨s1, s2⟩ := h.sends _ _ hc
  refine ⟨mu2, ⟨fun i => ?_, fun i j b hi hj => ?_, fun i b hi => ?_, hm1.ext, hm.okn⟩, fun us hu => s1 us (hmono.vl _ _ hu)⟩
  · by_cases hi : ∃ p ∈ ws, p.1 = i
    · obtain ⟨p, hp, rfl⟩ := hi
      exact s2 hm1.obj p hp
    · have hi' : ∀ p ∈ ws, p.1 ≠ i := fun p hp e => hi ⟨p, hp, e⟩
      unfold ObjOK
      rw [show (cx w ob2 mu2 ok).ob i = .undef from h3 i hi']
      exact hnone i hi'
  · obtain ⟨q, hq, rfl, a, ha, hma⟩ := hof i b hi
    obtain ⟨q', hq', rfl, a', ha', hma'⟩ := hof j b hj
    have haa : a = a' := hm1.inj a a' b hma hma'
    subst haa
    have key : ∀ {ws : Wr} {os : List (Option Nat)}, (os.filterMap id).Nodup → ∀ {q q' : (Nat × AV) × Option Nat}, q ∈ ws.zip os → q' ∈ ws.zip os → q.2 = some a → q'.2 = some a → q.1.1 = q'.1.1 := by
      intro ws
      induction ws with
      | nil => intro os _ q q' hq; simp at hq
      | cons p ws ih =>
        intro os hnd q q' hq hq' h1 h2
        cases os with
        | nil => simp at hq
        | cons o os =>
          rw [List.zip_cons_cons] at hq hq'
          have tail : (os.filterMap id).Nodup := by
            cases o with
            | none => simpa using hnd
            | some o => simp only [List.filterMap_cons, id_eq, List.nodup_cons] at hnd; exact hnd.2
          have no : o = some a → ∀ {x : (Nat × AV) × Option Nat}, x ∈ ws.zip os → x.2 = some a → False := by
            intro ho x hx hxa
            subst ho
            simp only [List.filterMap_cons, id_eq, List.nodup_cons] at hnd
            apply hnd.1
            have := (List.of_mem_zip hx).2
            rw [hxa] at this
            simpa using this
          rcases List.mem_cons.1 hq with rfl | hq
          · rcases List.mem_cons.1 hq' with rfl | hq'
            · rfl
            · exact (no h1 hq' h2).elim
          · rcases List.mem_cons.1 hq' with rfl | hq'
            · exact (no h2 hq h1).elim
            · exact ih tail hq hq' h1 h2
    exact key h.nodup hq hq' ha ha'
  · obtain ⟨_, _, _, j, _, hj⟩ := hof i b hi
    exact hm1.base j b hj

theorem apartN_nodup : ∀ (ob : List (Nat × AV)), apartN ob = true → (ob.map (·.1)).Nodup
  | [], _ => by simp
  | p :: r, h => by
    unfold apartN at h
    cases hc : (r.all fun q => !(Nat.beq p.1 q.1)) with
    | false => rw [hc] at h; cases h
    | true =>
      rw [hc] at h
      rw [List.map_cons, List.nodup_cons]
      refine ⟨fun hm => ?_, apartN_nodup r h⟩
      obtain ⟨q, hq, he⟩ := List.mem_map.1 hm
      have := List.all_eq_true.1 hc q hq
      rw [he] at this
      simp at this

theorem look_list_in : ∀ (ob : List (Nat × AV)), (ob.map (·.1)).Nodup → ∀ p ∈ ob, look ob p.1 = p.2
  | [], _, _, h => by cases h
  | q :: ob, hn, p, h => by
    simp only [List.map_cons, List.nodup_cons] at hn
    rcases List.mem_cons.1 h with rfl | h
    · exact look_eq _ _ _
    · rw [look_ne _ _ (fun e => hn.1 (by rw [e]; exact List.mem_map.2 ⟨p, h, rfl⟩))]
      exact look_list_in ob hn.2 p h

theorem look_list_out (ob : List (Nat × AV)) (i : Nat) (h : ∀ p ∈ ob, p.1 ≠ i) : look ob i = .undef := by
  apply Classical.byContradiction
  intro hne
  obtain ⟨p, hp, he⟩ := look_mem ob i hne
  exact h p hp he

theorem expoCell_slot {κ : Kd} {v x : AV} {ob ob' : List (Nat × AV)} (h : expoCell κ v ob = some (x, ob')) (id : Nat) :
    (impSlot id x).1 = (impCell id x).1 ∧ (impSlot id x).2 = (impCell id x).2.1 := by
  unfold expoCell at h
  repeat' (split at h)
  all_goals first
    | (cases h; done)
    | (simp only [Option.some.injEq, Prod.mk.injEq] at h; obtain ⟨rfl, _⟩ := h; exact ⟨rfl, rfl⟩)
    | (generalize Nat.beq _ _ = b at h
       cases b
       · cases h
       · simp only [cond_true, Option.some.injEq, Prod.mk.injEq] at h; obtain ⟨rfl, _⟩ := h; exact ⟨rfl, rfl⟩)

theorem expoSlot_moves {κ : Kd} {v x : AV} {ob ob' : List (Nat × AV)} (h : expoSlot κ v ob = some (x, ob')) (id : Nat) :
    ∃ os, Moves [v] [(impSlot id x).1] ob ob' (impSlot id x).2 os := by
  unfold expoSlot at h
  split at h
  · rename_i ks
    split at h
    · rename_i i
      split at h
      case h_2 => cases h
      rename_i cs hl
      split at h
      case h_2 => cases h
      rename_i xs ob1 hx
      simp only [Option.some.injEq, Prod.mk.injEq] at h
      obtain ⟨rfl, rfl⟩ := h
      obtain ⟨os, m⟩ := expoCells_moves hx (id + 1)
      exact ⟨some i :: os, m.box hl⟩
    · split at h
      case h_2 => cases h
      rename_i xs ob1 hx
      simp only [Option.some.injEq, Prod.mk.injEq] at h
      obtain ⟨rfl, rfl⟩ := h
      obtain ⟨os, m⟩ := expoCells_moves hx (id + 1)
      exact ⟨os, m.agg⟩
    · cases h
  · obtain ⟨os, m⟩ := expoCell_moves h id
    have hx := expoCell_slot h id
    rw [hx.1, hx.2]
    exact ⟨os, m⟩

end Go.Proofs.Mill
