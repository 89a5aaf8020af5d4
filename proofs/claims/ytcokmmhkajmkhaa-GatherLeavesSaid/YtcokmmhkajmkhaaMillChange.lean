/- The changes of the store, one by one. -/
import Derived.Test.YtcokmmhkajmkhaaMillMono
set_option linter.all false
namespace Go.Proofs.Mill
open Go.RowKit

abbrev cx (w : World) (ob : List (Nat × AV)) (mu : Nat → Option Nat) (ok : Nat → Prop) : Cx := ⟨w, look ob, mu, ok⟩

theorem ObjOK.keep {c c' : Cx} (hm : Mono c c') {j : Nat} (h1 : c'.ob j = c.ob j) (h2 : c'.mu j = c.mu j) (h3 : ∀ b, c.mu j = some b → c'.w.heap[b]? = c.w.heap[b]?)
    (h : ObjOK c j) : ObjOK c' j := by
  unfold ObjOK at h ⊢
  rw [h1]
  cases ho : c.ob j <;> rw [ho] at h <;> try exact h
  case undef => exact h2.trans h
  case box cs => obtain ⟨b, cur, e, a, r, d⟩ := h; exact ⟨b, cur, e, h2.trans a, (h3 b a).trans r, hm.vl _ _ d⟩
  case row e τ xs =>
    rcases h with ⟨a, d⟩ | ⟨b, cap, cur, a, r, l, m, d⟩
    · exact .inl ⟨h2.trans a, d⟩
    · exact .inr ⟨b, cap, cur, h2.trans a, ⟨(h3 b a).trans r.1, r.2⟩, l, m, Cx.DVs.imp hm.dv d⟩
  case frz τ xs => exact h2.trans h
  case dead => exact h2.trans h

/-- A world in which some blocks are turned. -/
structure Turned (w w' : World) (may : Nat → Prop) : Prop where
  os : w'.os = w.os
  tape : w'.tape = w.tape
  output : w'.output = w.output
  size : w.heap.size ≤ w'.heap.size
  block : ∀ k, k < w.heap.size → ¬ may k → w'.heap[k]? = w.heap[k]?

theorem Turned.refl (w : World) (may : Nat → Prop) : Turned w w may := ⟨rfl, rfl, rfl, Nat.le_refl _, fun _ _ _ => rfl⟩

theorem Turned.ext {w0 w w' : World} {may : Nat → Prop} (h : Below w0.heap.size w0 w) (ht : Turned w w' may) (hm : ∀ k, may k → w0.heap.size ≤ k) :
    Below w0.heap.size w0 w' :=
  ⟨ht.os.trans h.os, ht.tape.trans h.tape, ht.output.trans h.output, Nat.le_trans h.size ht.size,
   fun k hk => (ht.block k (Nat.lt_of_lt_of_le hk h.size) (fun x => absurd (hm k x) (by omega))).trans (h.block k hk)⟩

/-- A new object. -/
theorem Mem.alloc {w0 w w' : World} {ob : List (Nat × AV)} {mu : Nat → Option Nat} {ok : Nat → Prop} {id : Nat} {o : AV} {blk : Option Nat}
    (h : Mem w0 (cx w ob mu ok)) (hid : look ob id = .undef) (ht : Turned w w' fun _ => False) (hb : ∀ b, blk = some b → w.heap.size ≤ b ∧ b < w'.heap.size) :
    Mono (cx w ob mu ok) (cx w' ((id, o) :: ob) (upd mu id blk) ok) ∧
    (ObjOK (cx w' ((id, o) :: ob) (upd mu id blk) ok) id → Mem w0 (cx w' ((id, o) :: ob) (upd mu id blk) ok)) := by
  have hmono : Mono (cx w ob mu ok) (cx w' ((id, o) :: ob) (upd mu id blk) ok) := by
    refine mono_of (fun b hb' => ?_) (fun j => ?_)
    · obtain ⟨h1, h2, h3⟩ := hb'
      refine ⟨⟨h1, Nat.lt_of_lt_of_le h2 ht.size, fun j => ?_⟩, ht.block b h2 (fun x => x)⟩
      by_cases e : j = id
      · subst e
        show upd mu j blk j ≠ some b
        rw [upd_eq]
        intro e
        have := (hb b e).1
        have : b < w.heap.size := h2
        omega
      · show upd mu id blk j ≠ some b
        rw [upd_ne _ _ e]
        exact h3 j
    · by_cases e : j = id
      · subst e; exact .inl hid
      · refine .inr (.inr (.inl ⟨look_ne _ _ (Ne.symm e), upd_ne _ _ e, fun b hb' => ?_⟩))
        exact ht.block b (h.lt hb') (fun x => x)
  refine ⟨hmono, fun ho => ⟨fun j => ?_, fun i j b hi hj => ?_, fun j b hj => ?_, ht.ext h.ext (fun _ x => x.elim), h.okn⟩⟩
  · by_cases e : j = id
    · subst e; exact ho
    · exact (h.obj j).keep hmono (look_ne _ _ (Ne.symm e)) (upd_ne _ _ e) fun b hb' => ht.block b (h.lt hb') (fun x => x)
  · have hi' : upd mu id blk i = some b := hi
    have hj' : upd mu id blk j = some b := hj
    by_cases ei : i = id
    · by_cases ej : j = id
      · rw [ei, ej]
      · subst ei
        rw [upd_eq] at hi'
        rw [upd_ne _ _ ej] at hj'
        have h1 := (hb b hi').1
        have h2 := h.lt (id := j) hj'
        exact absurd h2 (by simpa using h1)
    · by_cases ej : j = id
      · subst ej
        rw [upd_eq] at hj'
        rw [upd_ne _ _ ei] at hi'
        have h1 := (hb b hj').1
        have h2 := h.lt (id := i) hi'
        exact absurd h2 (by simpa using h1)
      · rw [upd_ne _ _ ei] at hi'
        rw [upd_ne _ _ ej] at hj'
        exact h.inj i j b hi' hj'
  · have hj' : upd mu id blk j = some b := hj
    by_cases ej : j = id
    · subst ej
      rw [upd_eq] at hj'
      exact Nat.le_trans h.ext.size (hb b hj').1
    · rw [upd_ne _ _ ej] at hj'
      exact h.base j b hj'

/-- An object that is written. -/
theorem Mem.write {w0 w w' : World} {ob : List (Nat × AV)} {mu : Nat → Option Nat} {ok : Nat → Prop} {id b : Nat} {o : AV}
    (h : Mem w0 (cx w ob mu ok)) (hid : mu id = some b) (ht : Turned w w' fun k => k = b)
    (hk : (∀ b, (cx w ob mu ok).okb b → (cx w' ((id, o) :: ob) mu ok).okb b ∧ w'.heap[b]? = w.heap[b]?) → Keep (cx w ob mu ok) (cx w' ((id, o) :: ob) mu ok) id) :
    Mono (cx w ob mu ok) (cx w' ((id, o) :: ob) mu ok) ∧
    (ObjOK (cx w' ((id, o) :: ob) mu ok) id → Mem w0 (cx w' ((id, o) :: ob) mu ok)) := by
  have hokb : ∀ b, (cx w ob mu ok).okb b → (cx w' ((id, o) :: ob) mu ok).okb b ∧ w'.heap[b]? = w.heap[b]? := by
    intro k hk'
    obtain ⟨h1, h2, h3⟩ := hk'
    exact ⟨⟨h1, Nat.lt_of_lt_of_le h2 ht.size, h3⟩, ht.block k h2 (fun e => h3 id (by rw [e]; exact hid))⟩
  have hother : ∀ j, j ≠ id → ∀ k, mu j = some k → w'.heap[k]? = w.heap[k]? := by
    intro j hj k hk'
    refine ht.block k (h.lt (id := j) hk') (fun e => hj ?_)
    subst e
    exact h.inj j id k hk' hid
  have hmono : Mono (cx w ob mu ok) (cx w' ((id, o) :: ob) mu ok) := by
    refine mono_of hokb (fun j => ?_)
    by_cases e : j = id
    · subst e; exact hk hokb
    · exact .inr (.inr (.inl ⟨look_ne _ _ (Ne.symm e), rfl, hother j e⟩))
  refine ⟨hmono, fun ho => ⟨fun j => ?_, h.inj, h.base, ht.ext h.ext (fun k e => e ▸ h.base id b hid), h.okn⟩⟩
  by_cases e : j = id
  · subst e; exact ho
  · exact (h.obj j).keep hmono (look_ne _ _ (Ne.symm e)) rfl (hother j e)

/-- A row of the call's own is frozen. -/
theorem Mem.freeze {w0 w : World} {ob : List (Nat × AV)} {mu : Nat → Option Nat} {ok : Nat → Prop} {id : Nat} {e : TypeId} {τ : Ty} {xs : List τ.den}
    (h : Mem w0 (cx w ob mu ok)) (hid : look ob id = .row e τ xs) :
    Mono (cx w ob mu ok) (cx w ((id, .frz τ xs) :: ob) (upd mu id none) ok) ∧ Mem w0 (cx w ((id, .frz τ xs) :: ob) (upd mu id none) ok) := by
  have hokb : ∀ b, (cx w ob mu ok).okb b → (cx w ((id, .frz τ xs) :: ob) (upd mu id none) ok).okb b := by
    intro k hk'
    obtain ⟨h1, h2, h3⟩ := hk'
    refine ⟨h1, h2, fun j => ?_⟩
    show upd mu id none j ≠ some k
    by_cases ej : j = id
    · subst ej; rw [upd_eq]; simp
    · rw [upd_ne _ _ ej]; exact h3 j
  have hdv : ∀ d v, (cx w ob mu ok).DV d v → (cx w ((id, .frz τ xs) :: ob) (upd mu id none) ok).DV d v := fun d v hd => DV.mono hokb (fun _ _ => rfl) hd
  have hmono : Mono (cx w ob mu ok) (cx w ((id, .frz τ xs) :: ob) (upd mu id none) ok) := by
    refine mono_of (fun b hb => ⟨hokb b hb, rfl⟩) (fun j => ?_)
    by_cases ej : j = id
    · subst ej
      refine .inr (.inr (.inr (.inr (.inr ⟨e, τ, xs, hid, look_eq _ _ _, ?_⟩))))
      have ho := h.obj j
      unfold ObjOK at ho
      rw [show (cx w ob mu ok).ob j = look ob j from rfl, hid] at ho
      rcases ho with ho | ⟨b, cap, cur, a, r, l, m, d⟩
      · exact .inl ho
      · refine .inr ⟨b, cap, cur, a, r, l, Cx.DVs.imp hdv d, ⟨h.okn b (h.base _ _ a), h.lt a, fun i => ?_⟩, rfl⟩
        show upd mu j none i ≠ some b
        by_cases ei : i = j
        · subst ei; rw [upd_eq]; simp
        · rw [upd_ne _ _ ei]
          exact fun hi => ei (h.inj i j b hi a)
    · exact .inr (.inr (.inl ⟨look_ne _ _ (Ne.symm ej), upd_ne _ _ ej, fun _ _ => rfl⟩))
  refine ⟨hmono, fun j => ?_, fun i j b hi hj => ?_, fun j b hj => ?_, h.ext, h.okn⟩
  · by_cases ej : j = id
    · subst ej
      show ObjOK _ _
      unfold ObjOK
      rw [show (cx w ((j, .frz τ xs) :: ob) (upd mu j none) ok).ob j = .frz τ xs from look_eq _ _ _]
      exact upd_eq _ _ _
    · exact (h.obj j).keep hmono (look_ne _ _ (Ne.symm ej)) (upd_ne _ _ ej) fun _ _ => rfl
  · have hi' : upd mu id none i = some b := hi
    have hj' : upd mu id none j = some b := hj
    by_cases ei : i = id
    · subst ei; rw [upd_eq] at hi'; cases hi'
    · by_cases ej : j = id
      · subst ej; rw [upd_eq] at hj'; cases hj'
      · rw [upd_ne _ _ ei] at hi'
        rw [upd_ne _ _ ej] at hj'
        exact h.inj i j b hi' hj'
  · have hj' : upd mu id none j = some b := hj
    by_cases ej : j = id
    · subst ej; rw [upd_eq] at hj'; cases hj'
    · rw [upd_ne _ _ ej] at hj'
      exact h.base j b hj'

/-- An object is given up; its block may be turned. -/
theorem Mem.drop {w0 w w' : World} {ob : List (Nat × AV)} {mu : Nat → Option Nat} {ok : Nat → Prop} {id : Nat}
    (h : Mem w0 (cx w ob mu ok)) (ht : Turned w w' fun k => mu id = some k) (hs : ∀ k, mu id = some k → ∀ j, j ≠ id → mu j ≠ some k) :
    ∃ ok' : Nat → Prop, Mono (cx w ob mu ok) (cx w' ((id, .dead) :: ob) (upd mu id none) ok') := ⟨fun _ => True, by
  refine mono_of (fun b hb => ?_) (fun j => ?_)
  · obtain ⟨h1, h2, h3⟩ := hb
    refine ⟨⟨trivial, Nat.lt_of_lt_of_le h2 ht.size, fun j => ?_⟩, ht.block b h2 (h3 id)⟩
    show upd mu id none j ≠ some b
    by_cases ej : j = id
    · subst ej; rw [upd_eq]; simp
    · rw [upd_ne _ _ ej]; exact h3 j
  · by_cases ej : j = id
    · subst ej; exact .inr (.inl (look_eq _ _ _))
    · exact .inr (.inr (.inl ⟨look_ne _ _ (Ne.symm ej), upd_ne _ _ ej, fun b hb => ht.block b (h.lt hb) (fun e => hs b e j ej hb)⟩))⟩

/-- A row of the call's own goes over into another one, in its own block or in a new one. -/
theorem Mem.pass {w0 w w' : World} {ob : List (Nat × AV)} {mu : Nat → Option Nat} {ok : Nat → Prop} {id nid : Nat} {o : AV} {blk : Option Nat}
    (h : Mem w0 (cx w ob mu ok)) (hn : look ob nid = .undef) (hid : look ob id ≠ .undef) (ht : Turned w w' fun k => mu id = some k)
    (hb : ∀ b, blk = some b → (mu id = some b ∨ w.heap.size ≤ b) ∧ b < w'.heap.size) :
    Mono (cx w ob mu ok) (cx w' ((nid, o) :: (id, .dead) :: ob) (upd (upd mu id none) nid blk) ok) ∧
    (ObjOK (cx w' ((nid, o) :: (id, .dead) :: ob) (upd (upd mu id none) nid blk) ok) nid → Mem w0 (cx w' ((nid, o) :: (id, .dead) :: ob) (upd (upd mu id none) nid blk) ok)) := by
  have hne : nid ≠ id := fun e => hid (e ▸ hn)
  have hmu : ∀ j, j ≠ nid → j ≠ id → upd (upd mu id none) nid blk j = mu j := fun j h1 h2 => by rw [upd_ne _ _ h1, upd_ne _ _ h2]
  have hmid : upd (upd mu id none) nid blk id = none := by rw [upd_ne _ _ (Ne.symm hne), upd_eq]
  have hmnid : upd (upd mu id none) nid blk nid = blk := upd_eq _ _ _
  have hlk : ∀ j, j ≠ nid → j ≠ id → look ((nid, o) :: (id, .dead) :: ob) j = look ob j := fun j h1 h2 => by rw [look_ne _ _ (Ne.symm h1), look_ne _ _ (Ne.symm h2)]
  have hlid : look ((nid, o) :: (id, .dead) :: ob) id = .dead := by rw [look_ne _ _ hne, look_eq]
  have hsame : ∀ j, j ≠ id → ∀ b, mu j = some b → w'.heap[b]? = w.heap[b]? := fun j hj b hjb =>
    ht.block b (h.lt (id := j) hjb) (fun e => hj (h.inj j id b hjb e))
  have hmono : Mono (cx w ob mu ok) (cx w' ((nid, o) :: (id, .dead) :: ob) (upd (upd mu id none) nid blk) ok) := by
    refine mono_of (fun b hb' => ?_) (fun j => ?_)
    · obtain ⟨h1, h2, h3⟩ := hb'
      refine ⟨⟨h1, Nat.lt_of_lt_of_le h2 ht.size, fun j => ?_⟩, ht.block b h2 (h3 id)⟩
      show upd (upd mu id none) nid blk j ≠ some b
      by_cases e1 : j = nid
      · rw [e1, hmnid]
        intro e
        rcases (hb b e).1 with h4 | h4
        · exact h3 id h4
        · have : b < w.heap.size := h2
          omega
      · by_cases e2 : j = id
        · rw [e2, hmid]; simp
        · rw [hmu j e1 e2]; exact h3 j
    · by_cases e1 : j = nid
      · exact .inl (by rw [e1]; exact hn)
      · by_cases e2 : j = id
        · exact .inr (.inl (by rw [e2]; exact hlid))
        · exact .inr (.inr (.inl ⟨hlk j e1 e2, hmu j e1 e2, fun b hb' => hsame j e2 b hb'⟩))
  refine ⟨hmono, fun ho => ⟨fun j => ?_, fun i j b hi hj => ?_, fun j b hj => ?_, ht.ext h.ext (fun k e => h.base id k e), h.okn⟩⟩
  · by_cases e1 : j = nid
    · rw [e1]; exact ho
    · by_cases e2 : j = id
      · subst e2
        show ObjOK _ _
        unfold ObjOK
        rw [show (cx w' ((nid, o) :: (j, .dead) :: ob) (upd (upd mu j none) nid blk) ok).ob j = .dead from hlid]
        exact hmid
      · exact (h.obj j).keep hmono (hlk j e1 e2) (hmu j e1 e2) fun b hb' => hsame j e2 b hb'
  · have hi' : upd (upd mu id none) nid blk i = some b := hi
    have hj' : upd (upd mu id none) nid blk j = some b := hj
    have key : ∀ i, i ≠ nid → upd (upd mu id none) nid blk i = some b → blk = some b → False := by
      intro i e1 hi hbk
      by_cases e2 : i = id
      · rw [e2, hmid] at hi; cases hi
      · rw [hmu i e1 e2] at hi
        rcases (hb b hbk).1 with h4 | h4
        · exact e2 (h.inj i id b hi h4)
        · exact absurd (h.lt (id := i) hi) (by simpa using h4)
    by_cases e1 : i = nid
    · by_cases e3 : j = nid
      · rw [e1, e3]
      · rw [e1, hmnid] at hi'
        exact (key j e3 hj' hi').elim
    · by_cases e3 : j = nid
      · rw [e3, hmnid] at hj'
        exact (key i e1 hi' hj').elim
      · by_cases e2 : i = id
        · rw [e2, hmid] at hi'; cases hi'
        · by_cases e4 : j = id
          · rw [e4, hmid] at hj'; cases hj'
          · rw [hmu i e1 e2] at hi'
            rw [hmu j e3 e4] at hj'
            exact h.inj i j b hi' hj'
  · have hj' : upd (upd mu id none) nid blk j = some b := hj
    by_cases e1 : j = nid
    · rw [e1, hmnid] at hj'
      rcases (hb b hj').1 with h4 | h4
      · exact h.base id b h4
      · exact Nat.le_trans h.ext.size h4
    · by_cases e2 : j = id
      · rw [e2, hmid] at hj'; cases hj'
      · rw [hmu j e1 e2] at hj'
        exact h.base j b hj'

end Go.Proofs.Mill
