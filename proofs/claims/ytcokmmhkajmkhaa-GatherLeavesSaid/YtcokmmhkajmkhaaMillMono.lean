/- Memory that grows or is written: what was known of values stays so. -/
import Derived.Test.YtcokmmhkajmkhaaMillRel
set_option linter.all false
namespace Go.Proofs.Mill
open Go.RowKit

theorem Cx.DVs.length {c : Cx} : ∀ {ds : List D} {vs : List Value}, c.DVs ds vs → ds.length = vs.length
  | [], [], _ => rfl
  | _ :: _, _ :: _, ⟨_, b⟩ => by simp [Cx.DVs.length b]

theorem Cx.DVs.get {c : Cx} : ∀ {ds : List D} {vs : List Value}, c.DVs ds vs → ∀ (i : Nat) (d : D), ds[i]? = some d → ∃ v, vs[i]? = some v ∧ c.DV d v
  | [], [], _, i, d, h => by simp at h
  | _ :: _, v :: _, ⟨a, _⟩, 0, _, h => by simp at h; subst h; exact ⟨v, rfl, a⟩
  | _ :: _, _ :: _, ⟨_, b⟩, i + 1, d, h => by simp at h; simpa using Cx.DVs.get b i d h

theorem Cx.DVs.mk {c : Cx} : ∀ {ds : List D} {vs : List Value}, ds.length = vs.length → (∀ (i : Nat) (d : D) (v : Value), ds[i]? = some d → vs[i]? = some v → c.DV d v) → c.DVs ds vs
  | [], [], _, _ => trivial
  | [], _ :: _, h, _ => by simp at h
  | _ :: _, [], h, _ => by simp at h
  | d :: ds, v :: vs, h, k => ⟨k 0 d v rfl rfl, Cx.DVs.mk (by simpa using h) fun i d' v' hd hv => k (i + 1) d' v' (by simpa using hd) (by simpa using hv)⟩

theorem Cx.DVs.append {c : Cx} : ∀ {xs ys : List D} {vs us : List Value}, c.DVs xs vs → c.DVs ys us → c.DVs (xs ++ ys) (vs ++ us)
  | [], _, [], _, _, h => h
  | _ :: _, _, _ :: _, _, ⟨a, b⟩, h => ⟨a, Cx.DVs.append b h⟩

theorem Cx.DVs.imp {c c' : Cx} (h : ∀ d v, c.DV d v → c'.DV d v) : ∀ {ds : List D} {vs : List Value}, c.DVs ds vs → c'.DVs ds vs
  | [], [], _ => trivial
  | _ :: _, _ :: _, ⟨a, b⟩ => ⟨h _ _ a, DVs.imp h b⟩

theorem Cx.DVs.split {c : Cx} : ∀ {xs ys : List D} {vs : List Value}, c.DVs (xs ++ ys) vs → ∃ us ws, vs = us ++ ws ∧ c.DVs xs us ∧ c.DVs ys ws
  | [], _, vs, h => ⟨[], vs, rfl, trivial, h⟩
  | _ :: _, _, v :: vs, ⟨a, b⟩ => by
    obtain ⟨us, ws, rfl, h1, h2⟩ := Cx.DVs.split b
    exact ⟨v :: us, ws, rfl, ⟨a, h1⟩, h2⟩

theorem flatten_length (τ : Ty) : ∀ (xs : List τ.den), (xs.map τ.enc).flatten.length = xs.length * τ.sz
  | [] => by simp
  | x :: xs => by simp only [List.map_cons, List.flatten_cons, List.length_append, flatten_length τ xs, τ.enc_length, List.length_cons]; rw [Nat.add_mul]; omega

/-- A row's block, read as plain data. -/
theorem DV_of_row {c : Cx} {e : TypeId} {τ : Ty} {xs : List τ.den} {b cap : Nat} {cur : Array Value} (hr : RowAt c e τ b cap cur) (hl : xs.length ≤ cap)
    (hd : c.DVs (xs.map τ.enc).flatten (cur.toList.take (xs.length * τ.sz))) (hb : c.okb b) :
    c.DV (.lst τ.sz (xs.map τ.enc)) (.slice (some ⟨b, 0, none⟩) xs.length cap) := by
  have h := DV.lst (w := c.w) (ok := c.okb) τ.sz (xs.map τ.enc) b 0 cap (fun j => cur.getD j undef) (by simpa using hl)
    (fun r hr => by obtain ⟨x, _, rfl⟩ := List.mem_map.1 hr; exact τ.enc_length x)
    (fun j d hj => by
      obtain ⟨v, hv, _⟩ := hd.get j d hj
      have hv' : cur[j]? = some v := by
        rw [List.getElem?_take] at hv
        split at hv
        · simpa using hv
        · simp at hv
      simp only [World.cell?, hr.1, Nat.zero_add]
      simp [hv', Array.getD_eq_getD_getElem?])
    (fun j d hj => by
      obtain ⟨v, hv, hdv⟩ := hd.get j d hj
      have hv' : cur[j]? = some v := by
        rw [List.getElem?_take] at hv
        split at hv
        · simpa using hv
        · simp at hv
      simp only [Array.getD_eq_getD_getElem?, hv', Option.getD_some]
      exact hdv) hb
  rw [List.length_map] at h
  exact h

/-- What a change does to an object. -/
def Keep (c c' : Cx) (id : Nat) : Prop :=
  c.ob id = .undef ∨ c'.ob id = .dead ∨
  (c'.ob id = c.ob id ∧ c'.mu id = c.mu id ∧ ∀ b, c.mu id = some b → c'.w.heap[b]? = c.w.heap[b]?) ∨
  (∃ cs cs', c.ob id = .box cs ∧ c'.ob id = .box cs' ∧ c'.mu id = c.mu id) ∨
  (∃ e τ, ∃ xs ys : List τ.den, c.ob id = .row e τ xs ∧ c'.ob id = .row e τ ys ∧ ys.length = xs.length ∧ c'.mu id = c.mu id ∧
    ∀ b cap cur, c.mu id = some b → RowAt c e τ b cap cur → ∃ cur', RowAt c' e τ b cap cur') ∨
  (∃ e τ, ∃ xs : List τ.den, c.ob id = .row e τ xs ∧ c'.ob id = .frz τ xs ∧
    ((c.mu id = none ∧ xs = []) ∨ ∃ b cap cur, c.mu id = some b ∧ RowAt c e τ b cap cur ∧ xs.length ≤ cap ∧
      c'.DVs (xs.map τ.enc).flatten (cur.toList.take (xs.length * τ.sz)) ∧ c'.okb b ∧ c'.w.heap[b]? = c.w.heap[b]?))

theorem mono_of {c c' : Cx} (h1 : ∀ b, c.okb b → c'.okb b ∧ c'.w.heap[b]? = c.w.heap[b]?) (h2 : ∀ id, Keep c c' id) : Mono c c' := by
  have hdv : ∀ d v, c.DV d v → c'.DV d v := fun d v h => DV.mono (fun b hb => (h1 b hb).1) (fun b hb => (h1 b hb).2) h
  have hlp : ∀ τ xs i off v, LptrV c τ xs i off v → LptrV c' τ xs i off v := by
    rintro τ xs i off v ⟨hi, b, o, u, rfl, hb, hc, hd⟩
    exact ⟨hi, b, o, u, rfl, (h1 b hb).1, fun j d hj => (cell?_heap (h1 b hb).2 _).trans (hc j d hj), fun j d hj => hdv _ _ (hd j d hj)⟩
  refine ⟨⟨hdv, ?_, ?_, ?_, hlp⟩, h1⟩
  · intro id v h
    rcases h2 id with h0 | h0 | ⟨h0, hm, hh⟩ | ⟨cs, cs', h0, h0', hm⟩ | ⟨e, τ, xs, ys, h0, h0', hl, hm, hrow⟩ | ⟨e, τ, xs, h0, h0', hrow⟩
    · simp [OwnV, h0] at h
    · have := h.one; simp only [OwnV, h0]; exact this
    · unfold OwnV at h ⊢
      rw [h0]
      cases hob : c.ob id <;> rw [hob] at h <;> try exact h
      case row e τ xs =>
        simp only at h ⊢
        rcases h with ⟨a, b, d⟩ | ⟨b, cap, cur, a, r, l, d⟩
        · exact .inl ⟨hm.trans a, b, d⟩
        · exact .inr ⟨b, cap, cur, hm.trans a, ⟨(hh b a).trans r.1, r.2⟩, l, d⟩
      case frz τ xs => exact hdv _ _ h
    · simp [OwnV, h0] at h
    · simp only [OwnV, h0] at h
      simp only [OwnV, h0']
      rcases h with ⟨a, b, d⟩ | ⟨b, cap, cur, a, r, l, d⟩
      · subst b
        exact .inl ⟨hm.trans a, List.length_eq_zero_iff.1 (by simpa using hl), d⟩
      · obtain ⟨cur', r'⟩ := hrow b cap cur a r
        exact .inr ⟨b, cap, cur', hm.trans a, r', hl ▸ l, by rw [hl]; exact d⟩
    · simp only [OwnV, h0] at h
      simp only [OwnV, h0']
      rcases h with ⟨a, rfl, A, rfl⟩ | ⟨b, cap, cur, a, r, l, rfl⟩
      · exact DV.nil _ _ _ (fun _ => rfl)
      · rcases hrow with ⟨hn, _⟩ | ⟨b', cap', cur', a', r', l', hd, hb, hheap⟩
        · rw [a] at hn; cases hn
        · rw [a] at a'; cases a'
          have e1 := r.1.symm.trans r'.1
          simp only [Option.some.injEq, Obj.cells.injEq, and_true] at e1
          subst e1
          have hcap : cap = cap' := Nat.eq_of_mul_eq_mul_right τ.sz_pos (r.2.symm.trans r'.2)
          subst hcap
          exact DV_of_row ⟨hheap.trans r.1, r.2⟩ l hd hb
  · intro id off v h
    rcases h2 id with h0 | h0 | ⟨h0, hm, hh⟩ | ⟨cs, cs', h0, h0', hm⟩ | ⟨e, τ, xs, ys, h0, h0', hl, hm, hrow⟩ | ⟨e, τ, xs, h0, h0', hrow⟩
    · simp [PtrV, h0] at h
    · have := h.some; simp only [PtrV, h0]; exact this
    · unfold PtrV at h ⊢
      rw [h0]
      cases hob : c.ob id <;> rw [hob] at h <;> try exact h
      case box cs => obtain ⟨b, a, e⟩ := h; exact ⟨b, hm.trans a, e⟩
    · simp only [PtrV, h0] at h
      simp only [PtrV, h0']
      obtain ⟨b, a, e⟩ := h
      exact ⟨b, hm.trans a, e⟩
    · simp [PtrV, h0] at h
    · simp [PtrV, h0] at h
  · intro id i off v h
    rcases h2 id with h0 | h0 | ⟨h0, hm, hh⟩ | ⟨cs, cs', h0, h0', hm⟩ | ⟨e, τ, xs, ys, h0, h0', hl, hm, hrow⟩ | ⟨e, τ, xs, h0, h0', hrow⟩
    · simp [EptrV, h0] at h
    · have := h.some; simp only [EptrV, h0]; exact this
    · unfold EptrV at h ⊢
      rw [h0]
      cases hob : c.ob id <;> rw [hob] at h <;> try exact h
      case row e τ xs => obtain ⟨b, a, e⟩ := h; exact ⟨b, hm.trans a, e⟩
      case frz τ xs => exact hlp _ _ _ _ _ h
    · simp [EptrV, h0] at h
    · simp only [EptrV, h0] at h
      simp only [EptrV, h0']
      obtain ⟨b, a, e, l⟩ := h
      exact ⟨b, hm.trans a, e, hl ▸ l⟩
    · simp only [EptrV, h0] at h
      simp only [EptrV, h0']
      obtain ⟨b, a, rfl, l⟩ := h
      rcases hrow with ⟨hn, _⟩ | ⟨b', cap', cur', a', r', l', hd, hb, hheap⟩
      · rw [a] at hn; cases hn
      · rw [a] at a'; cases a'
        refine ⟨l, b, 0, fun j => cur'.getD j undef, by simp, hb, ?_, ?_⟩ <;> intro j d hj <;> obtain ⟨v, hv, hdv'⟩ := hd.get j d hj <;>
          have hv' : cur'[j]? = some v := by
            rw [List.getElem?_take] at hv
            split at hv
            · simpa using hv
            · simp at hv
        · simp only [World.cell?, hheap, r'.1, Nat.zero_add]
          simp [hv', Array.getD_eq_getD_getElem?]
        · simp only [Array.getD_eq_getD_getElem?, hv', Option.getD_some]
          exact hdv'

theorem look_eq (id : Nat) (o : AV) (ob : List (Nat × AV)) : look ((id, o) :: ob) id = o := by
  simp [look]
theorem look_ne {id j : Nat} (o : AV) (ob : List (Nat × AV)) (h : id ≠ j) : look ((id, o) :: ob) j = look ob j := by
  have : Nat.beq id j = false := by
    rcases hb : Nat.beq id j with _ | _
    · rfl
    · exact (h (Nat.eq_of_beq_eq_true hb)).elim
  simp [look, this]

def upd (mu : Nat → Option Nat) (id : Nat) (b : Option Nat) (j : Nat) : Option Nat := if j = id then b else mu j
theorem upd_eq (mu : Nat → Option Nat) (id : Nat) (b : Option Nat) : upd mu id b id = b := by simp [upd]
theorem upd_ne (mu : Nat → Option Nat) {id j : Nat} (b : Option Nat) (h : j ≠ id) : upd mu id b j = mu j := by simp [upd, h]

end Go.Proofs.Mill
