/- Rows of the call's own that become nobody's. -/
import Derived.Test.YtcokmmhkajmkhaaMillStore
set_option linter.all false
namespace Go.Proofs.Mill
open Go.RowKit

theorem look_same {id : Nat} {v : AV} {ob : List (Nat × AV)} (h : look ob id = v) : look ((id, v) :: ob) = look ob := by
  funext j
  by_cases e : id = j
  · subst e; rw [look_eq, h]
  · exact look_ne _ _ e

/-- Writes that freeze rows, and do nothing else. -/
def Fz (ob : List (Nat × AV)) (ws : Wr) : Prop := ∀ p ∈ ws, ∃ e τ, ∃ xs : List τ.den, look ob p.1 = .row e τ xs ∧ p.2 = .frz τ xs

theorem Fz.nil (ob : List (Nat × AV)) : Fz ob [] := fun _ h => by cases h
theorem Fz.append {ob : List (Nat × AV)} {a b : Wr} (h : Fz ob a) (k : Fz ob b) : Fz ob (a ++ b) := fun p hp => by
  rcases List.mem_append.1 hp with hp | hp
  · exact h p hp
  · exact k p hp

def Fz' (ob : List (Nat × AV)) (ws : Wr) : Prop := ∀ p ∈ ws, ∃ e τ, ∃ xs : List τ.den, (look ob p.1 = .row e τ xs ∨ look ob p.1 = .frz τ xs) ∧ p.2 = .frz τ xs

theorem freezeAll' {w0 w : World} {ok : Nat → Prop} : ∀ (ws : Wr) (ob : List (Nat × AV)) (mu : Nat → Option Nat), Fz' ob ws → Mem w0 (cx w ob mu ok) →
    ∃ mu', Mem w0 (cx w (appOb ws ob) mu' ok) ∧ Mono (cx w ob mu ok) (cx w (appOb ws ob) mu' ok) ∧ (∀ p ∈ ws, look (appOb ws ob) p.1 = p.2) ∧
      (∀ id, (∀ p ∈ ws, p.1 ≠ id) → look (appOb ws ob) id = look ob id ∧ mu' id = mu id)
  | [], ob, mu, _, hm => ⟨mu, hm, Mono.refl _, fun _ h => (by cases h), fun _ _ => ⟨rfl, rfl⟩⟩
  | (i, v) :: ws, ob, mu, hf, hm => by
    obtain ⟨e, τ, xs, hl, hv⟩ := hf (i, v) (by simp)
    simp only at hl hv
    subst hv
    have next : ∀ mu1, Mem w0 (cx w ((i, .frz τ xs) :: ob) mu1 ok) → Mono (cx w ob mu ok) (cx w ((i, .frz τ xs) :: ob) mu1 ok) → (∀ id, id ≠ i → mu1 id = mu id) →
        ∃ mu', Mem w0 (cx w (appOb ((i, .frz τ xs) :: ws) ob) mu' ok) ∧ Mono (cx w ob mu ok) (cx w (appOb ((i, .frz τ xs) :: ws) ob) mu' ok) ∧
          (∀ p ∈ (i, AV.frz τ xs) :: ws, look (appOb ((i, .frz τ xs) :: ws) ob) p.1 = p.2) ∧
          (∀ id, (∀ p ∈ (i, AV.frz τ xs) :: ws, p.1 ≠ id) → look (appOb ((i, .frz τ xs) :: ws) ob) id = look ob id ∧ mu' id = mu id) := by
      intro mu1 hm1 hmono hmu
      have hf' : Fz' ((i, .frz τ xs) :: ob) ws := by
        intro p hp
        obtain ⟨e', τ', xs', hl', hv'⟩ := hf p (by simp [hp])
        by_cases ei : i = p.1
        · rw [← ei] at hl'
          rw [← ei, look_eq]
          refine ⟨e', τ', xs', .inr ?_, hv'⟩
          rcases hl with hl | hl <;> rcases hl' with hl' | hl' <;> rw [hl] at hl' <;> injection hl' <;> subst_vars <;> simp_all
        · rw [look_ne _ _ ei]
          exact ⟨e', τ', xs', hl', hv'⟩
      obtain ⟨mu', h1, h2, h3, h4⟩ := freezeAll' ws _ mu1 hf' hm1
      refine ⟨mu', h1, hmono.trans h2, ?_, ?_⟩
      · intro p hp
        rcases List.mem_cons.1 hp with rfl | hp
        · by_cases hin : ∃ q ∈ ws, q.1 = i
          · obtain ⟨q, hq, hqi⟩ := hin
            have h5 := h3 q hq
            obtain ⟨e', τ', xs', hl', hv'⟩ := hf' q hq
            rw [hqi, look_eq] at hl'
            show look (appOb ws ((i, .frz τ xs) :: ob)) i = _
            rw [hqi] at h5
            rw [h5, hv']
            rcases hl' with hl' | hl'
            · cases hl'
            · exact hl'.symm
          · have := (h4 i (fun q hq e => hin ⟨q, hq, e⟩)).1
            rw [look_eq] at this
            exact this
        · exact h3 p hp
      · intro id hid
        have h5 := h4 id (fun p hp => hid p (by simp [hp]))
        have hne : i ≠ id := hid (i, .frz τ xs) (by simp)
        rw [look_ne _ _ hne] at h5
        exact ⟨h5.1, h5.2.trans (hmu id (Ne.symm hne))⟩
    rcases hl with hl | hl
    · obtain ⟨h1, h2⟩ := hm.freeze hl
      exact next _ h2 h1 (fun id h => upd_ne _ _ h)
    · have he := look_same hl
      have hcx : cx w ((i, .frz τ xs) :: ob) mu ok = cx w ob mu ok := by simp only [cx, he]
      exact next mu (hcx ▸ hm) (hcx ▸ Mono.refl _) (fun _ _ => rfl)

theorem freezeAll {w0 w : World} {ok : Nat → Prop} {ws : Wr} {ob : List (Nat × AV)} {mu : Nat → Option Nat} (hf : Fz ob ws) (hm : Mem w0 (cx w ob mu ok)) :
    ∃ mu', Mem w0 (cx w (appOb ws ob) mu' ok) ∧ Mono (cx w ob mu ok) (cx w (appOb ws ob) mu' ok) ∧ (∀ p ∈ ws, look (appOb ws ob) p.1 = p.2) ∧
      (∀ id, (∀ p ∈ ws, p.1 ≠ id) → look (appOb ws ob) id = look ob id ∧ mu' id = mu id) :=
  freezeAll' ws ob mu (fun p hp => let ⟨e, τ, xs, h1, h2⟩ := hf p hp; ⟨e, τ, xs, .inl h1, h2⟩) hm

theorem appOb_append (a b : Wr) (ob : List (Nat × AV)) : appOb (a ++ b) ob = appOb b (appOb a ob) := by
  induction a generalizing ob with
  | nil => rfl
  | cons p a ih => exact ih _

/-- Cells that are to be plain data. -/
theorem dataCell_ok {α : Type} {v : AV} {k : AV → Wr → Rd α} {σ : St} {r : α} (h : (dataCell v k).val σ = some r) :
    ∃ x ws, (k x ws).val σ = some r ∧ Fz σ.ob ws ∧ x.one = true ∧
      ∀ (c c' : Cx) (u : Value), c.ob = look σ.ob → Mono c c' → (∀ p ∈ ws, c'.ob p.1 = p.2) → V c v u → V c' x u := by
  cases v with
  | own id =>
    simp only [dataCell, Rd.val] at h
    change (match σ.get (.m id) with | .row _ τ xs => _ | .frz τ xs => _ | _ => _ : Rd α).val σ = some r at h
    cases hob : σ.get (.m id) <;> rw [hob] at h <;> try (simp [Rd.val] at h; done)
    case row e τ xs =>
      refine ⟨_, _, h, fun p hp => ⟨e, τ, xs, ?_, ?_⟩, rfl, fun c c' u hc hm hw hv => ?_⟩
      · simp only [List.mem_singleton] at hp; subst hp; exact hob
      · simp only [List.mem_singleton] at hp; subst hp; rfl
      · have h1 := hm.own id u hv
        have h2 := hw _ (List.mem_singleton.2 rfl)
        unfold OwnV at h1
        rw [h2] at h1
        exact h1
    case frz τ xs =>
      refine ⟨_, _, h, Fz.nil _, rfl, fun c c' u hc hm hw hv => ?_⟩
      have h1 : OwnV c id u := hv
      unfold OwnV at h1
      rw [hc, show look σ.ob id = .frz τ xs from hob] at h1
      exact hm.dv _ _ h1
  | int k n => exact ⟨_, _, h, Fz.nil _, rfl, fun c c' u _ hm _ hv => hm.v _ _ hv⟩
  | bool b => exact ⟨_, _, h, Fz.nil _, rfl, fun c c' u _ hm _ hv => hm.v _ _ hv⟩
  | str s => exact ⟨_, _, h, Fz.nil _, rfl, fun c c' u _ hm _ hv => hm.v _ _ hv⟩
  | lst τ xs => exact ⟨_, _, h, Fz.nil _, rfl, fun c c' u _ hm _ hv => hm.v _ _ hv⟩
  | emp => exact ⟨_, _, h, Fz.nil _, rfl, fun c c' u _ hm _ hv => hm.v _ _ hv⟩
  | _ => simp [dataCell, Rd.val] at h

theorem dataCells_ok {α : Type} {σ : St} {r : α} : ∀ {vs : List AV} {k : List AV → Wr → Rd α}, (dataCells vs k).val σ = some r →
    ∃ xs ws, (k xs ws).val σ = some r ∧ Fz σ.ob ws ∧ xs.length = vs.length ∧ (∀ x ∈ xs, x.one = true) ∧
      ∀ (c c' : Cx) (us : List Value), c.ob = look σ.ob → Mono c c' → (∀ p ∈ ws, c'.ob p.1 = p.2) → VL c vs us → VL c' xs us
  | [], k, h => ⟨[], [], h, Fz.nil _, rfl, fun _ h => (by cases h), fun c c' us _ _ _ hv => by rw [VL_nil hv]; trivial⟩
  | v :: vs, k, h => by
    obtain ⟨x, ws, h1, h2, h3, h4⟩ := dataCell_ok h
    obtain ⟨xs, ws', h5, h6, h7, h8, h9⟩ := dataCells_ok h1
    refine ⟨x :: xs, ws ++ ws', h5, h2.append h6, by simp [h7], ?_, ?_⟩
    · intro y hy
      rcases List.mem_cons.1 hy with rfl | hy
      · exact h3
      · exact h8 y hy
    · intro c c' us hc hm hw hv
      obtain ⟨u, us', rfl, hv1, hv2⟩ := VL_cons hv
      exact ⟨h4 c c' u hc hm (fun p hp => hw p (List.mem_append_left _ hp)) hv1, h9 c c' us' hc hm (fun p hp => hw p (List.mem_append_right _ hp)) hv2⟩

end Go.Proofs.Mill
