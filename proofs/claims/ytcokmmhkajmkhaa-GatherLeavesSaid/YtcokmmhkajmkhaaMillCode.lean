/- Code, and functions. -/
import Derived.Test.YtcokmmhkajmkhaaMillNorm
import Derived.Scope
set_option linter.all false
namespace Go.Proofs.Mill
variable {ds : List Deferred}
open Go.RowKit

def Ex.to : Ex → Exit
  | .normal => .normal
  | .exit id => .exit id
  | .goto l => .goto l
  | .ret => .ret

/-- A loop, at the head of a round. -/
def loopIn (P : Program) (c : Code) (Q : Exit → Act → World → Prop) (a : Act) (w : World) : Prop :=
  ∀ (b : Frame) (k : List Item) (cs : List Frame), ∃ e a' w', Q e a' w' ∧ Arrives P (lone (b.at a (.code c :: .inLoop c :: k)) cs w) b k cs e a' w'

theorem wp_of_loopIn {P : Program} {c : Code} {Q : Exit → Act → World → Prop} {a : Act} {w : World} (h : loopIn P c Q a w) : (Code.loop c).wp P Q a w :=
  fun b k cs => let ⟨e, a', w', hq, harr⟩ := h b k cs; ⟨e, a', w', hq, .of_steps (.one step_loop) harr⟩

theorem loopIn_round {P : Program} {c : Code} {Q : Exit → Act → World → Prop} {a : Act} {w : World} (h : c.wp P (Exit.then (loopIn P c Q) Q) a w) : loopIn P c Q a w := by
  intro b k cs
  obtain ⟨e, a₁, w₁, hq, harr⟩ := h b (.inLoop c :: k) cs
  cases e with
  | normal =>
    obtain ⟨e₂, a₂, w₂, hq₂, harr₂⟩ := hq b k cs
    exact ⟨e₂, a₂, w₂, hq₂, .of_steps (Steps.trans harr (.one step_inLoop)) harr₂⟩
  | exit id => exact ⟨_, a₁, w₁, hq, .pass (x := .inLoop c) rfl (fun _ _ => .inl (by simp)) harr⟩
  | goto l => exact ⟨_, a₁, w₁, hq, .pass (x := .inLoop c) rfl (fun _ _ => .inl (by simp)) harr⟩
  | ret => exact ⟨_, a₁, w₁, hq, .pass (x := .inLoop c) rfl (fun _ _ => .inl (by simp)) harr⟩
  | panic ch => exact ⟨_, a₁, w₁, hq, .pass (x := .inLoop c) rfl (fun _ _ => .inl (by simp)) harr⟩
  | outgrown => exact ⟨_, a₁, w₁, hq, .pass (x := .inLoop c) rfl (fun _ _ => .inl (by simp)) harr⟩

theorem loopIn_mono {P : Program} {c : Code} {Q Q' : Exit → Act → World → Prop} {a : Act} {w : World} (h : loopIn P c Q a w) (hq : ∀ e a w, Q e a w → Q' e a w) : loopIn P c Q' a w :=
  fun b k cs => let ⟨e, a', w', q, r⟩ := h b k cs; ⟨e, a', w', hq _ _ _ q, r⟩

/-- The loops of a code, each with those within it. -/
def loopsOf : Code → List Code
  | .seq a b => loopsOf a ++ loopsOf b
  | .cond _ a b => loopsOf a ++ loopsOf b
  | .block _ c => loopsOf c
  | .loop c => c :: loopsOf c
  | .scope c => loopsOf c
  | _ => []

def T : Cx → Prop := fun _ => True

/-- A loop that is known does what is said of it. -/
def LoopOK (V : Env) (nt : Nat) (s : LSpec) (c : Code) : Prop :=
  ∀ (w0 : World) (ok : Nat → Prop) (ds : List Deferred) (hd : List AV) (x : s.σ) (y : s.ρ) (a : Act) (w : World), s.dec hd = some x → s.run x = some y → Holds T w0 ok nt ds (build s.keep hd) a w →
    loopIn V.P c (fun e a' w' => e = (s.enc y).1.to ∧ Holds T w0 ok nt ds (build (s.keepX (s.enc y).1) (s.enc y).2) a' w') a w

theorem VL_slots {c : Cx} (f : Nat → Value) : ∀ (L : List (Nat × AV)), VL c (L.map (·.2)) ((L.map (·.1)).map f) → ∀ t, V c (look L t) (f t)
  | [], _, _ => trivial
  | (i, x) :: L, h, t => by
    by_cases e : i = t
    · subst e; rw [look_eq]; exact h.1
    · rw [look_ne _ _ e]; exact VL_slots f L h.2 t

theorem expoSlot_undef (κ : Kd) (ob : List (Nat × AV)) : expoSlot κ .undef ob = none := by
  cases κ <;> rfl

theorem expoSlots_moves : ∀ {ks : List (Nat × Kd)} {tm : List (Nat × AV)} {ob ob' : List (Nat × AV)} {xs : List AV}, expoSlots ks tm ob = some (xs, ob') →
    ∃ os, Moves (ks.map fun p => look tm p.1) ((build ks xs).tm.map (·.2)) ob ob' (build ks xs).ob os ∧ (build ks xs).tm.map (·.1) = ks.map (·.1) ∧ ∀ p ∈ ks, look tm p.1 ≠ .undef
  | [], tm, ob, ob', xs, h => by
    simp only [expoSlots, Option.some.injEq, Prod.mk.injEq] at h
    obtain ⟨rfl, rfl⟩ := h
    exact ⟨[], Moves.nil _, rfl, fun _ h => (by cases h)⟩
  | (t, κ) :: ks, tm, ob, ob', xs, h => by
    simp only [expoSlots] at h
    split at h
    case h_2 => cases h
    rename_i x ob1 h1
    split at h
    case h_2 => cases h
    rename_i xs' ob2 h2
    simp only [Option.some.injEq, Prod.mk.injEq] at h
    obtain ⟨rfl, rfl⟩ := h
    obtain ⟨os1, m1⟩ := expoSlot_moves h1 ((1024 + t) * 64)
    obtain ⟨os2, m2, e2, n2⟩ := expoSlots_moves h2
    refine ⟨os1 ++ os2, m1.append m2, ?_, fun p hp => ?_⟩
    · show t :: (build ks xs').tm.map (·.1) = t :: ks.map (·.1)
      rw [e2]
    · rcases List.mem_cons.1 hp with rfl | hp
      · intro hu
        simp only at hu
        rw [hu, expoSlot_undef] at h1
        cases h1
      · exact n2 p hp

section
variable {V : Env} {J : Cx → Prop} {w0 w : World} {ok : Nat → Prop} {nt fid rounds : Nat} {σ τ : St} {a : Act}

/-- **What a loop keeps.** -/
theorem norm_ok {ks : List (Nat × Kd)} {hd : List AV} (hh : Holds J w0 ok nt ds σ a w) (h : norm ks σ = some hd) : Holds T w0 ok nt ds (build ks hd) a w := by
  obtain ⟨mu, hr, _⟩ := hh
  unfold norm at h
  split at h
  case h_2 => cases h
  rename_i xs ob' hx
  cases hn : apartN (build ks xs).ob with
  | false => rw [hn] at h; cases h
  | true =>
    rw [hn] at h
    obtain rfl := Option.some.inj h
    obtain ⟨os, m, hk, hu⟩ := expoSlots_moves hx
    have hnd := apartN_nodup _ hn
    obtain ⟨mu2, hm2, hv⟩ := moves_mem hr.mem m hnd (look_list_in _ hnd) (fun i hi => look_list_out _ i hi)
    have hv' := hv (ks.map fun p => a.tmps.getD p.1 undef) (by
      have : ∀ (l : List (Nat × Kd)), VL (cx w σ.ob mu ok) (l.map fun p => look σ.tm p.1) (l.map fun p => a.tmps.getD p.1 undef) := by
        intro l
        induction l with
        | nil => trivial
        | cons p l ih => exact ⟨V_operand hr (.tmp p.1), ih⟩
      exact this ks)
    have hsl := VL_slots (fun t => a.tmps.getD t undef) (build ks xs).tm (by rw [hk, List.map_map]; exact hv')
    refine ⟨mu2, ⟨hm2, fun t _ => hsl t, fun t ht => ?_, hr.size, hr.defers⟩, trivial⟩
    refine look_list_out _ t fun p hp e => ?_
    have hp1 : p.1 ∈ ks.map (·.1) := by rw [← hk]; exact List.mem_map.2 ⟨p, hp, rfl⟩
    obtain ⟨q, hq, he⟩ := List.mem_map.1 hp1
    apply hu q hq
    rw [he, e]
    exact hr.far t ht

theorem evK_ok {ρ : Type} {L : Nat → Option LSpec} {inl : Inl ρ} (hG : GoodEnv V) (hI : InlOK V inl) (hJ : Stays J) (hLJ : ∀ id s, L id = some s → ∀ c, J c) :
    ∀ (c : Code) {σ : St} {a : Act} {w : World} {k : Ex → St → Option ρ} {r : ρ} {Q : Exit → Act → World → Prop}, (∀ c' ∈ loopsOf c, ∀ s, L (firstRegion c') = some s → LoopOK V nt s c') →
      Holds J w0 ok nt ds σ a w → evK V L inl fid nt rounds c σ k = some r → (∀ e σ' a' w', Holds J w0 ok nt ds σ' a' w' → k e σ' = some r → Q e.to a' w') → c.wp V.P Q a w := by
  intro c
  induction c with
  | skip => intro σ a w k r Q _ hh h hn; exact wp_skip (hn _ _ _ _ hh h)
  | label l => intro σ a w k r Q _ hh h hn; exact wp_label (hn _ _ _ _ hh h)
  | region id ops draw => intro σ a w k r Q _ hh h hn; exact regK_ok hG hI hJ hh h fun σ' a' w' hh' h' => hn .normal σ' a' w' hh' h'
  | seq x y ihx ihy =>
    intro σ a w k r Q hl hh h hn
    refine wp_seq (ihx (fun c' hc => hl c' (List.mem_append_left _ hc)) hh h fun e σ' a' w' hh' h' => ?_)
    cases e with
    | normal => exact ihy (fun c' hc => hl c' (List.mem_append_right _ hc)) hh' h' hn
    | exit id => exact hn _ _ _ _ hh' h'
    | goto l => exact hn _ _ _ _ hh' h'
    | ret => exact hn _ _ _ _ hh' h'
  | cond c x y ihx ihy =>
    intro σ a w k r Q hl hh h hn
    simp only [evK] at h
    split at h
    case h_2 => cases h
    rename_i t ht
    obtain ⟨mu, hr, hj⟩ := hh
    have hc := V_operand hr c
    rw [ht] at hc
    simp only [Mill.V] at hc
    refine wp_cond hc ?_
    cases t with
    | true => exact ihx (fun c' hc => hl c' (List.mem_append_left _ hc)) ⟨mu, hr, hj⟩ h hn
    | false => exact ihy (fun c' hc => hl c' (List.mem_append_right _ hc)) ⟨mu, hr, hj⟩ h hn
  | block id c ih =>
    intro σ a w k r Q hl hh h hn
    refine wp_block (ih hl hh h fun e σ' a' w' hh' h' => ?_)
    cases e with
    | normal => exact hn _ _ _ _ hh' h'
    | exit id' =>
      show if id' = id then Q .normal a' w' else Q (.exit id') a' w'
      simp only at h'
      by_cases he : id' = id
      · subst he
        rw [if_pos rfl]
        rw [show Nat.beq id' id' = true by simp] at h'
        exact hn _ _ _ _ hh' h'
      · rw [if_neg he]
        have hf : Nat.beq id' id = false := by
          cases hb : Nat.beq id' id with
          | false => rfl
          | true => exact (he (Nat.eq_of_beq_eq_true hb)).elim
        rw [hf] at h'
        exact hn _ _ _ _ hh' h'
    | goto l => exact hn _ _ _ _ hh' h'
    | ret => exact hn _ _ _ _ hh' h'
  | loop c ih =>
    intro σ a w k r Q hl hh h hn
    refine wp_of_loopIn ?_
    simp only [evK] at h
    split at h
    · have hl' : ∀ c' ∈ loopsOf c, ∀ s, L (firstRegion c') = some s → LoopOK V nt s c' := fun c' hc => hl c' (List.mem_cons_of_mem _ hc)
      have key : ∀ (n : Nat) (σ : St) (a : Act) (w : World), Holds J w0 ok nt ds σ a w → rollK (fun σ k => evK V L inl fid nt rounds c σ k) k n σ = some r → loopIn V.P c Q a w := by
        intro n
        induction n with
        | zero => intro σ a w _ h; cases h
        | succ n ihn =>
          intro σ a w hh h
          refine loopIn_round (ih hl' hh h fun e σ' a' w' hh' h' => ?_)
          cases e with
          | normal => exact ihn σ' a' w' hh' h'
          | exit id => exact hn _ _ _ _ hh' h'
          | goto l => exact hn _ _ _ _ hh' h'
          | ret => exact hn _ _ _ _ hh' h'
      exact key rounds σ a w hh h
    · rename_i s hs
      split at h
      case h_1 => cases h
      rename_i hd hnorm
      split at h
      case h_1 => cases h
      rename_i x hdec
      split at h
      case h_1 => cases h
      rename_i y hrun
      rw [s.law] at h
      refine loopIn_mono (hl c (by simp [loopsOf]) s hs w0 ok ds hd x y a w hdec hrun (norm_ok hh hnorm)) fun e a' w' he => ?_
      obtain ⟨rfl, mu, hr, _⟩ := he
      exact hn _ _ _ _ ⟨mu, hr, hLJ _ _ hs _⟩ h
  | exit id => intro σ a w k r Q _ hh h hn; exact wp_exit (hn (.exit id) _ _ _ hh h)
  | goto l => intro σ a w k r Q _ hh h hn; exact wp_goto (hn (.goto l) _ _ _ hh h)
  | ret => intro σ a w k r Q _ hh h hn; exact wp_ret (hn .ret _ _ _ hh h)
  | rangeFunc f ps x y _ _ => intro σ a w k r Q _ hh h hn; simp [evK] at h
  | scope c ih =>
    intro σ a w k r Q hl hh h hn
    refine wp_scope_straight (ih hl hh h fun e σ' a' w' hh' h' => ?_)
    cases e with
    | normal => exact hn _ _ _ _ hh' h'
    | exit id' => exact hn _ _ _ _ hh' h'
    | goto l => cases h'
    | ret => exact hn _ _ _ _ hh' h'
  | refuse why => intro σ a w k r Q _ hh h hn; simp [evK] at h

end
end Go.Proofs.Mill
