/- From a function that the kernel computes to what the function does; loops by their rounds. -/
import Derived.Test.YtcokmmhkajmkhaaMillFunc
set_option linter.all false
namespace Go.Proofs.Mill
variable {ds : List Deferred}
open Go.RowKit

/-- Rounds, till one ends. -/
inductive Loops {σ ρ : Type} (step : σ → Option (σ ⊕ ρ)) : σ → ρ → Prop
  | done (x : σ) (y : ρ) (h : step x = some (.inr y)) : Loops step x y
  | more (x x' : σ) (y : ρ) (h : step x = some (.inl x')) (k : Loops step x' y) : Loops step x y

/-- So many rounds at most. -/
def whileN {σ ρ : Type} (step : σ → Option (σ ⊕ ρ)) : Nat → σ → Option ρ
  | 0, _ => none
  | n + 1, x => match step x with
    | some (.inl x') => whileN step n x'
    | some (.inr y) => some y
    | none => none

theorem whileN_loops {σ ρ : Type} {step : σ → Option (σ ⊕ ρ)} : ∀ (n : Nat) (x : σ) (y : ρ), whileN step n x = some y → Loops step x y
  | 0, _, _, h => by cases h
  | n + 1, x, y, h => by
    unfold whileN at h
    split at h
    · rename_i x' hs
      exact .more x x' y hs (whileN_loops n x' y h)
    · rename_i z hs
      obtain rfl := Option.some.inj h
      exact .done x z hs
    · cases h

open Classical in
/-- What a loop comes to. -/
noncomputable def whileM {σ ρ : Type} (step : σ → Option (σ ⊕ ρ)) (x : σ) : Option ρ :=
  match whileN step 4096 x with
  | some y => some y
  | none => if h : ∃ y, Loops step x y then some (Classical.choose h) else none

theorem Loops.det {σ ρ : Type} {step : σ → Option (σ ⊕ ρ)} {x : σ} {y z : ρ} (h : Loops step x y) : Loops step x z → y = z := by
  intro k
  induction h with
  | done x y h =>
    cases k with
    | done _ _ k => rw [h] at k; cases k; rfl
    | more _ _ _ k _ => rw [h] at k; cases k
  | more x x' y h _ ih =>
    cases k with
    | done _ _ k => rw [h] at k; cases k
    | more _ _ _ k k2 => rw [h] at k; cases k; exact ih k2

theorem whileM_some {σ ρ : Type} {step : σ → Option (σ ⊕ ρ)} {x : σ} {y : ρ} : whileM step x = some y ↔ Loops step x y := by
  unfold whileM
  cases hw : whileN step 4096 x with
  | some z =>
    have hz := whileN_loops _ _ _ hw
    exact ⟨fun h => by obtain rfl := Option.some.inj h; exact hz, fun h => congrArg some (hz.det h)⟩
  | none =>
  simp only
  constructor
  · intro h
    split at h
    · rename_i hx
      obtain rfl := Option.some.inj h
      exact Classical.choose_spec hx
    · cases h
  · intro h
    rw [dif_pos ⟨y, h⟩]
    exact congrArg some ((Classical.choose_spec (⟨y, h⟩ : ∃ y, Loops step x y)).det h)

theorem whileM_eq {σ ρ : Type} (step : σ → Option (σ ⊕ ρ)) (x : σ) : whileM step x = match step x with
    | some (.inl x') => whileM step x'
    | some (.inr y) => some y
    | none => none := by
  cases h : step x with
  | none =>
    simp only
    cases hw : whileM step x with
    | none => rfl
    | some y =>
      cases whileM_some.1 hw with
      | done _ _ k => rw [h] at k; cases k
      | more _ _ _ k _ => rw [h] at k; cases k
  | some z =>
    cases z with
    | inr y => exact whileM_some.2 (.done x y h)
    | inl x' =>
      simp only
      cases hw : whileM step x' with
      | some y => exact whileM_some.2 (.more x x' y h (whileM_some.1 hw))
      | none =>
        cases hx : whileM step x with
        | none => rfl
        | some y =>
          cases whileM_some.1 hx with
          | done _ _ k => rw [h] at k; cases k
          | more _ _ _ k k2 =>
            rw [h] at k
            cases k
            rw [whileM_some.2 k2] at hw
            cases hw

/-- What a round comes to: a new head, or the loop's end. -/
def roundOut {σ ρ : Type} (keep : List (Nat × Kd)) (keepX : Ex → List (Nat × Kd)) (dec : List AV → Option σ) (dex : Ex → List AV → Option ρ) (e : Ex) (τ : St) : Option (σ ⊕ ρ) :=
  match e with
  | .normal => (match norm keep τ with
    | none => none
    | some hd => match dec hd with | some x => some (.inl x) | none => none)
  | e => (match norm (keepX e) τ with
    | none => none
    | some hd => match dex e hd with | some y => some (.inr y) | none => none)

/-- **A loop, from its rounds.** -/
theorem loop_ok {V : Env} {L : Nat → Option LSpec} {nt fid rounds depth : Nat} {s : LSpec} {c : Code} {step : s.σ → Option (s.σ ⊕ s.ρ)} {hdOf : s.σ → List AV} {dex : Ex → List AV → Option s.ρ}
    (hG : GoodEnv V) (hdec : ∀ hd x, s.dec hd = some x → hd = hdOf x) (hdex : ∀ e hd y, dex e hd = some y → e ≠ .normal ∧ s.enc y = (e, hd)) (hrun : ∀ x, s.run x = whileM step x)
    (hin : ∀ c' ∈ loopsOf c, ∀ s, L (firstRegion c') = some s → LoopOK V nt s c')
    (hstep : ∀ x, evK V L (inlK V rounds depth) fid nt rounds c (build s.keep (hdOf x)) (roundOut s.keep s.keepX s.dec dex) = step x) : LoopOK V nt s c := by
  intro w0 ok ds hd x y a w hd1 hy hh
  rw [hrun, whileM_some] at hy
  rw [hdec _ _ hd1] at hh
  clear hd1
  induction hy generalizing a w with
  | done x y h =>
    rw [← hstep x] at h
    refine loopIn_round (evK_ok (J := T) hG (inlK_ok hG depth) Stays.triv (fun _ _ _ _ => trivial) c hin hh h fun e σ' a' w' hh' h' => ?_)
    have fin : ∀ e hd' z, norm (s.keepX e) σ' = some hd' → dex e hd' = some z → some (Sum.inr z : s.σ ⊕ s.ρ) = some (.inr y) → e.to = (s.enc y).1.to ∧ Holds T w0 ok nt ds (build (s.keepX (s.enc y).1) (s.enc y).2) a' w' := by
      intro e hd' z hn hz h'
      cases h'
      obtain ⟨_, h2⟩ := hdex _ _ _ hz
      rw [h2]
      exact ⟨rfl, norm_ok hh' hn⟩
    unfold roundOut at h'
    cases e with
    | normal => simp only at h'; (repeat' (split at h')) <;> cases h'
    | exit id => simp only at h'; split at h' <;> first | (cases h'; done) | (rename_i hd' hn; split at h' <;> first | (rename_i z hz; exact fin _ _ z hn hz h') | cases h')
    | goto l => simp only at h'; split at h' <;> first | (cases h'; done) | (rename_i hd' hn; split at h' <;> first | (rename_i z hz; exact fin _ _ z hn hz h') | cases h')
    | ret => simp only at h'; split at h' <;> first | (cases h'; done) | (rename_i hd' hn; split at h' <;> first | (rename_i z hz; exact fin _ _ z hn hz h') | cases h')
  | more x x' y h k ih =>
    rw [← hstep x] at h
    refine loopIn_round (evK_ok (J := T) hG (inlK_ok hG depth) Stays.triv (fun _ _ _ _ => trivial) c hin hh h fun e σ' a' w' hh' h' => ?_)
    unfold roundOut at h'
    cases e with
    | normal =>
      simp only at h'
      split at h'
      · cases h'
      rename_i hd' hn
      split at h'
      · rename_i z hz
        cases h'
        have := norm_ok hh' hn
        rw [hdec _ _ hz] at this
        exact ih a' w' this
      · cases h'
    | exit id => simp only at h'; (repeat' (split at h')) <;> cases h'
    | goto l => simp only at h'; (repeat' (split at h')) <;> cases h'
    | ret => simp only at h'; (repeat' (split at h')) <;> cases h'

/-- The loops of a function's body, by their first regions. -/
def fnLoop (P : Program) (f : FuncId) (id : Nat) : Code :=
  match (P.funcs[f]?).bind (·.body) with
  | some c => ((loopsOf c).find? fun c' => Nat.beq (firstRegion c') id).getD .skip
  | none => .skip

def noTwice : List Nat → Bool
  | [] => true
  | x :: r => bif r.all fun y => !(Nat.beq x y) then noTwice r else false

def fnApart (P : Program) (f : FuncId) : Bool :=
  match (P.funcs[f]?).bind (·.body) with
  | some c => noTwice ((loopsOf c).map firstRegion)
  | none => true

theorem find_of_noTwice : ∀ (l : List Code), noTwice (l.map firstRegion) = true → ∀ c ∈ l, (l.find? fun c' => Nat.beq (firstRegion c') (firstRegion c)) = some c
  | [], _, _, h => by cases h
  | x :: l, hn, c, h => by
    simp only [List.map_cons, noTwice] at hn
    cases hc : ((l.map firstRegion).all fun y => !(Nat.beq (firstRegion x) y)) with
    | false => rw [hc] at hn; cases hn
    | true =>
      rw [hc] at hn
      rcases List.mem_cons.1 h with rfl | h
      · rw [List.find?_cons_of_pos (by simp)]
      · have hne := List.all_eq_true.1 hc (firstRegion c) (List.mem_map.2 ⟨c, h, rfl⟩)
        have hne' : Nat.beq (firstRegion x) (firstRegion c) = false := by simpa using hne
        rw [List.find?_cons_of_neg (by rw [hne']; simp)]
        exact find_of_noTwice l hn c h

/-- Loops that are known, for a function: each of its numbers. -/
theorem loops_of {V : Env} {L : Nat → Option LSpec} {f : FuncId} {nt : Nat} (ha : fnApart V.P f = true) (hnt : ∀ fn, V.P.funcs[f]? = some fn → fn.ntmps = nt)
    (h : ∀ id s, L id = some s → LoopOK V nt s (fnLoop V.P f id)) :
    ∀ fn c, V.P.funcs[f]? = some fn → fn.body = some c → ∀ c' ∈ loopsOf c, ∀ s, L (firstRegion c') = some s → LoopOK V fn.ntmps s c' := by
  intro fn c hf hc c' hc' s hs
  have h1 := h _ s hs
  unfold fnLoop at h1
  unfold fnApart at ha
  rw [hf] at h1 ha
  simp only [Option.bind_some, hc] at h1 ha
  rw [find_of_noTwice _ ha c' hc'] at h1
  rw [hnt fn hf]
  exact h1

theorem loopsOf_sub : ∀ (c : Code) (c' : Code), c' ∈ loopsOf c → ∀ d ∈ loopsOf c', d ∈ loopsOf c := by
  intro c
  induction c with
  | seq a b iha ihb =>
    intro c' h d hd
    rcases List.mem_append.1 h with h | h
    · exact List.mem_append_left _ (iha c' h d hd)
    · exact List.mem_append_right _ (ihb c' h d hd)
  | cond x a b iha ihb =>
    intro c' h d hd
    rcases List.mem_append.1 h with h | h
    · exact List.mem_append_left _ (iha c' h d hd)
    · exact List.mem_append_right _ (ihb c' h d hd)
  | block id c ih => intro c' h d hd; exact ih c' h d hd
  | loop c ih =>
    intro c' h d hd
    rcases List.mem_cons.1 h with rfl | h
    · exact List.mem_cons_of_mem _ hd
    · exact List.mem_cons_of_mem _ (ih c' h d hd)
  | scope c ih => intro c' h d hd; exact ih c' h d hd
  | _ => intro c' h; cases h

/-- The loops within a loop of a function. -/
theorem inner_of {V : Env} {L : Nat → Option LSpec} {f : FuncId} {nt id : Nat} (ha : fnApart V.P f = true)
    (h : ∀ c' ∈ loopsOf (fnLoop V.P f id), ∀ s, L (firstRegion c') = some s → LoopOK V nt s (fnLoop V.P f (firstRegion c'))) :
    ∀ c' ∈ loopsOf (fnLoop V.P f id), ∀ s, L (firstRegion c') = some s → LoopOK V nt s c' := by
  intro c' hc' s hs
  have h1 := h c' hc' s hs
  have : fnLoop V.P f (firstRegion c') = c' := by
    unfold fnLoop at hc' ⊢
    unfold fnApart at ha
    cases hb : (V.P.funcs[f]?).bind (·.body) with
    | none => rw [hb] at hc'; cases hc'
    | some c =>
      rw [hb] at hc' ha
      simp only at hc' ha ⊢
      have hm : c' ∈ loopsOf c := by
        cases hf : (loopsOf c).find? fun c' => Nat.beq (firstRegion c') id with
        | none => rw [hf] at hc'; cases hc'
        | some d =>
          rw [hf] at hc'
          exact loopsOf_sub c d (List.mem_of_find?_eq_some hf) c' hc'
      rw [find_of_noTwice _ ha c' hm]
      rfl
  rw [this] at h1
  exact h1

/-- **A function, from the function that the kernel computes.** -/
theorem spec_ok {V : Env} {L : Nat → Option LSpec} {f : FuncId} {rounds depth : Nat} {rk : List Kd} {s : Spec} {argsOf : s.α → List AV} {dres : AV → Option s.β} (hG : GoodEnv V)
    (hL : ∀ fn c, V.P.funcs[f]? = some fn → fn.body = some c → ∀ c' ∈ loopsOf c, ∀ s, L (firstRegion c') = some s → LoopOK V fn.ntmps s c')
    (hdec : ∀ avs a, s.dec avs = some a → avs = argsOf a) (hdres : ∀ r b, dres r = some b → r = s.enc b)
    (heq : ∀ a, runFn V L rounds depth f rk (argsOf a) dres = s.fn a) : SpecOK V.P f s := by
  intro w0 ok avs args a b hd hb hv
  rw [hdec _ _ hd] at hv
  refine (runFn_ok hG hL hv ((heq a).trans hb)).mono fun e w' he => ?_
  obtain ⟨v, u, rfl, h1, h2, h3⟩ := he
  rw [hdres _ _ h3] at h2
  exact ⟨u, rfl, h1, h2⟩

end Go.Proofs.Mill
