/- Parts of the proof: MillFunc, MillSpec, MillCodec, MillTypes, MillEnv, MillLoop, MillOpen, MillEnter. -/
import Derived.Test.YtaopdopnecognaaGreatMillAll3
import Derived.RangeFuncLeaves
import Derived.KernelRfl
import Derived.ProofKit
import Derived.ChangeArms
import Derived.Carry
import Derived.JoinedOf
import Derived.WalkKit
set_option linter.all false
/- Functions: results, calls that are walked into, and what a function answers. -/
namespace Go.Proofs.Mill
variable {ds : List Deferred}
open Go.RowKit

section
variable {V : Env} {J : Cx → Prop} {w0 w : World} {ok : Nat → Prop} {nt fid rounds : Nat} {σ τ : St} {a : Act} {mu : Nat → Option Nat}

def resM (a : Act) : ResultVar → Sem Value
  | .tmp t => pure (a.tmps.getD t undef)
  | .cell b t => do loadVar t (← asAddr (a.tmps.getD b undef))

theorem rdAt_ptr {α : Type} {k : AV → Rd α} {r : α} {t : TypeId} {p : AV} {pv : Value} {c : Cx} (h : (rdAt V t p k).val σ = some r) (hp : Mill.V c p pv) : ∃ x, pv = .pointer (some x) := by
  cases p <;> try (simp [rdAt, Rd.val] at h; done)
  case ptr => exact PtrV.some hp
  case eptr => exact EptrV.some hp
  case lptr => obtain ⟨_, b, o, _, rfl, _⟩ := hp; exact ⟨_, rfl⟩
  case cptr => obtain ⟨_, _, _, rfl, _⟩ := hp; exact ⟨_, rfl⟩

theorem resRd_ok {α : Type} (hr : R w0 ok nt ds σ a w mu) : ∀ (l : List ResultVar) (k : List AV → Rd α) (r : α), (resRd V l k).val σ = some r →
    ∃ vs us, (k vs).val σ = some r ∧ (l.mapM (resM a)).run V.P w = .ok us w ∧ VL (cx w σ.ob mu ok) vs us
  | [], k, r, h => ⟨[], [], h, by simp, trivial⟩
  | .tmp t :: l, k, r, h => by
    obtain ⟨vs, us, h1, h2, h3⟩ := resRd_ok hr l _ r (show (resRd V l fun vs => k (look σ.tm t :: vs)).val σ = some r from h)
    refine ⟨_ :: vs, a.tmps.getD t undef :: us, h1, ?_, V_operand hr (.tmp t), h3⟩
    simp [List.mapM_cons, resM, h2]
  | .cell b t :: l, k, r, h => by
    have h : (rdAt V t (look σ.tm b) fun v => resRd V l fun vs => k (v :: vs)).val σ = some r := h
    obtain ⟨x, hx⟩ := rdAt_ptr h (V_operand hr (.tmp b))
    obtain ⟨v, u, h1, h2, h3⟩ := rdAt_ok h hr.mem (V_operand hr (.tmp b))
    obtain ⟨vs, us, h4, h5, h6⟩ := resRd_ok hr l _ r h1
    refine ⟨v :: vs, u :: us, h4, ?_, h3, h6⟩
    have hx' : a.tmps.getD b undef = .pointer (some x) := hx
    have h2' : (loadVar t x).run V.P w = .ok u w := by
      rw [show a.eval (.tmp b) = .pointer (some x) from hx] at h2
      simpa [Instr.loadAt, Instr.sureAddr] using h2
    simp [List.mapM_cons, resM, hx', asAddr, h2', h5]

theorem results_ok {fn : Func} {v : AV} (hr : R w0 ok nt ds σ a w mu) (h : (resRd V fn.results.toList fun vs => .ret (resOf vs)).val σ = some v) :
    ∃ u, (results fn a.tmps).run V.P w = .ok u w ∧ Mill.V (cx w σ.ob mu ok) v u := by
  obtain ⟨vs, us, h1, h2, h3⟩ := resRd_ok hr _ _ _ h
  have h1 := val_ret h1
  subst h1
  have e : results fn a.tmps = (List.toArray <$> fn.results.toList.mapM (resM a)) >>= fun vs => pure (if h : vs.size = 1 then vs[0] else .tuple vs) := by
    unfold results
    rw [Array.mapM_eq_mapM_toList]
    congr 2
    first
      | done
      | (congr 1; funext x; cases x <;> rfl)
      | (funext x; cases x <;> rfl)
  refine ⟨if h : us.toArray.size = 1 then us.toArray[0] else .tuple us.toArray, ?_, ?_⟩
  · rw [e]
    simp [h2]
  · unfold resOf
    split
    · rename_i v
      obtain ⟨u, us', rfl, hv, hn⟩ := VL_cons h3
      rw [VL_nil hn]
      exact hv
    · rename_i hne
      have hl := h3.length
      rw [dif_neg]
      · exact ⟨us.toArray, rfl, h3⟩
      · intro h1
        have h1 : us.length = 1 := by simpa using h1
        rw [← hl] at h1
        obtain ⟨x, hx⟩ := List.length_eq_one_iff.1 h1
        exact hne x hx

theorem look_params : ∀ (args : List AV) (i t : Nat), look (paramsFrom i args) t = if i ≤ t then args.getD (t - i) .undef else .undef
  | [], i, t => by simp [paramsFrom, look]
  | v :: args, i, t => by
    show look ((i, v) :: paramsFrom (i + 1) args) t = _
    by_cases e : i = t
    · subst e; rw [look_eq]; simp
    · rw [look_ne _ _ e, look_params args (i + 1) t]
      by_cases h : i ≤ t
      · rw [if_pos (by omega), if_pos h]
        have : t - i = (t - (i + 1)) + 1 := by omega
        rw [this]
        simp
      · rw [if_neg (by omega), if_neg h]

theorem params_R {args : List AV} {vals : Array Value} {ob : List (Nat × AV)} (hm : Mem w0 (cx w ob mu ok)) (hv : VL (cx w ob mu ok) args vals.toList) (hl : args.length ≤ nt) :
    R w0 ok nt [] ⟨paramsFrom 0 args, ob⟩ { tmps := vals ++ Array.replicate (nt - vals.size) undef, defers := [] } w mu := by
  have hlen : args.length = vals.size := by have := hv.length; simpa using this
  refine ⟨hm, fun t ht => ?_, fun t ht => ?_, ?_, rfl, Marks.nil _ _⟩
  · show Mill.V _ (look (paramsFrom 0 args) t) ((vals ++ Array.replicate (nt - vals.size) undef).getD t undef)
    rw [look_params, if_pos (Nat.zero_le _), Nat.sub_zero]
    by_cases h : t < args.length
    · obtain ⟨u, hu, huv⟩ := hv.get t args[t] (List.getElem?_eq_getElem h)
      have e1 : args.getD t .undef = args[t] := by simp [List.getD_eq_getElem?_getD, h]
      have e2 : (vals ++ Array.replicate (nt - vals.size) undef).getD t undef = u := by
        rw [Array.getD_eq_getD_getElem?, Array.getElem?_append_left (by omega)]
        have : vals[t]? = some u := by simpa using hu
        rw [this]; rfl
      rw [e1, e2]
      exact huv
    · rw [List.getD_eq_getElem?_getD, List.getElem?_eq_none (by omega)]
      trivial
  · show look (paramsFrom 0 args) t = .undef
    rw [look_params, if_pos (Nat.zero_le _), List.getD_eq_getElem?_getD, List.getElem?_eq_none (by omega)]
    rfl
  · simp; omega

/-- The marks are taken off, one by one. -/
theorem leaves_ok {n : Nat} {fn : Func} {Rr : Ending → World → Prop} : ∀ (ds : List Deferred) (a : Act) (w : World), R w0 ok nt ds σ a w mu →
    (∀ (a1 : Act) (w1 : World), a1.tmps = a.tmps → R w0 ok nt [] σ a1 w1 mu → (ds = [] → w1 = w) → ∃ u, (results fn a.tmps).run V.P w1 = .ok u w1 ∧ Rr (.returned u) w1) →
    LeavesInM (wideR none) n V.P fn a.tmps Rr ds .returning w
  | [], a, w, hr, hfin => by
    obtain ⟨u, h1, h2⟩ := hfin a w rfl hr (fun _ => rfl)
    exact ⟨u, h1, h2⟩
  | d :: ds, a, w, hr, hfin => by
    obtain ⟨D, rfl, h0, h1, h2⟩ := hr.marks.2 d (by simp)
    have hnd := List.nodup_cons.1 hr.marks.1
    have hr1 : R w0 ok nt ds σ { a with defers := ds } w mu := ⟨hr.mem, hr.tm, hr.far, hr.size, rfl, hnd.2, fun d hd => hr.marks.2 d (List.mem_cons_of_mem _ hd)⟩
    have hr2 := hr1.turn (turned_putObj w D (.deferred none)) h2 rfl h0 (fun d hd e => hnd.1 (by rw [← e]; exact hd))
    exact ⟨by simp, .inl ⟨D, _, rfl, run_takeDeferred h2, leaves_ok ds { a with defers := ds } _ hr2 fun a1 w1 ht hr' _ => hfin a1 w1 ht hr' (fun h => by cases h)⟩⟩

/-- **A function's run.** -/
theorem fnK_ok {ρ : Type} {L : Nat → Option LSpec} {inl : Inl ρ} {f : FuncId} {args : List AV} {ob : List (Nat × AV)} {k : AV → List (Nat × AV) → Option ρ} {r : ρ} {vals : Array Value}
    (hG : GoodEnv V) (hI : InlOK V inl) (hJ : Stays J) (hLJ : ∀ id s, L id = some s → ∀ c, J c)
    (hL : ∀ fn c, V.P.funcs[f]? = some fn → fn.body = some c → ∀ c' ∈ loopsOf c, ∀ s, L (firstRegion c') = some s → LoopOK V fn.ntmps s c')
    (hm : Mem w0 (cx w ob mu ok)) (hv : VL (cx w ob mu ok) args vals.toList) (hj : J (cx w ob mu ok)) (h : fnK V L inl rounds f fid args ob k = some r) :
    Calls V.P f vals w fun e w' => ∃ v u ob' mu', e = .returned u ∧ Mem w0 (cx w' ob' mu' ok) ∧ J (cx w' ob' mu' ok) ∧ Mill.V (cx w' ob' mu' ok) v u ∧ k v ob' = some r := by
  unfold fnK at h
  split at h
  case h_2 => cases h
  rename_i fn hf
  split at h
  case h_2 => cases h
  rename_i c hc
  cases hle : Nat.ble args.length fn.ntmps with
  | false => rw [hle] at h; cases h
  | true =>
    rw [hle] at h
    simp only [cond_true] at h
    have hle := Nat.le_of_ble_eq_true hle
    let Δ : List Deferred → Prop := fun ds => ds = [] ∨ ∀ c, J c
    refine (callsIn_wide (n := 0)).1 (callsIn_of_wp_marks (F := Fence.wide) (n := 0) hf hc trivial (evK_ok (Δ := Δ) (ro := none) hG hI hJ hLJ (fun id s hs ds => .inr (hLJ id s hs)) c (fun c' hc' s hs => ⟨hL fn c hf hc c' hc' s hs, fun _ => rfl⟩)
      ⟨[], .inl rfl, mu, params_R hm hv hle, hj⟩ h fun e σ' a' w' hh' h' => ?_))
    obtain ⟨ds', hds, mu', hr', hj'⟩ := hh'
    have fin : (resRd V fn.results.toList fun vs => .ret (resOf vs)).runK σ' [] (fun v _ => k v σ'.ob) = some r → LeavesInM (wideR none) 0 V.P fn a'.tmps
        (fun e w' => ∃ v u ob' mu', e = .returned u ∧ Mem w0 (cx w' ob' mu' ok) ∧ J (cx w' ob' mu' ok) ∧ Mill.V (cx w' ob' mu' ok) v u ∧ k v ob' = some r) a'.defers .returning w' := by
      intro h
      obtain ⟨v, _, h1, h2⟩ := Rd.runK_val h
      rw [hr'.defers]
      refine leaves_ok ds' a' w' hr' fun a1 w1 ht hr1 he => ?_
      obtain ⟨u, hu, huv⟩ := results_ok hr1 h1
      rw [ht] at hu
      refine ⟨u, hu, v, u, σ'.ob, mu', rfl, hr1.mem, ?_, huv, h2⟩
      rcases hds with hds | hds
      · rw [he hds]; exact hj'
      · exact hds _
    cases e with
    | normal => exact fin h'
    | ret => exact fin h'
    | exit id => cases h'
    | goto l => cases h'

theorem loops_none {f : FuncId} : ∀ fn c, V.P.funcs[f]? = some fn → fn.body = some c → ∀ c' ∈ loopsOf c, ∀ s, (fun _ => none : Nat → Option LSpec) (firstRegion c') = some s → LoopOK V fn.ntmps s c' :=
  fun _ _ _ _ _ _ _ h => by cases h

/-- **Calls that are walked into.** -/
theorem inlK_ok {ρ : Type} (hG : GoodEnv V) : ∀ (d : Nat), InlOK V (inlK (ρ := ρ) V rounds d)
  | 0 => fun _ _ _ _ _ _ h => by cases h
  | d + 1 => fun f fid args ob k r h => by
    simp only [inlK] at h
    split at h
    · rename_i s hs
      split at h
      case h_2 => cases h
      rename_i c post hp
      split at h
      case h_2 => cases h
      rename_i y
      obtain ⟨hent, hx⟩ := hG.2.2.2.2 f s hs
      refine ⟨hent, fun w0 ok w mu vals hm hv => (hx fid args ob y post hp w0 ok w mu vals hm hv).mono fun e w' he => ?_⟩
      obtain ⟨u, mu', rfl, h1, h2, h3⟩ := he
      exact ⟨_, u, _, mu', rfl, h1, h2, h3, h⟩
    cases he : V.ent f with
    | false => rw [he] at h; cases h
    | true =>
      rw [he] at h
      simp only [cond_true] at h
      refine ⟨hG.2.2.1 f he, fun w0 ok w mu vals hm hv => ?_⟩
      exact fnK_ok (J := fun c => Mono (cx w ob mu ok) c) hG (inlK_ok hG d) (fun c c' h1 h2 => h1.trans h2) (fun id s hs => by cases hs) loops_none hm hv (Mono.refl _) h

theorem Stays.triv : Stays T := fun _ _ _ _ => trivial

theorem expoVal_moves {κ : Kd} {v x : AV} {ob ob' : List (Nat × AV)} (h : expoVal κ v ob = some (x, ob')) (id : Nat) :
    ∃ os, Moves [v] [(impVal id x).1] ob ob' (impVal id x).2.1 os := by
  unfold expoVal at h
  split at h
  · split at h
    case h_2 => cases h
    split at h
    case h_2 => cases h
    rename_i xs ob1 hx
    simp only [Option.some.injEq, Prod.mk.injEq] at h
    obtain ⟨rfl, rfl⟩ := h
    obtain ⟨os, m⟩ := expoCells_moves hx id
    exact ⟨os, m.agg⟩
  · obtain ⟨os, m⟩ := expoCell_moves h id
    have hx : (impVal id x).1 = (impCell id x).1 ∧ (impVal id x).2.1 = (impCell id x).2.1 := by
      unfold expoCell at h
      repeat' (split at h)
      all_goals first
        | (cases h; done)
        | (simp only [Option.some.injEq, Prod.mk.injEq] at h; obtain ⟨rfl, _⟩ := h; exact ⟨rfl, rfl⟩)
        | (generalize Nat.beq _ _ = b at h
           cases b
           · cases h
           · simp only [cond_true, Option.some.injEq, Prod.mk.injEq] at h; obtain ⟨rfl, _⟩ := h; exact ⟨rfl, rfl⟩)
        | (generalize AV.frozens _ = b at h
           cases b
           · cases h
           · simp only [cond_true, Option.some.injEq, Prod.mk.injEq] at h; obtain ⟨rfl, _⟩ := h; exact ⟨rfl, rfl⟩)
    rw [hx.1, hx.2]
    exact ⟨os, m⟩

theorem expoVals_moves : ∀ {ks : List Kd} {vs xs : List AV} {ob ob' : List (Nat × AV)}, expoVals ks vs ob = some (xs, ob') → ∀ id, ∃ os, Moves vs (impVals id xs).1 ob ob' (impVals id xs).2.1 os
  | [], [], xs, ob, ob', h, id => by
    simp only [expoVals, Option.some.injEq, Prod.mk.injEq] at h
    obtain ⟨rfl, rfl⟩ := h
    exact ⟨[], Moves.nil _⟩
  | κ :: ks, v :: vs, xs, ob, ob', h, id => by
    simp only [expoVals] at h
    split at h
    case h_2 => cases h
    rename_i x ob1 h1
    split at h
    case h_2 => cases h
    rename_i xs' ob2 h2
    simp only [Option.some.injEq, Prod.mk.injEq] at h
    obtain ⟨rfl, rfl⟩ := h
    obtain ⟨os1, m1⟩ := expoVal_moves h1 id
    obtain ⟨os2, m2⟩ := expoVals_moves h2 (impVal id x).2.2
    exact ⟨os1 ++ os2, m1.append m2⟩
  | [], _ :: _, _, _, _, h, _ => by simp [expoVals] at h
  | _ :: _, [], _, _, _, h, _ => by simp [expoVals] at h

theorem expoRes_moves {ks : List Kd} {v r : AV} {ob : List (Nat × AV)} (h : expoRes ks v ob = some r) (id : Nat) : ∃ ob' os, Moves [v] [(impRes id r).1] ob ob' (impRes id r).2 os := by
  unfold expoRes at h
  split at h
  · split at h
    case h_2 => cases h
    rename_i xs ob1 hx
    obtain rfl := Option.some.inj h
    obtain ⟨os, m⟩ := expoVals_moves hx id
    exact ⟨ob1, os, m.tup⟩
  · rename_i hnt
    split at h
    case h_2 => cases h
    rename_i κ
    split at h
    case h_2 => cases h
    rename_i x ob1 hx
    obtain rfl := Option.some.inj h
    obtain ⟨os, m⟩ := expoVal_moves hx id
    have hx' : (impRes id x).1 = (impVal id x).1 ∧ (impRes id x).2 = (impVal id x).2.1 := by
      have : ∀ cs, x ≠ .tup cs := by
        rintro cs rfl
        unfold expoVal expoCell at hx
        repeat' (split at hx)
        all_goals first
          | (cases hx; done)
          | (simp only [Option.some.injEq, Prod.mk.injEq] at hx; cases hx.1; done)
          | (simp only [Option.some.injEq, Prod.mk.injEq] at hx; exact hnt _ hx.1.symm)
          | (generalize Nat.beq _ _ = b at hx
             cases b
             · cases hx
             · simp only [cond_true, Option.some.injEq, Prod.mk.injEq] at hx; cases hx.1)
          | (generalize AV.frozens _ = b at hx
             cases b
             · cases hx
             · simp only [cond_true, Option.some.injEq, Prod.mk.injEq] at hx; cases hx.1)
      cases x <;> first | exact ⟨rfl, rfl⟩ | exact (this _ rfl).elim
    rw [hx'.1, hx'.2]
    exact ⟨ob1, os, m⟩

/-- **What a function answers.** -/
theorem runFn_ok {ρ : Type} {L : Nat → Option LSpec} {f : FuncId} {depth : Nat} {rk : List Kd} {args : List AV} {k : AV → Option ρ} {r : ρ} {vals : Array Value} (hG : GoodEnv V)
    (hL : ∀ fn c, V.P.funcs[f]? = some fn → fn.body = some c → ∀ c' ∈ loopsOf c, ∀ s, L (firstRegion c') = some s → LoopOK V fn.ntmps s c')
    (hv : VL (pcx w ok) args vals.toList) (h : runFn V L rounds depth f rk args k = some r) :
    Calls V.P f vals w fun e w' => ∃ v u, e = .returned u ∧ Below w.heap.size w w' ∧ Res w ok w' v u ∧ k v = some r := by
  unfold runFn at h
  have hm : Mem w (cx w [] (fun _ => none) fun b => ok b ∨ w.heap.size ≤ b) :=
    ⟨fun _ => rfl, fun _ _ _ h => (by cases h), fun _ _ h => (by cases h), Below.refl _ _, fun b hb => .inl (.inr hb)⟩
  have hv' : VL (cx w [] (fun _ => none) fun b => ok b ∨ w.heap.size ≤ b) args vals.toList := by
    have hmono : Mono (pcx w ok) (cx w [] (fun _ => none) fun b => ok b ∨ w.heap.size ≤ b) := mono_of (fun b hb => ⟨⟨.inl hb.1, hb.2.1, hb.2.2⟩, rfl⟩) (fun id => .inl rfl) (fun _ _ h => ⟨h, rfl⟩)
    exact hmono.vl _ _ hv
  refine (fnK_ok (J := T) hG (inlK_ok hG depth) Stays.triv (fun _ _ _ _ => trivial) hL hm hv' trivial h).mono fun e w' he => ?_
  obtain ⟨v, u, ob', mu', rfl, hm', _, hv, hk⟩ := he
  split at hk
  case h_2 => cases hk
  rename_i r' hx
  refine ⟨r', u, rfl, hm'.ext, fun base => ?_, hk⟩
  obtain ⟨ob2, os, m⟩ := expoRes_moves hx base
  obtain ⟨n, hfr⟩ := impRes_fresh base r'
  obtain ⟨mu2, hm2, hv2, _⟩ := moves_mem hm' m hfr.2.2.2 (ob2 := appOb (impRes base r').2 []) (fun p hp => look_appOb_in _ _ p hfr.2.2.2 hp) (fun i hi => by rw [look_appOb_not _ _ _ hi]; rfl)
  exact ⟨mu2, hm2, (hv2 [u] ⟨hv, trivial⟩).1⟩

end
end Go.Proofs.Mill

/- From a function that the kernel computes to what the function does; loops by their rounds. -/
namespace Go.Proofs.Mill
variable {ds : List Deferred}
open Go.RowKit

/-- Rounds, till one ends. -/
inductive Loops {σ ρ : Type} (step : σ → Option (σ ⊕ ρ)) : σ → ρ → Prop
  | done (x : σ) (y : ρ) (h : step x = some (.inr y)) : Loops step x y
  | more (x x' : σ) (y : ρ) (h : step x = some (.inl x')) (k : Loops step x' y) : Loops step x y

/-- So many rounds at most. -/
def whileN {σ ρ : Type} (step : σ → Option (σ ⊕ ρ)) : Nat → σ → Option ρ
  | 0, _ => none
  | n + 1, x => match step x with
    | some (.inl x') => whileN step n x'
    | some (.inr y) => some y
    | none => none

theorem whileN_loops {σ ρ : Type} {step : σ → Option (σ ⊕ ρ)} : ∀ (n : Nat) (x : σ) (y : ρ), whileN step n x = some y → Loops step x y
  | 0, _, _, h => by cases h
  | n + 1, x, y, h => by
    unfold whileN at h
    split at h
    · rename_i x' hs
      exact .more x x' y hs (whileN_loops n x' y h)
    · rename_i z hs
      obtain rfl := Option.some.inj h
      exact .done x z hs
    · cases h

open Classical in
/-- What a loop comes to. -/
noncomputable def whileM {σ ρ : Type} (step : σ → Option (σ ⊕ ρ)) (x : σ) : Option ρ :=
  match whileN step 4096 x with
  | some y => some y
  | none => if h : ∃ y, Loops step x y then some (Classical.choose h) else none

theorem Loops.det {σ ρ : Type} {step : σ → Option (σ ⊕ ρ)} {x : σ} {y z : ρ} (h : Loops step x y) : Loops step x z → y = z := by
  intro k
  induction h with
  | done x y h =>
    cases k with
    | done _ _ k => rw [h] at k; cases k; rfl
    | more _ _ _ k _ => rw [h] at k; cases k
  | more x x' y h _ ih =>
    cases k with
    | done _ _ k => rw [h] at k; cases k
    | more _ _ _ k k2 => rw [h] at k; cases k; exact ih k2

theorem whileM_some {σ ρ : Type} {step : σ → Option (σ ⊕ ρ)} {x : σ} {y : ρ} : whileM step x = some y ↔ Loops step x y := by
  unfold whileM
  cases hw : whileN step 4096 x with
  | some z =>
    have hz := whileN_loops _ _ _ hw
    exact ⟨fun h => by obtain rfl := Option.some.inj h; exact hz, fun h => congrArg some (hz.det h)⟩
  | none =>
  simp only
  constructor
  · intro h
    split at h
    · rename_i hx
      obtain rfl := Option.some.inj h
      exact Classical.choose_spec hx
    · cases h
  · intro h
    rw [dif_pos ⟨y, h⟩]
    exact congrArg some ((Classical.choose_spec (⟨y, h⟩ : ∃ y, Loops step x y)).det h)

theorem whileM_eq {σ ρ : Type} (step : σ → Option (σ ⊕ ρ)) (x : σ) : whileM step x = match step x with
    | some (.inl x') => whileM step x'
    | some (.inr y) => some y
    | none => none := by
  cases h : step x with
  | none =>
    simp only
    cases hw : whileM step x with
    | none => rfl
    | some y =>
      cases whileM_some.1 hw with
      | done _ _ k => rw [h] at k; cases k
      | more _ _ _ k _ => rw [h] at k; cases k
  | some z =>
    cases z with
    | inr y => exact whileM_some.2 (.done x y h)
    | inl x' =>
      simp only
      cases hw : whileM step x' with
      | some y => exact whileM_some.2 (.more x x' y h (whileM_some.1 hw))
      | none =>
        cases hx : whileM step x with
        | none => rfl
        | some y =>
          cases whileM_some.1 hx with
          | done _ _ k => rw [h] at k; cases k
          | more _ _ _ k k2 =>
            rw [h] at k
            cases k
            rw [whileM_some.2 k2] at hw
            cases hw

/-- What a round comes to: a new head, or the loop's end. -/
def roundOut {σ ρ : Type} (keep : List (Nat × Kd)) (keepX : Ex → List (Nat × Kd)) (dec : List AV → Option σ) (dex : Ex → List AV → Option ρ) (e : Ex) (τ : St) : Option (σ ⊕ ρ) :=
  match e with
  | .normal => (match norm keep τ with
    | none => none
    | some hd => match dec hd with | some x => some (.inl x) | none => none)
  | e => (match norm (keepX e) τ with
    | none => none
    | some hd => match dex e hd with | some y => some (.inr y) | none => none)

/-- Is there no loop over a function in it? -/
def noRange (c : Code) : Bool := !(isRange c) && (loopsOf c).all fun c' => !(isRange c')

theorem noRange_ok {c : Code} (h : noRange c = true) : isRange c = false ∧ ∀ c' ∈ loopsOf c, isRange c' = false := by
  unfold noRange at h
  simp only [Bool.and_eq_true, Bool.not_eq_true', List.all_eq_true] at h
  exact h

theorem norm_okE {w0 w : World} {ok : Nat → Prop} {nt : Nat} {σ : St} {a : Act} {Δ : List Deferred → Prop} {J : Cx → Prop} {ks : List (Nat × Kd)} {hd : List AV} (hh : HoldsE Δ J w0 ok nt σ a w) (h : norm ks σ = some hd) : HoldsE anyD T w0 ok nt (build ks hd) a w := by
  obtain ⟨ds, _, hh⟩ := hh
  exact ⟨ds, trivial, norm_ok hh h⟩

/-- **A loop, from its rounds.** -/
theorem loop_ok {V : Env} {L : Nat → Option LSpec} {nt fid rounds depth : Nat} {s : LSpec} {c : Code} {step : s.σ → Option (s.σ ⊕ s.ρ)} {hdOf : s.σ → List AV} {dex : Ex → List AV → Option s.ρ}
    (hG : GoodEnv V) (hdec : ∀ hd x, s.dec hd = some x → hd = hdOf x) (hdex : ∀ e hd y, dex e hd = some y → e ≠ .normal ∧ s.enc y = (e, hd)) (hrun : ∀ x, s.run x = whileM step x)
    (hin : ∀ c' ∈ loopsOf c, ∀ s, L (firstRegion c') = some s → LoopOK V nt s c')
    (hstep : ∀ x, evK V L (inlK V rounds depth) fid nt rounds c (build s.keep (hdOf x)) (roundOut s.keep s.keepX s.dec dex) = step x) (hr : noRange c = true) : LoopOK V nt s c := by
  obtain ⟨hr1, hr2⟩ := noRange_ok hr
  have hin : ∀ (ro : Option Nat), ∀ c' ∈ loopsOf c, ∀ s, L (firstRegion c') = some s → LoopOK V nt s c' ∧ (isRange c' = true → ro = none) := fun ro c' hc' s hs => ⟨hin c' hc' s hs, fun e => by rw [hr2 c' hc'] at e; cases e⟩
  refine .of0 hr1 ?_
  intro ro w0 ok hd x y a w hd1 hy hh
  rw [hrun, whileM_some] at hy
  rw [hdec _ _ hd1] at hh
  clear hd1
  induction hy generalizing a w with
  | done x y h =>
    rw [← hstep x] at h
    refine loopIn_round (evK_ok (J := T) (Δ := anyD) hG (inlK_ok hG depth) Stays.triv (fun _ _ _ _ => trivial) (fun _ _ _ _ => trivial) c (hin ro) hh h fun e σ' a' w' hh' h' => ?_)
    have fin : ∀ e hd' z, norm (s.keepX e) σ' = some hd' → dex e hd' = some z → some (Sum.inr z : s.σ ⊕ s.ρ) = some (.inr y) → e.to = (s.enc y).1.to ∧ HoldsE anyD T w0 ok nt (build (s.keepX (s.enc y).1) (s.enc y).2) a' w' := by
      intro e hd' z hn hz h'
      cases h'
      obtain ⟨_, h2⟩ := hdex _ _ _ hz
      rw [h2]
      exact ⟨rfl, norm_okE hh' hn⟩
    unfold roundOut at h'
    cases e with
    | normal => simp only at h'; (repeat' (split at h')) <;> cases h'
    | exit id => simp only at h'; split at h' <;> first | (cases h'; done) | (rename_i hd' hn; split at h' <;> first | (rename_i z hz; exact fin _ _ z hn hz h') | cases h')
    | goto l => simp only at h'; split at h' <;> first | (cases h'; done) | (rename_i hd' hn; split at h' <;> first | (rename_i z hz; exact fin _ _ z hn hz h') | cases h')
    | ret => simp only at h'; split at h' <;> first | (cases h'; done) | (rename_i hd' hn; split at h' <;> first | (rename_i z hz; exact fin _ _ z hn hz h') | cases h')
  | more x x' y h k ih =>
    rw [← hstep x] at h
    refine loopIn_round (evK_ok (J := T) (Δ := anyD) hG (inlK_ok hG depth) Stays.triv (fun _ _ _ _ => trivial) (fun _ _ _ _ => trivial) c (hin ro) hh h fun e σ' a' w' hh' h' => ?_)
    unfold roundOut at h'
    cases e with
    | normal =>
      simp only at h'
      split at h'
      · cases h'
      rename_i hd' hn
      split at h'
      · rename_i z hz
        cases h'
        have := norm_okE hh' hn
        rw [hdec _ _ hz] at this
        exact ih a' w' this
      · cases h'
    | exit id => simp only at h'; (repeat' (split at h')) <;> cases h'
    | goto l => simp only at h'; (repeat' (split at h')) <;> cases h'
    | ret => simp only at h'; (repeat' (split at h')) <;> cases h'

/-- The loops of a function's body, by their first regions. -/
def fnLoop (P : Program) (f : FuncId) (id : Nat) : Code :=
  match (P.funcs[f]?).bind (·.body) with
  | some c => ((loopsOf c).find? fun c' => Nat.beq (firstRegion c') id).getD .skip
  | none => .skip

def noTwice : List Nat → Bool
  | [] => true
  | x :: r => bif r.all fun y => !(Nat.beq x y) then noTwice r else false

def fnApart (P : Program) (f : FuncId) : Bool :=
  match (P.funcs[f]?).bind (·.body) with
  | some c => noTwice ((loopsOf c).map firstRegion)
  | none => true

theorem find_of_noTwice : ∀ (l : List Code), noTwice (l.map firstRegion) = true → ∀ c ∈ l, (l.find? fun c' => Nat.beq (firstRegion c') (firstRegion c)) = some c
  | [], _, _, h => by cases h
  | x :: l, hn, c, h => by
    simp only [List.map_cons, noTwice] at hn
    cases hc : ((l.map firstRegion).all fun y => !(Nat.beq (firstRegion x) y)) with
    | false => rw [hc] at hn; cases hn
    | true =>
      rw [hc] at hn
      rcases List.mem_cons.1 h with rfl | h
      · rw [List.find?_cons_of_pos (by simp)]
      · have hne := List.all_eq_true.1 hc (firstRegion c) (List.mem_map.2 ⟨c, h, rfl⟩)
        have hne' : Nat.beq (firstRegion x) (firstRegion c) = false := by simpa using hne
        rw [List.find?_cons_of_neg (by rw [hne']; simp)]
        exact find_of_noTwice l hn c h

/-- Loops that are known, for a function: each of its numbers. -/
theorem loops_of {V : Env} {L : Nat → Option LSpec} {f : FuncId} {nt : Nat} (ha : fnApart V.P f = true) (hnt : ∀ fn, V.P.funcs[f]? = some fn → fn.ntmps = nt)
    (h : ∀ id s, L id = some s → LoopOK V nt s (fnLoop V.P f id)) :
    ∀ fn c, V.P.funcs[f]? = some fn → fn.body = some c → ∀ c' ∈ loopsOf c, ∀ s, L (firstRegion c') = some s → LoopOK V fn.ntmps s c' := by
  intro fn c hf hc c' hc' s hs
  have h1 := h _ s hs
  unfold fnLoop at h1
  unfold fnApart at ha
  rw [hf] at h1 ha
  simp only [Option.bind_some, hc] at h1 ha
  rw [find_of_noTwice _ ha c' hc'] at h1
  rw [hnt fn hf]
  exact h1

theorem loopsOf_sub : ∀ (c : Code) (c' : Code), c' ∈ loopsOf c → ∀ d ∈ loopsOf c', d ∈ loopsOf c := by
  intro c
  induction c with
  | seq a b iha ihb =>
    intro c' h d hd
    rcases List.mem_append.1 h with h | h
    · exact List.mem_append_left _ (iha c' h d hd)
    · exact List.mem_append_right _ (ihb c' h d hd)
  | cond x a b iha ihb =>
    intro c' h d hd
    rcases List.mem_append.1 h with h | h
    · exact List.mem_append_left _ (iha c' h d hd)
    · exact List.mem_append_right _ (ihb c' h d hd)
  | block id c ih => intro c' h d hd; exact ih c' h d hd
  | loop c ih =>
    intro c' h d hd
    rcases List.mem_cons.1 h with rfl | h
    · exact List.mem_cons_of_mem _ hd
    · exact List.mem_cons_of_mem _ (ih c' h d hd)
  | scope c ih => intro c' h d hd; exact ih c' h d hd
  | rangeFunc g ps x y _ _ =>
    intro c' h d hd
    obtain rfl := List.mem_singleton.1 h
    exact hd
  | _ => intro c' h; cases h

/-- The loops within a loop of a function. -/
theorem inner_of {V : Env} {L : Nat → Option LSpec} {f : FuncId} {nt id : Nat} (ha : fnApart V.P f = true)
    (h : ∀ c' ∈ loopsOf (fnLoop V.P f id), ∀ s, L (firstRegion c') = some s → LoopOK V nt s (fnLoop V.P f (firstRegion c'))) :
    ∀ c' ∈ loopsOf (fnLoop V.P f id), ∀ s, L (firstRegion c') = some s → LoopOK V nt s c' := by
  intro c' hc' s hs
  have h1 := h c' hc' s hs
  have : fnLoop V.P f (firstRegion c') = c' := by
    unfold fnLoop at hc' ⊢
    unfold fnApart at ha
    cases hb : (V.P.funcs[f]?).bind (·.body) with
    | none => rw [hb] at hc'; cases hc'
    | some c =>
      rw [hb] at hc' ha
      simp only at hc' ha ⊢
      have hm : c' ∈ loopsOf c := by
        cases hf : (loopsOf c).find? fun c' => Nat.beq (firstRegion c') id with
        | none => rw [hf] at hc'; cases hc'
        | some d =>
          rw [hf] at hc'
          exact loopsOf_sub c d (List.mem_of_find?_eq_some hf) c' hc'
      rw [find_of_noTwice _ ha c' hm]
      rfl
  rw [this] at h1
  exact h1

/-- **A function, from the function that the kernel computes.** -/
theorem spec_ok {V : Env} {L : Nat → Option LSpec} {f : FuncId} {rounds depth : Nat} {rk : List Kd} {s : Spec} {argsOf : s.α → List AV} {dres : AV → Option s.β} (hG : GoodEnv V)
    (hL : ∀ fn c, V.P.funcs[f]? = some fn → fn.body = some c → ∀ c' ∈ loopsOf c, ∀ s, L (firstRegion c') = some s → LoopOK V fn.ntmps s c')
    (hdec : ∀ avs a, s.dec avs = some a → avs = argsOf a) (hdres : ∀ r b, dres r = some b → r = s.enc b)
    (heq : ∀ a, runFn V L rounds depth f rk (argsOf a) dres = s.fn a) : SpecOK V.P f s := by
  intro w0 ok avs args a b hd hb hv
  rw [hdec _ _ hd] at hv
  refine (runFn_ok hG hL hv ((heq a).trans hb)).mono fun e w' he => ?_
  obtain ⟨v, u, rfl, h1, h2, h3⟩ := he
  rw [hdres _ _ h3] at h2
  exact ⟨u, rfl, h1, h2⟩

end Go.Proofs.Mill

/- What arguments and results are, as Lean types. -/
namespace Go.Proofs.Mill

/-- Cells that are a value of a Lean type. -/
structure Cel where
  α : Type
  n : Nat
  kds : List Kd
  enc : α → List AV
  dec : List AV → Option α
  law : ∀ cs a, dec cs = some a → cs = enc a

def AV.lstS (τ : Ty) : AV → Option (List τ.den)
  | .lst σ xs => match Ty.eqTy σ τ with
    | some ⟨h⟩ => some (h ▸ xs)
    | none => none
  | _ => none

theorem lstS_law {τ : Ty} {v : AV} {xs : List τ.den} (h : v.lstS τ = some xs) : v = .lst τ xs := by
  unfold AV.lstS at h
  split at h
  · split at h
    · rename_i hh _
      subst hh
      obtain rfl := Option.some.inj h
      rfl
    · cases h
  · cases h

def AV.ownS (e : TypeId) (τ : Ty) : AV → Option (List τ.den)
  | .ownv e' σ xs => match Ty.eqTy σ τ with
    | some ⟨h⟩ => bif Nat.beq e' e then some (h ▸ xs) else none
    | none => none
  | _ => none

theorem ownS_law {e : TypeId} {τ : Ty} {v : AV} {xs : List τ.den} (h : v.ownS e τ = some xs) : v = .ownv e τ xs := by
  unfold AV.ownS at h
  split at h
  · rename_i e' σ ys
    split at h
    · rename_i hh _
      subst hh
      cases hb : Nat.beq e' e with
      | false => rw [hb] at h; cases h
      | true =>
        rw [hb] at h
        have hb := Nat.eq_of_beq_eq_true hb
        subst hb
        obtain rfl := Option.some.inj h
        rfl
    · cases h
  · cases h

def celInt (k : IntKind) : Cel where
  α := Int
  n := 1
  kds := [.any]
  enc x := [.int k x]
  dec
    | [.int k' x] => bif decide (k' = k) then some x else none
    | _ => none
  law := by
    intro cs a h
    split at h
    · rename_i k' x
      cases hk : decide (k' = k) with
      | false => rw [hk] at h; cases h
      | true =>
        rw [hk] at h
        obtain rfl := of_decide_eq_true hk
        obtain rfl := Option.some.inj h
        rfl
    · cases h

def celBool : Cel where
  α := Bool
  n := 1
  kds := [.any]
  enc x := [.bool x]
  dec
    | [.bool x] => some x
    | _ => none
  law := by
    intro cs a h
    split at h
    · obtain rfl := Option.some.inj h; rfl
    · cases h

def celStr : Cel where
  α := ByteArray
  n := 1
  kds := [.any]
  enc x := [.str x]
  dec
    | [.str x] => some x
    | _ => none
  law := by
    intro cs a h
    split at h
    · obtain rfl := Option.some.inj h; rfl
    · cases h

def celLst (τ : Ty) : Cel where
  α := List τ.den
  n := 1
  kds := [.lst τ]
  enc x := [.lst τ x]
  dec
    | [v] => v.lstS τ
    | _ => none
  law := by
    intro cs a h
    split at h
    · rw [lstS_law h]
    · cases h

def celOwn (e : TypeId) (τ : Ty) : Cel where
  α := List τ.den
  n := 1
  kds := [.own e τ]
  enc x := [.ownv e τ x]
  dec
    | [v] => v.ownS e τ
    | _ => none
  law := by
    intro cs a h
    split at h
    · rw [ownS_law h]
    · cases h

def celApp (a b : Cel) : Cel where
  α := a.α × b.α
  n := a.n + b.n
  kds := a.kds ++ b.kds
  enc x := a.enc x.1 ++ b.enc x.2
  dec cs := match a.dec (cs.take a.n) with
    | some x => match b.dec (cs.drop a.n) with
      | some y => some (x, y)
      | none => none
    | none => none
  law := by
    intro cs p h
    split at h
    · rename_i x hx
      split at h
      · rename_i y hy
        obtain rfl := Option.some.inj h
        rw [← a.law _ _ hx, ← b.law _ _ hy, List.take_append_drop]
      · cases h
    · cases h

/-- The same cells as a Lean structure. -/
def celAs (a : Cel) (X : Type) (f : a.α → X) (g : X → a.α) (h : ∀ y, g (f y) = y) : Cel where
  α := X
  n := a.n
  kds := a.kds
  enc x := a.enc (g x)
  dec cs := match a.dec cs with
    | some y => some (f y)
    | none => none
  law := by
    intro cs x hx
    split at hx
    · rename_i y hy
      obtain rfl := Option.some.inj hx
      rw [h y]
      exact a.law _ _ hy
    · cases hx

/-- A value. -/
structure Val where
  α : Type
  kd : Kd
  enc : α → AV
  dec : AV → Option α
  law : ∀ v a, dec v = some a → v = enc a

def valCell (c : Cel) (κ : Kd) (get : c.α → AV) (h : ∀ x, c.enc x = [get x]) : Val where
  α := c.α
  kd := κ
  enc := get
  dec v := c.dec [v]
  law := by
    intro v a hv
    have := c.law _ _ hv
    rw [h] at this
    exact (List.cons.inj this).1

def valInt (k : IntKind) : Val := valCell (celInt k) .any (fun x => .int k x) (fun _ => rfl)
def valBool : Val := valCell celBool .any (fun x => .bool x) (fun _ => rfl)
def valStr : Val := valCell celStr .any (fun x => .str x) (fun _ => rfl)
def valLst (τ : Ty) : Val := valCell (celLst τ) (.lst τ) (fun x => .lst τ x) (fun _ => rfl)
def valOwn (e : TypeId) (τ : Ty) : Val := valCell (celOwn e τ) (.own e τ) (fun x => .ownv e τ x) (fun _ => rfl)
/-- The nil slice. -/
def valNil : Val where
  α := Unit
  kd := .nil
  enc _ := .emp
  dec
    | .emp => some ()
    | _ => none
  law := by
    intro v a h
    split at h
    · rfl
    · cases h
/-- That function. -/
def valFn (f : FuncId) : Val where
  α := Unit
  kd := .fnc f
  enc _ := .fn f []
  dec
    | .fn g [] => bif Nat.beq g f then some () else none
    | _ => none
  law := by
    intro v a h
    split at h
    · rename_i g
      cases hg : Nat.beq g f with
      | true => rw [Nat.eq_of_beq_eq_true hg]
      | false => rw [hg] at h; cases h
    · cases h
/-- A pointer to such a struct, that is only read. -/
def valPtr (c : Cel) : Val where
  α := c.α
  kd := .any
  enc x := .cptr (c.enc x) 0
  dec
    | .cptr cs 0 => c.dec cs
    | _ => none
  law := by
    intro v a h
    split at h
    · rw [← c.law _ _ h]
    · cases h
def valSt (c : Cel) : Val where
  α := c.α
  kd := .box c.kds
  enc x := .agg (c.enc x)
  dec
    | .agg cs => c.dec cs
    | _ => none
  law := by
    intro v a h
    split at h
    · rw [← c.law _ _ h]
    · cases h

/-- Values one after the other: arguments, results. -/
structure Vals where
  α : Type
  kds : List Kd
  enc : α → List AV
  dec : List AV → Option α
  law : ∀ cs a, dec cs = some a → cs = enc a

def valsNil : Vals where
  α := Unit
  kds := []
  enc _ := []
  dec
    | [] => some ()
    | _ => none
  law := by
    intro cs a h
    split at h
    · rfl
    · cases h

def valsOne (v : Val) : Vals where
  α := v.α
  kds := [v.kd]
  enc x := [v.enc x]
  dec
    | [x] => v.dec x
    | _ => none
  law := by
    intro cs a h
    split at h
    · rw [← v.law _ _ h]
    · cases h

def valsCons (v : Val) (r : Vals) : Vals where
  α := v.α × r.α
  kds := v.kd :: r.kds
  enc x := v.enc x.1 :: r.enc x.2
  dec
    | x :: cs => match v.dec x with
      | some a => match r.dec cs with
        | some b => some (a, b)
        | none => none
      | none => none
    | _ => none
  law := by
    intro cs p h
    split at h
    · split at h
      · rename_i a ha
        split at h
        · rename_i b hb
          obtain rfl := Option.some.inj h
          rw [← v.law _ _ ha, ← r.law _ _ hb]
        · cases h
      · cases h
    · cases h

/-- A function's result. -/
structure ResV where
  α : Type
  kds : List Kd
  enc : α → AV
  dec : AV → Option α
  law : ∀ v a, dec v = some a → v = enc a

def resOne (v : Val) : ResV := ⟨v.α, [v.kd], v.enc, v.dec, v.law⟩
def resTup (v : Vals) : ResV where
  α := v.α
  kds := v.kds
  enc x := .tup (v.enc x)
  dec
    | .tup cs => v.dec cs
    | _ => none
  law := by
    intro x a h
    split at h
    · rw [← v.law _ _ h]
    · cases h

/-- A function that is known, from its arguments' and results' types. -/
def mkSpec (a : Vals) (r : ResV) (fn : a.α → Option r.α) : Spec := ⟨a.kds, a.α, r.α, a.dec, fn, r.enc, false⟩
/-- The same of a function that only reads its arguments' variables. -/
def mkSpecL (a : Vals) (r : ResV) (fn : a.α → Option r.α) : Spec := ⟨a.kds, a.α, r.α, a.dec, fn, r.enc, true⟩

theorem mkSpec_ok {V : Env} {L : Nat → Option LSpec} {f : FuncId} {rounds depth : Nat} {a : Vals} {r : ResV} {fn : a.α → Option r.α} (hG : GoodEnv V)
    (hL : ∀ fn c, V.P.funcs[f]? = some fn → fn.body = some c → ∀ c' ∈ loopsOf c, ∀ s, L (firstRegion c') = some s → LoopOK V fn.ntmps s c')
    (heq : ∀ x, runFn V L rounds depth f r.kds (a.enc x) r.dec = fn x) : SpecOK V.P f (mkSpec a r fn) :=
  spec_ok (s := mkSpec a r fn) (argsOf := a.enc) (dres := r.dec) hG hL a.law r.law heq

theorem mkSpecL_ok {V : Env} {L : Nat → Option LSpec} {f : FuncId} {rounds depth : Nat} {a : Vals} {r : ResV} {fn : a.α → Option r.α} (hG : GoodEnv V)
    (hL : ∀ fn c, V.P.funcs[f]? = some fn → fn.body = some c → ∀ c' ∈ loopsOf c, ∀ s, L (firstRegion c') = some s → LoopOK V fn.ntmps s c')
    (heq : ∀ x, runFn V L rounds depth f r.kds (a.enc x) r.dec = fn x) : SpecOK V.P f (mkSpecL a r fn) :=
  spec_ok (s := mkSpecL a r fn) (argsOf := a.enc) (dres := r.dec) hG hL a.law r.law heq

end Go.Proofs.Mill

/- The program's structs, as Lean structures. -/
namespace Go.Proofs.Mill

def celOp : Cel := celAs (celApp (celInt .i64) (celInt .i64)) Op (fun y => ⟨y.1, y.2⟩) (fun x => (x.tag, x.v)) (fun _ => rfl)

def celEntry : Cel := celAs (celApp (celInt .i64) celOp) Entry (fun y => ⟨y.1, y.2⟩) (fun x => (x.t, x.op)) (fun _ => rfl)

def celKid : Cel := celAs (celApp (celInt .i64) (celInt .i64)) Kid (fun y => ⟨y.1, y.2⟩) (fun x => (x.t, x.ahead)) (fun _ => rfl)

def celMark : Cel := celAs (celApp (celInt .i64) (celApp (celInt .i64) (celApp celOp (celApp (celInt .i64) (celInt .i64))))) Mark (fun y => ⟨y.1, y.2.1, y.2.2.1, y.2.2.2.1, y.2.2.2.2⟩) (fun x => (x.t, (x.item, (x.op, (x.prior, x.step))))) (fun _ => rfl)

def celEvent : Cel := celAs (celApp (celInt .i64) (celApp (celInt .i64) (celApp (celInt .i64) (celApp celOp (celApp (celInt .i64) (celApp celBool (celInt .i64))))))) Event (fun y => ⟨y.1, y.2.1, y.2.2.1, y.2.2.2.1, y.2.2.2.2.1, y.2.2.2.2.2.1, y.2.2.2.2.2.2⟩) (fun x => (x.kind, (x.t, (x.item, (x.op, (x.prior, (x.did, x.step))))))) (fun _ => rfl)

def celThread : Cel := celAs (celApp (celInt .i64) (celApp (celInt .i64) (celApp celOp (celApp (celLst .entry) (celApp (celLst .kid) (celApp (celLst .int) (celApp (celInt .i64) (celApp (celInt .i64) (celApp (celInt .i64) (celApp (celInt .i64) (celApp (celInt .i64) (celApp (celInt .i64) (celApp (celInt .i64) (celApp (celInt .i64) (celApp (celInt .i64) (celInt .i64)))))))))))))))) Thread (fun y => ⟨y.1, y.2.1, y.2.2.1, y.2.2.2.1, y.2.2.2.2.1, y.2.2.2.2.2.1, y.2.2.2.2.2.2.1, y.2.2.2.2.2.2.2.1, y.2.2.2.2.2.2.2.2.1, y.2.2.2.2.2.2.2.2.2.1, y.2.2.2.2.2.2.2.2.2.2.1, y.2.2.2.2.2.2.2.2.2.2.2.1, y.2.2.2.2.2.2.2.2.2.2.2.2.1, y.2.2.2.2.2.2.2.2.2.2.2.2.2.1, y.2.2.2.2.2.2.2.2.2.2.2.2.2.2.1, y.2.2.2.2.2.2.2.2.2.2.2.2.2.2.2⟩) (fun x => (x.phase, (x.item, (x.op, (x.batch, (x.kids, (x.held, (x.stop, (x.node, (x.at_, (x.layer, (x.left, (x.width, (x.who, (x.x, (x.y, x.until_)))))))))))))))) (fun _ => rfl)

def celSEntry : Cel := celAs (celApp (celInt .i64) (celApp (celInt .i64) (celApp (celInt .i64) celOp))) SEntry (fun y => ⟨y.1, y.2.1, y.2.2.1, y.2.2.2⟩) (fun x => (x.kind, (x.t, (x.item, x.op)))) (fun _ => rfl)

def celWant : Cel := celAs (celApp (celInt .i64) (celInt .i64)) Want (fun y => ⟨y.1, y.2⟩) (fun x => (x.item, x.k)) (fun _ => rfl)

def celSCall : Cel := celAs (celApp (celInt .i64) (celApp (celInt .i64) (celApp celWant celWant))) SCall (fun y => ⟨y.1, y.2.1, y.2.2.1, y.2.2.2⟩) (fun x => (x.kind, (x.t, (x.a, x.b)))) (fun _ => rfl)

def celClient : Cel := celAs (celApp celSCall (celInt .i64)) Client (fun y => ⟨y.1, y.2⟩) (fun x => (x.call, x.stage)) (fun _ => rfl)

def celReply : Cel := celAs (celApp (celInt .i64) (celApp (celInt .i64) (celInt .i64))) Reply (fun y => ⟨y.1, y.2.1, y.2.2⟩) (fun x => (x.t, (x.kind, x.granted))) (fun _ => rfl)

structure Config where
  threads : Int
  items : Int
  backend : Int
  depth : Int
  layers : Int
  width : Int
  spin : Int
  wait : Int
  bounded : Bool
  lo : Int
  hi : Int
  init : Int

def celConfig : Cel := celAs (celApp (celInt .i64) (celApp (celInt .i64) (celApp (celInt .i64) (celApp (celInt .i64) (celApp (celInt .i64) (celApp (celInt .i64) (celApp (celInt .i64) (celApp (celInt .i64) (celApp celBool (celApp (celInt .i64) (celApp (celInt .i64) (celInt .i64)))))))))))) Config (fun y => ⟨y.1, y.2.1, y.2.2.1, y.2.2.2.1, y.2.2.2.2.1, y.2.2.2.2.2.1, y.2.2.2.2.2.2.1, y.2.2.2.2.2.2.2.1, y.2.2.2.2.2.2.2.2.1, y.2.2.2.2.2.2.2.2.2.1, y.2.2.2.2.2.2.2.2.2.2.1, y.2.2.2.2.2.2.2.2.2.2.2⟩) (fun x => (x.threads, (x.items, (x.backend, (x.depth, (x.layers, (x.width, (x.spin, (x.wait, (x.bounded, (x.lo, (x.hi, x.init)))))))))))) (fun _ => rfl)

structure Memo where
  words : List Int
  boxes : List (List Entry)

def celMemo : Cel := celAs (celApp (celLst .int) (celLst (.lst .entry))) Memo (fun y => ⟨y.1, y.2⟩) (fun x => (x.words, x.boxes)) (fun _ => rfl)

structure Tape where
  l : List Int
  at_ : Int

def celTape : Cel := celAs (celApp (celLst .int) (celInt .i64)) Tape (fun y => ⟨y.1, y.2⟩) (fun x => (x.l, x.at_)) (fun _ => rfl)

structure Turn where
  c : Config
  t : Int
  now : Int
  m : Memo
  th : Thread
  tape : Tape
  log : List Mark
  done : Bool

def celTurn : Cel := celAs (celApp celConfig (celApp (celInt .i64) (celApp (celInt .i64) (celApp celMemo (celApp celThread (celApp celTape (celApp (celLst .mark) celBool))))))) Turn (fun y => ⟨y.1, y.2.1, y.2.2.1, y.2.2.2.1, y.2.2.2.2.1, y.2.2.2.2.2.1, y.2.2.2.2.2.2.1, y.2.2.2.2.2.2.2⟩) (fun x => (x.c, (x.t, (x.now, (x.m, (x.th, (x.tape, (x.log, x.done)))))))) (fun _ => rfl)

structure Said where
  kind : Int
  n : Int

def celSaid : Cel := celAs (celApp (celInt .i64) (celInt .i64)) Said (fun y => ⟨y.1, y.2⟩) (fun x => (x.kind, x.n)) (fun _ => rfl)

structure Plan where
  nodes : Int
  slots : Int
  block : Int
  lines : Int

def celPlan : Cel := celAs (celApp (celInt .i64) (celApp (celInt .i64) (celApp (celInt .i64) (celInt .i64)))) Plan (fun y => ⟨y.1, y.2.1, y.2.2.1, y.2.2.2⟩) (fun x => (x.nodes, (x.slots, (x.block, x.lines)))) (fun _ => rfl)

structure Asked where
  op : Op
  item : Int

def celAsked : Cel := celAs (celApp celOp (celInt .i64)) Asked (fun y => ⟨y.1, y.2⟩) (fun x => (x.op, x.item)) (fun _ => rfl)

structure Shut where
  who : Int
  so : Int
  no : Int

def celShut : Cel := celAs (celApp (celInt .i64) (celApp (celInt .i64) (celInt .i64))) Shut (fun y => ⟨y.1, y.2.1, y.2.2⟩) (fun x => (x.who, (x.so, x.no))) (fun _ => rfl)

structure Wld where
  c : Config
  m : Memo
  t : List Thread
  now : Int
  steps : Int
  tape : Tape
  log : List Mark
  hist : List Event

def celWld : Cel := celAs (celApp celConfig (celApp celMemo (celApp (celLst .thread) (celApp (celInt .i64) (celApp (celInt .i64) (celApp celTape (celApp (celLst .mark) (celLst .event)))))))) Wld (fun y => ⟨y.1, y.2.1, y.2.2.1, y.2.2.2.1, y.2.2.2.2.1, y.2.2.2.2.2.1, y.2.2.2.2.2.2.1, y.2.2.2.2.2.2.2⟩) (fun x => (x.c, (x.m, (x.t, (x.now, (x.steps, (x.tape, (x.log, x.hist)))))))) (fun _ => rfl)

def dOp : Op := ⟨0, 0⟩
def dEntry : Entry := ⟨0, ⟨0, 0⟩⟩
def dKid : Kid := ⟨0, 0⟩
def dMark : Mark := ⟨0, 0, ⟨0, 0⟩, 0, 0⟩
def dEvent : Event := ⟨0, 0, 0, ⟨0, 0⟩, 0, false, 0⟩
def dThread : Thread := ⟨0, 0, ⟨0, 0⟩, [], [], [], 0, 0, 0, 0, 0, 0, 0, 0, 0, 0⟩
def dSEntry : SEntry := ⟨0, 0, 0, ⟨0, 0⟩⟩
def dWant : Want := ⟨0, 0⟩
def dClient : Client := ⟨⟨0, 0, ⟨0, 0⟩, ⟨0, 0⟩⟩, 0⟩
def dReply : Reply := ⟨0, 0, 0⟩
end Go.Proofs.Mill

/- An environment: what is known, as a list. -/
namespace Go.Proofs.Mill
open Go.RowKit

def assoc : List (FuncId × Spec) → FuncId → Option Spec
  | [], _ => none
  | p :: r, f => bif Nat.beq p.1 f then some p.2 else assoc r f

/-- The functions from the one to the other have bodies, and are none of the run-time's. -/
def entAll (P : Program) : List FuncId → Bool
  | [] => true
  | f :: r => bif (match P.funcs[f]? with | some fn => !fn.body.isNone && !(fn.name == "runtime.NumGoroutine") | none => false) then entAll P r else false

/-- Each place once, as it stands. -/
def squash : List (Nat × AV) → Wr
  | [] => []
  | p :: r => p :: (squash r).filter fun q => !(Nat.beq q.1 p.1)

/-- A function, walked into from an empty store. -/
def pureOf (V : Env) (rounds depth : Nat) (f : FuncId) (fid : Nat) (args : List AV) : Option (AV × Wr) :=
  bif V.ent f then (match fnK V (fun _ => none) (inlK V rounds depth) rounds f fid args [] (fun v ob => some (v, squash ob)) with | some p => (bif apartN p.2 then some p else none) | none => none) else none

def env0 (P : Program) (E : TypeId → Option Ty) (hi : Nat) (l : List (FuncId × Spec)) : Env := ⟨P, E, assoc l, fun f => Nat.ble 3 f && Nat.blt f hi, fun _ _ _ => none, fun _ => false, fun _ => none⟩
def envOf (P : Program) (E : TypeId → Option Ty) (hi : Nat) (l : List (FuncId × Spec)) (mv : FuncId → Bool := fun _ => false) : Env :=
  ⟨P, E, assoc l, fun f => Nat.ble 3 f && Nat.blt f hi, pureOf (env0 P E hi l) 20 6, mv, fun _ => none⟩
def assocX : List (FuncId × XSpec) → FuncId → Option XSpec
  | [], _ => none
  | p :: r, f => bif Nat.beq p.1 f then some p.2 else assocX r f

/-- The same, and functions that turn the caller's store. -/
def envX (P : Program) (E : TypeId → Option Ty) (hi : Nat) (l : List (FuncId × Spec)) (xs : List (FuncId × XSpec)) : Env :=
  ⟨P, E, assoc l, fun f => Nat.ble 3 f && Nat.blt f hi, pureOf (env0 P E hi l) 20 6, fun _ => false, assocX xs⟩

theorem squash_mem : ∀ (ob : List (Nat × AV)) (p : Nat × AV), p ∈ squash ob → look ob p.1 = p.2
  | [], _, h => by cases h
  | q :: r, p, h => by
    rcases List.mem_cons.1 h with rfl | h
    · exact look_eq _ _ _
    · obtain ⟨h1, h2⟩ := List.mem_filter.1 h
      have hne : q.1 ≠ p.1 := by
        intro e
        rw [e] at h2
        simp at h2
      rw [look_ne _ _ hne]
      exact squash_mem r p h1

theorem squash_nodup : ∀ (ob : List (Nat × AV)), ((squash ob).map (·.1)).Nodup
  | [] => by simp [squash]
  | q :: r => by
    show (q.1 :: ((squash r).filter fun x => !(Nat.beq x.1 q.1)).map (·.1)).Nodup
    rw [List.nodup_cons]
    refine ⟨fun hm => ?_, ?_⟩
    · obtain ⟨p, hp, he⟩ := List.mem_map.1 hm
      have := (List.mem_filter.1 hp).2
      rw [he] at this
      simp at this
    · exact (squash_nodup r).sublist (List.Sublist.map _ List.filter_sublist)

theorem squash_has : ∀ (ob : List (Nat × AV)) (i : Nat), look ob i ≠ .undef → ∃ p ∈ squash ob, p.1 = i
  | [], i, h => (h rfl).elim
  | q :: r, i, h => by
    by_cases e : q.1 = i
    · exact ⟨q, by simp [squash], e⟩
    · obtain ⟨j, o⟩ := q
      rw [look_ne _ _ e] at h
      obtain ⟨p, hp, he⟩ := squash_has r i h
      refine ⟨p, ?_, he⟩
      refine List.mem_cons_of_mem _ (List.mem_filter.2 ⟨hp, ?_⟩)
      have hf : Nat.beq p.1 j = false := by
        cases hb : Nat.beq p.1 j with
        | false => rfl
        | true => exact (e ((Nat.eq_of_beq_eq_true hb).symm.trans he)).elim
      simp only [hf, Bool.not_false]

theorem squash_look (ob : List (Nat × AV)) : look (appOb (squash ob) []) = look ob := by
  funext i
  by_cases h : ∃ p ∈ squash ob, p.1 = i
  · obtain ⟨p, hp, rfl⟩ := h
    rw [look_appOb_in _ _ p (squash_nodup ob) hp, squash_mem ob p hp]
  · rw [look_appOb_not _ _ _ (fun p hp e => h ⟨p, hp, e⟩)]
    apply Classical.byContradiction
    intro hne
    exact h (squash_has ob i (fun e => hne (by rw [e]; rfl)))

theorem pureOf_ok {V : Env} {rounds depth : Nat} (hG : GoodEnv V) : PureOK V.P (pureOf V rounds depth) := by
  intro f fid args v ws h
  unfold pureOf at h
  cases he : V.ent f with
  | false => rw [he] at h; cases h
  | true =>
    rw [he] at h
    simp only [cond_true] at h
    split at h
    case h_2 => cases h
    rename_i p hp
    cases hn : apartN p.2 with
    | false => rw [hn] at h; cases h
    | true =>
    rw [hn] at h
    simp only [cond_true, Option.some.injEq] at h
    subst h
    have h := hp
    have hn : apartN ws = true := hn
    have key : ∀ (w : World) (ok : Nat → Prop) (vals : Array Value), VL (pcx w ok) args vals.toList → Calls V.P f vals w fun e w' => ∃ v' u ob' mu', e = .returned u ∧
        Mem w (cx w' ob' mu' fun b => ok b ∨ w.heap.size ≤ b) ∧ T (cx w' ob' mu' fun b => ok b ∨ w.heap.size ≤ b) ∧ Mill.V (cx w' ob' mu' fun b => ok b ∨ w.heap.size ≤ b) v' u ∧ some (v', squash ob') = some (v, ws) := by
      intro w ok vals hv
      have hm : Mem w (cx w [] (fun _ => none) fun b => ok b ∨ w.heap.size ≤ b) :=
        ⟨fun _ => rfl, fun _ _ _ h => (by cases h), fun _ _ h => (by cases h), Below.refl _ _, fun b hb => .inl (.inr hb)⟩
      have hmono : Mono (pcx w ok) (cx w [] (fun _ => none) fun b => ok b ∨ w.heap.size ≤ b) := mono_of (fun b hb => ⟨⟨.inl hb.1, hb.2.1, hb.2.2⟩, rfl⟩) (fun id => .inl rfl) (fun _ _ h => ⟨h, rfl⟩)
      exact fnK_ok (J := T) hG (inlK_ok hG depth) Stays.triv (fun _ _ _ _ => trivial) loops_none hm (hmono.vl _ _ hv) trivial h
    refine ⟨hG.2.2.1 f he, apartN_nodup _ hn, fun w ok vals hv => (key w ok vals hv).mono fun e w' he => ?_⟩
    · obtain ⟨v', u, ob', mu', rfl, hm', _, hv', hk⟩ := he
      simp only [Option.some.injEq, Prod.mk.injEq] at hk
      obtain ⟨rfl, rfl⟩ := hk
      exact ⟨u, mu', rfl, by unfold cx at hm' ⊢; rw [squash_look]; exact hm', by unfold cx at hv' ⊢; rw [squash_look]; exact hv'⟩

def Goods (P : Program) (hi : Nat) (l : List (FuncId × Spec)) : Prop := ∀ p ∈ l, SpecOK P p.1 p.2 ∧ (Nat.ble 3 p.1 && Nat.blt p.1 hi) = true

theorem goods_nil {P : Program} {hi : Nat} : Goods P hi [] := fun _ h => by cases h
theorem goods_cons {P : Program} {hi : Nat} {f : FuncId} {s : Spec} {l : List (FuncId × Spec)} (h : SpecOK P f s) (hf : (Nat.ble 3 f && Nat.blt f hi) = true) (k : Goods P hi l) : Goods P hi ((f, s) :: l) := by
  intro p hp
  rcases List.mem_cons.1 hp with rfl | hp
  · exact ⟨h, hf⟩
  · exact k p hp

theorem entAll_ok {P : Program} : ∀ (l : List FuncId), entAll P l = true → ∀ f ∈ l, Enter P f
  | [], _, _, h => by cases h
  | g :: r, h, f, hf => by
    unfold entAll at h
    generalize hb : (match P.funcs[g]? with | some fn => !fn.body.isNone && !(fn.name == "runtime.NumGoroutine") | none => false) = b at h
    cases b with
    | false => cases h
    | true =>
      rcases List.mem_cons.1 hf with rfl | hf
      · split at hb
        · rename_i fn hfn
          simp only [Bool.and_eq_true, Bool.not_eq_true'] at hb
          exact ⟨fn, hfn, hb.1, hb.2⟩
        · cases hb
      · exact entAll_ok r h f hf

theorem assoc_mem : ∀ {l : List (FuncId × Spec)} {f : FuncId} {s : Spec}, assoc l f = some s → (f, s) ∈ l
  | [], _, _, h => by cases h
  | p :: r, f, s, h => by
    unfold assoc at h
    cases hb : Nat.beq p.1 f with
    | true =>
      rw [hb] at h
      have hb := Nat.eq_of_beq_eq_true hb
      obtain rfl := Option.some.inj h
      subst hb
      simp
    | false =>
      rw [hb] at h
      exact List.mem_cons_of_mem _ (assoc_mem h)

theorem goodEnv {P : Program} {E : TypeId → Option Ty} {hi : Nat} {l : List (FuncId × Spec)} {mv : FuncId → Bool} (hm : P.follows .mixedOrders = true) (he : entAll P (List.range' 3 (hi - 3)) = true) (h : Goods P hi l) :
    GoodEnv (envOf P E hi l mv) := by
  have hent : ∀ f, (Nat.ble 3 f && Nat.blt f hi) = true → Enter P f := by
    intro f hf
    simp only [Bool.and_eq_true] at hf
    have h1 := Nat.le_of_ble_eq_true hf.1
    have h2 := hf.2
    rw [Nat.blt_eq] at h2
    exact entAll_ok _ he f (by rw [List.mem_range'_1]; omega)
  have hsp : ∀ f s, assoc l f = some s → SpecOK P f s ∧ Enter P f := by
    intro f s hs
    have := h _ (assoc_mem hs)
    exact ⟨this.1, hent f this.2⟩
  have x0 : XOK P (fun _ => none) := fun f s h => by cases h
  have h0 : GoodEnv (env0 P E hi l) := ⟨hsp, hm, hent, (fun _ _ _ _ _ h => by cases h), x0⟩
  exact ⟨hsp, hm, hent, pureOf_ok h0, x0⟩

/-- One function that turns the caller's store. -/
def XGood (P : Program) (f : FuncId) (s : XSpec) : Prop := ∀ fid args ob y post, s.pre fid args ob = some (some y, post) →
  ∀ (w0 : World) (ok : Nat → Prop) (w : World) (mu : Nat → Option Nat) (vals : Array Value), Mem w0 (cx w ob mu ok) → VL (cx w ob mu ok) args vals.toList →
    Calls P f vals w fun e w' => ∃ u mu', e = .returned u ∧ Mem w0 (cx w' (post y).2 mu' ok) ∧ Mono (cx w ob mu ok) (cx w' (post y).2 mu' ok) ∧ V (cx w' (post y).2 mu' ok) (post y).1 u

theorem goodEnvX {P : Program} {E : TypeId → Option Ty} {hi : Nat} {l : List (FuncId × Spec)} {f : FuncId} {x : XSpec} (hm : P.follows .mixedOrders = true) (he : entAll P (List.range' 3 (hi - 3)) = true) (h : Goods P hi l)
    (hf : (Nat.ble 3 f && Nat.blt f hi) = true) (hx : XGood P f x) : GoodEnv (envX P E hi l [(f, x)]) := by
  obtain ⟨h1, h2, h3, h4, _⟩ := goodEnv (E := E) (mv := fun _ => false) hm he h
  refine ⟨h1, h2, h3, h4, fun g s hs => ?_⟩
  have hs : (bif Nat.beq f g then some x else none) = some s := hs
  cases hb : Nat.beq f g with
  | false => rw [hb] at hs; cases hs
  | true =>
    rw [hb] at hs
    obtain rfl := Option.some.inj hs
    have hb := Nat.eq_of_beq_eq_true hb
    subst hb
    exact ⟨h3 f hf, hx⟩

end Go.Proofs.Mill

/- Loops, from the types of what they keep. -/
namespace Go.Proofs.Mill
open Go.RowKit

/-- A pointer into the variable of a slot. -/
def valAl (j off : Nat) : Val where
  α := Unit
  kd := .al j off
  enc _ := alPtr j off
  dec
    | .ptr a o => bif Nat.beq a ((1024 + j) * 64) && Nat.beq o off then some () else none
    | _ => none
  law := by
    intro v a h
    split at h
    · rename_i b o
      cases hb : (Nat.beq b ((1024 + j) * 64) && Nat.beq o off) with
      | false => rw [hb] at h; cases h
      | true =>
        simp only [Bool.and_eq_true] at hb
        have h1 := Nat.eq_of_beq_eq_true hb.1
        have h2 := Nat.eq_of_beq_eq_true hb.2
        subst h1 h2
        rfl
    · cases h

def valBox (c : Cel) : Val where
  α := c.α
  kd := .box c.kds
  enc x := .box (c.enc x)
  dec
    | .box cs => c.dec cs
    | _ => none
  law := by
    intro v a h
    split at h
    · rw [← c.law _ _ h]
    · cases h

def Ex.same : Ex → Ex → Bool
  | .normal, .normal => true
  | .exit a, .exit b => Nat.beq a b
  | .goto a, .goto b => Nat.beq a b
  | .ret, .ret => true
  | _, _ => false

theorem Ex.same_eq {a b : Ex} (h : a.same b = true) : a = b := by
  cases a <;> cases b <;> first | rfl | (cases h; done) | (rw [Nat.eq_of_beq_eq_true h])

/-- A way out of a loop. -/
structure Way where
  e : Ex
  ts : List Nat
  v : Vals

/-- A loop that is left in one way. -/
def loop1 (ts : List Nat) (v : Vals) (a : Way) (run : v.α → Option a.v.α) : LSpec where
  keep := ts.zip v.kds
  σ := v.α
  ρ := a.v.α
  dec := v.dec
  run := run
  enc y := (a.e, a.v.enc y)
  keepX _ := a.ts.zip a.v.kds
  out _ y k := k a.e (a.v.enc y)
  law _ _ _ := rfl

def dex1 (a : Way) (e : Ex) (hd : List AV) : Option a.v.α := bif e.same a.e then a.v.dec hd else none

/-- A loop that is left in two ways. -/
def loop2 (ts : List Nat) (v : Vals) (a b : Way) (run : v.α → Option (a.v.α ⊕ b.v.α)) : LSpec where
  keep := ts.zip v.kds
  σ := v.α
  ρ := a.v.α ⊕ b.v.α
  dec := v.dec
  run := run
  enc
    | .inl y => (a.e, a.v.enc y)
    | .inr y => (b.e, b.v.enc y)
  keepX e := bif e.same a.e then a.ts.zip a.v.kds else b.ts.zip b.v.kds
  out _ y k := match y with
    | .inl y => k a.e (a.v.enc y)
    | .inr y => k b.e (b.v.enc y)
  law _ y _ := by cases y <;> rfl

def dex2 (a b : Way) (e : Ex) (hd : List AV) : Option (a.v.α ⊕ b.v.α) :=
  bif e.same a.e then (match a.v.dec hd with | some y => some (.inl y) | none => none)
  else bif e.same b.e then (match b.v.dec hd with | some y => some (.inr y) | none => none) else none

def isOut (e : Ex) : Bool := match e with | .normal => false | _ => true

theorem loop1_ok {V : Env} {L : Nat → Option LSpec} {nt rounds depth : Nat} {ts : List Nat} {v : Vals} {a : Way} {step : v.α → Option (v.α ⊕ a.v.α)} {c : Code}
    (hG : GoodEnv V) (ha : isOut a.e = true) (hin : ∀ c' ∈ loopsOf c, ∀ s, L (firstRegion c') = some s → LoopOK V nt s c')
    (hstep : ∀ x, evK V L (inlK V rounds depth) 1 nt rounds c (build (ts.zip v.kds) (v.enc x)) (roundOut (ts.zip v.kds) (fun _ => a.ts.zip a.v.kds) v.dec (dex1 a)) = step x) (hr : noRange c = true := by kernel_rfl) :
    LoopOK V nt (loop1 ts v a (whileM step)) c :=
  loop_ok (s := loop1 ts v a (whileM step)) (fid := 1) (hdOf := v.enc) (dex := dex1 a) hG v.law (fun e hd y h => by
    unfold dex1 at h
    cases he : e.same a.e with
    | false => rw [he] at h; cases h
    | true =>
      rw [he] at h
      have h : a.v.dec hd = some y := h
      have he := Ex.same_eq he
      subst he
      refine ⟨fun hn => (by rw [hn] at ha; cases ha), ?_⟩
      show (a.e, a.v.enc y) = _
      rw [← a.v.law _ _ h]) (fun _ => rfl) hin hstep hr

theorem loop2_ok {V : Env} {L : Nat → Option LSpec} {nt rounds depth : Nat} {ts : List Nat} {v : Vals} {a b : Way} {step : v.α → Option (v.α ⊕ (a.v.α ⊕ b.v.α))} {c : Code}
    (hG : GoodEnv V) (ha : isOut a.e = true) (hb : isOut b.e = true) (hin : ∀ c' ∈ loopsOf c, ∀ s, L (firstRegion c') = some s → LoopOK V nt s c')
    (hstep : ∀ x, evK V L (inlK V rounds depth) 1 nt rounds c (build (ts.zip v.kds) (v.enc x))
      (roundOut (ts.zip v.kds) (fun e => bif e.same a.e then a.ts.zip a.v.kds else b.ts.zip b.v.kds) v.dec (dex2 a b)) = step x) (hr : noRange c = true := by kernel_rfl) :
    LoopOK V nt (loop2 ts v a b (whileM step)) c :=
  loop_ok (s := loop2 ts v a b (whileM step)) (fid := 1) (hdOf := v.enc) (dex := dex2 a b) hG v.law (fun e hd y h => by
    unfold dex2 at h
    cases he : e.same a.e with
    | true =>
      rw [he] at h
      simp only [cond_true] at h
      have he := Ex.same_eq he
      subst he
      split at h
      · rename_i z hz
        obtain rfl := Option.some.inj h
        refine ⟨fun hn => (by rw [hn] at ha; cases ha), ?_⟩
        show (a.e, a.v.enc z) = _
        rw [← a.v.law _ _ hz]
      · cases h
    | false =>
      rw [he] at h
      simp only [cond_false] at h
      cases he2 : e.same b.e with
      | false => rw [he2] at h; cases h
      | true =>
        rw [he2] at h
        simp only [cond_true] at h
        have he2 := Ex.same_eq he2
        subst he2
        split at h
        · rename_i z hz
          obtain rfl := Option.some.inj h
          refine ⟨fun hn => (by rw [hn] at hb; cases hb), ?_⟩
          show (b.e, b.v.enc z) = _
          rw [← b.v.law _ _ hz]
        · cases h) (fun _ => rfl) hin hstep hr

def assocL : List (Nat × LSpec) → Nat → Option LSpec
  | [], _ => none
  | p :: r, i => bif Nat.beq p.1 i then some p.2 else assocL r i

def LoopsOK (V : Env) (nt : Nat) (f : FuncId) (l : List (Nat × LSpec)) : Prop := ∀ p ∈ l, LoopOK V nt p.2 (fnLoop V.P f p.1)

theorem loopsOK_nil {V : Env} {nt : Nat} {f : FuncId} : LoopsOK V nt f [] := fun _ h => by cases h
theorem loopsOK_cons {V : Env} {nt : Nat} {f : FuncId} {i : Nat} {s : LSpec} {l : List (Nat × LSpec)} (h : LoopOK V nt s (fnLoop V.P f i)) (k : LoopsOK V nt f l) : LoopsOK V nt f ((i, s) :: l) := by
  intro p hp
  rcases List.mem_cons.1 hp with rfl | hp
  · exact h
  · exact k p hp

theorem assocL_mem : ∀ {l : List (Nat × LSpec)} {i : Nat} {s : LSpec}, assocL l i = some s → (i, s) ∈ l
  | [], _, _, h => by cases h
  | p :: r, i, s, h => by
    unfold assocL at h
    cases hb : Nat.beq p.1 i with
    | true =>
      rw [hb] at h
      have hb := Nat.eq_of_beq_eq_true hb
      obtain rfl := Option.some.inj h
      subst hb
      simp
    | false =>
      rw [hb] at h
      exact List.mem_cons_of_mem _ (assocL_mem h)

/-- A function's loops are done as they are said to be. -/
theorem loops_fn {V : Env} {f : FuncId} {nt : Nat} {l : List (Nat × LSpec)} (ha : fnApart V.P f = true) (hnt : ∀ fn, V.P.funcs[f]? = some fn → fn.ntmps = nt) (h : LoopsOK V nt f l) :
    ∀ fn c, V.P.funcs[f]? = some fn → fn.body = some c → ∀ c' ∈ loopsOf c, ∀ s, assocL l (firstRegion c') = some s → LoopOK V fn.ntmps s c' :=
  loops_of ha hnt fun _ _ hs => h _ (assocL_mem hs)

/-- The loops within one of them. -/
theorem loops_in {V : Env} {f : FuncId} {nt i : Nat} {l : List (Nat × LSpec)} (ha : fnApart V.P f = true) (h : LoopsOK V nt f l) :
    ∀ c' ∈ loopsOf (fnLoop V.P f i), ∀ s, assocL l (firstRegion c') = some s → LoopOK V nt s c' :=
  inner_of ha fun _ _ _ hs => h _ (assocL_mem hs)

theorem loops_inNil {V : Env} {nt : Nat} {c : Code} : ∀ c' ∈ loopsOf c, ∀ s, assocL [] (firstRegion c') = some s → LoopOK V nt s c' := fun _ _ _ h => by cases h

/-- How many temporaries a function has. -/
def ntB (P : Program) (f : FuncId) (nt : Nat) : Bool := match P.funcs[f]? with | some fn => Nat.beq fn.ntmps nt | none => true

theorem ntB_ok {P : Program} {f : FuncId} {nt : Nat} (h : ntB P f nt = true) : ∀ fn, P.funcs[f]? = some fn → fn.ntmps = nt := by
  intro fn hf
  unfold ntB at h
  rw [hf] at h
  exact Nat.eq_of_beq_eq_true h

/-- A function that asks whether its one argument, a slice, is nil. -/
theorem spec_nil {V : Env} {L : Nat → Option LSpec} {f : FuncId} {rounds depth : Nat} {τ : Ty} {r : ResV} {fn : List τ.den → Option r.α} (hG : GoodEnv V)
    (hL : ∀ fn c, V.P.funcs[f]? = some fn → fn.body = some c → ∀ c' ∈ loopsOf c, ∀ s, L (firstRegion c') = some s → LoopOK V fn.ntmps s c')
    (h1 : runFn V L rounds depth f r.kds [.emp] r.dec = fn []) (h2 : ∀ xs, runFn V L rounds depth f r.kds [.lstn τ xs] r.dec = fn xs) :
    SpecOK V.P f (mkSpec (valsOne (valLst τ)) r fn) := by
  intro w0 ok avs args a b hd hb hv
  have hd := (valsOne (valLst τ)).law _ _ hd
  subst hd
  obtain ⟨u, us, hu, h3, h4⟩ := VL_cons (show VL (pcx w0 ok) [AV.lst τ a] args.toList from hv)
  have h4 := VL_nil h4
  subst h4
  have fin : ∀ {avs : List AV}, VL (pcx w0 ok) avs args.toList → runFn V L rounds depth f r.kds avs r.dec = some b →
      Calls V.P f args w0 fun e w' => ∃ v, e = .returned v ∧ Below w0.heap.size w0 w' ∧ Res w0 ok w' (r.enc b) v := by
    intro avs hv' hr
    refine (runFn_ok hG hL hv' hr).mono fun e w' he => ?_
    obtain ⟨v, u, rfl, k1, k2, k3⟩ := he
    rw [r.law _ _ k3] at k2
    exact ⟨u, rfl, k1, k2⟩
  by_cases hn : u = .slice none 0 0
  · have ha : a = [] := by
      have h3 : (pcx w0 ok).DV (.lst τ.sz (a.map τ.enc)) u := h3
      unfold Cx.DV at h3
      generalize he : D.lst τ.sz (a.map τ.enc) = d at h3
      rw [hn] at h3
      cases h3 with
      | nil sz A c hA =>
        injection he with _ he
        exact List.map_eq_nil_iff.1 he
    subst ha
    exact fin (avs := [.emp]) (by rw [hu, hn]; exact ⟨rfl, trivial⟩) (h1.trans hb)
  · exact fin (avs := [.lstn τ a]) (by rw [hu]; exact ⟨⟨h3, hn⟩, trivial⟩) ((h2 a).trans hb)

end Go.Proofs.Mill

/- What stands at a law's entry, read as Lean values. -/
namespace Go.Proofs.Mill
open Go.RowKit

/-- What a cell may be. -/
inductive CK where
  | int (k : IntKind)
  | bool
  | str
  | lst (τ : Ty)
  /-- nothing -/
  | no

def ckOf : Ty → List CK
  | .int => [.int .i64]
  | .u8 => [.int .u8]
  | .str => [.str]
  | .entry => [.int .i64, .int .i64, .int .i64]
  | .kid => [.int .i64, .int .i64]
  | .mark => [.int .i64, .int .i64, .int .i64, .int .i64, .int .i64, .int .i64]
  | .event => [.int .i64, .int .i64, .int .i64, .int .i64, .int .i64, .int .i64, .bool, .int .i64]
  | .thread => [.int .i64, .int .i64, .int .i64, .int .i64, .lst .entry, .lst .kid, .lst .int, .int .i64, .int .i64, .int .i64, .int .i64, .int .i64, .int .i64, .int .i64, .int .i64, .int .i64, .int .i64]
  | .sentry => [.int .i64, .int .i64, .int .i64, .int .i64, .int .i64]
  | .want => [.int .i64, .int .i64]
  | .client => [.int .i64, .int .i64, .int .i64, .int .i64, .int .i64, .int .i64, .int .i64]
  | .reply => [.int .i64, .int .i64, .int .i64]
  | .part => [.str, .no]
  | .lst t => [.lst t]

/-- Numbers that are of their kinds, lists that a machine may hold. -/
inductive D.Ok : D → Prop
  | int {k : IntKind} {n : Int} (h : (Lit.int k n).wf = true) : D.Ok (.int k n)
  | bool (b : Bool) : D.Ok (.bool b)
  | str {s : ByteArray} (h : s.size ≤ maxLen) : D.Ok (.str s)
  | lst {sz : Nat} {rows : List (List D)} (h : rows.length ≤ maxLen) (hr : ∀ r ∈ rows, ∀ d ∈ r, D.Ok d) : D.Ok (.lst sz rows)

/-- A value whose numbers and lists are so. -/
def Ty.Ok (τ : Ty) (x : τ.den) : Prop := ∀ d ∈ τ.enc x, d.Ok

def CellIs (c : Cx) : CK → Value → Prop
  | .int k, v => ∃ n, v = .int k n ∧ (Lit.int k n).wf = true
  | .bool, v => ∃ b, v = .bool b
  | .str, v => ∃ s, v = .string s ∧ s.size ≤ maxLen
  | .no, _ => False
  | .lst τ, v => ∃ xs : List τ.den, c.DV (.lst τ.sz (xs.map τ.enc)) v ∧ xs.length ≤ maxLen ∧ ∀ x ∈ xs, τ.Ok x

def CellsAre (c : Cx) : List CK → List Value → Prop
  | [], [] => True
  | k :: ks, v :: vs => CellIs c k v ∧ CellsAre c ks vs
  | _, _ => False

theorem CellsAre.nil {c : Cx} {vs : List Value} (h : CellsAre c [] vs) : vs = [] := by cases vs <;> first | rfl | exact h.elim
theorem CellsAre.cons {c : Cx} {k : CK} {ks : List CK} {vs : List Value} (h : CellsAre c (k :: ks) vs) : ∃ v r, vs = v :: r ∧ CellIs c k v ∧ CellsAre c ks r := by
  cases vs with
  | nil => exact h.elim
  | cons v r => exact ⟨v, r, rfl, h.1, h.2⟩
theorem CellsAre.append {c : Cx} : ∀ {ks ls : List CK} {vs us : List Value}, CellsAre c ks vs → CellsAre c ls us → CellsAre c (ks ++ ls) (vs ++ us)
  | [], _, [], _, _, h => h
  | _ :: _, _, _ :: _, _, h, k => ⟨h.1, h.2.append k⟩
theorem CellsAre.split {c : Cx} : ∀ {ks ls : List CK} {vs : List Value}, CellsAre c (ks ++ ls) vs → ∃ us ws, vs = us ++ ws ∧ CellsAre c ks us ∧ CellsAre c ls ws
  | [], _, vs, h => ⟨[], vs, rfl, trivial, h⟩
  | k :: ks, ls, vs, h => by
    obtain ⟨v, r, rfl, h1, h2⟩ := CellsAre.cons (show CellsAre c (k :: (ks ++ ls)) vs from h)
    obtain ⟨us, ws, rfl, h3, h4⟩ := CellsAre.split h2
    exact ⟨v :: us, ws, rfl, ⟨h1, h3⟩, h4⟩

/-- An element, out of its cells. -/
theorem elem_of {c : Cx} : ∀ (τ : Ty) {cs : List Value}, CellsAre c (ckOf τ) cs → ∃ x : τ.den, c.DVs (τ.enc x) cs ∧ τ.Ok x := by
  have i : ∀ {k : IntKind} {n : Int}, c.DV (.int k n) (.int k n) := DV.int _ _
  have b : ∀ {n : Bool}, c.DV (.bool n) (.bool n) := DV.bool _
  have s : ∀ {n : ByteArray}, c.DV (.str n) (.string n) := DV.str _
  intro τ cs h
  cases τ
  case int =>
    obtain ⟨_, _, rfl, ⟨n1, rfl, k1⟩, h1⟩ := h.cons
    obtain rfl := h1.nil
    exact ⟨(n1 : Int), ⟨i, trivial⟩, by intro d hd; simp only [Ty.enc, encInt, List.mem_singleton] at hd; subst hd; exact .int k1⟩
  case u8 =>
    obtain ⟨_, _, rfl, ⟨n1, rfl, k1⟩, h1⟩ := h.cons
    obtain rfl := h1.nil
    exact ⟨(n1 : Int), ⟨i, trivial⟩, by intro d hd; simp only [Ty.enc, encU8, List.mem_singleton] at hd; subst hd; exact .int k1⟩
  case str =>
    obtain ⟨_, _, rfl, ⟨n1, rfl, k1⟩, h1⟩ := h.cons
    obtain rfl := h1.nil
    exact ⟨n1, ⟨s, trivial⟩, by intro d hd; simp only [Ty.enc, encStr, List.mem_singleton] at hd; subst hd; exact .str k1⟩
  case lst t =>
    obtain ⟨_, _, rfl, ⟨xs, k1, k2, k3⟩, h1⟩ := h.cons
    obtain rfl := h1.nil
    refine ⟨xs, ⟨k1, trivial⟩, ?_⟩
    intro d hd
    simp only [Ty.enc, List.mem_singleton] at hd
    subst hd
    refine .lst (by simpa using k2) fun r hr => ?_
    obtain ⟨x, hx, rfl⟩ := List.mem_map.1 hr
    exact k3 x hx
  case thread =>
    obtain ⟨_, _, rfl, ⟨n1, rfl, k1⟩, h1⟩ := h.cons
    obtain ⟨_, _, rfl, ⟨n2, rfl, k2⟩, h2⟩ := h1.cons
    obtain ⟨_, _, rfl, ⟨n3, rfl, k3⟩, h3⟩ := h2.cons
    obtain ⟨_, _, rfl, ⟨n4, rfl, k4⟩, h4⟩ := h3.cons
    obtain ⟨_, _, rfl, ⟨n5, d5, l5, k5⟩, h5⟩ := h4.cons
    obtain ⟨_, _, rfl, ⟨n6, d6, l6, k6⟩, h6⟩ := h5.cons
    obtain ⟨_, _, rfl, ⟨n7, d7, l7, k7⟩, h7⟩ := h6.cons
    obtain ⟨_, _, rfl, ⟨n8, rfl, k8⟩, h8⟩ := h7.cons
    obtain ⟨_, _, rfl, ⟨n9, rfl, k9⟩, h9⟩ := h8.cons
    obtain ⟨_, _, rfl, ⟨n10, rfl, k10⟩, h10⟩ := h9.cons
    obtain ⟨_, _, rfl, ⟨n11, rfl, k11⟩, h11⟩ := h10.cons
    obtain ⟨_, _, rfl, ⟨n12, rfl, k12⟩, h12⟩ := h11.cons
    obtain ⟨_, _, rfl, ⟨n13, rfl, k13⟩, h13⟩ := h12.cons
    obtain ⟨_, _, rfl, ⟨n14, rfl, k14⟩, h14⟩ := h13.cons
    obtain ⟨_, _, rfl, ⟨n15, rfl, k15⟩, h15⟩ := h14.cons
    obtain ⟨_, _, rfl, ⟨n16, rfl, k16⟩, h16⟩ := h15.cons
    obtain ⟨_, _, rfl, ⟨n17, rfl, k17⟩, h17⟩ := h16.cons
    obtain rfl := h17.nil
    have key : ∀ {t : Ty} {xs : List t.den}, xs.length ≤ maxLen → (∀ x ∈ xs, t.Ok x) → D.Ok (.lst t.sz (xs.map t.enc)) := fun h1 h2 =>
      .lst (by simpa using h1) fun r hr => by obtain ⟨x, hx, rfl⟩ := List.mem_map.1 hr; exact h2 x hx
    refine ⟨(⟨n1, n2, ⟨n3, n4⟩, n5, n6, n7, n8, n9, n10, n11, n12, n13, n14, n15, n16, n17⟩ : Thread), ⟨i, i, i, i, d5, d6, d7, i, i, i, i, i, i, i, i, i, i, trivial⟩, ?_⟩
    have o5 := key (t := .entry) l5 k5
    have o6 := key (t := .kid) l6 k6
    have o7 := key (t := .int) l7 k7
    intro d hd
    simp only [Ty.enc, encThread, List.mem_cons, List.not_mem_nil, or_false] at hd
    rcases hd with rfl | rfl | rfl | rfl | rfl | rfl | rfl | rfl | rfl | rfl | rfl | rfl | rfl | rfl | rfl | rfl | rfl <;> first | exact .int ‹_› | exact o5 | exact o6 | exact o7
  case entry =>
    obtain ⟨_, _, rfl, ⟨n1, rfl, k1⟩, h1⟩ := h.cons
    obtain ⟨_, _, rfl, ⟨n2, rfl, k2⟩, h2⟩ := h1.cons
    obtain ⟨_, _, rfl, ⟨n3, rfl, k3⟩, h3⟩ := h2.cons
    obtain rfl := h3.nil
    refine ⟨(⟨n1, ⟨n2, n3⟩⟩ : Entry), ⟨i, i, i, trivial⟩, ?_⟩
    intro d hd
    simp only [Ty.enc, encEntry, List.mem_cons, List.not_mem_nil, or_false] at hd
    rcases hd with rfl | rfl | rfl <;> exact .int ‹_›
  case kid =>
    obtain ⟨_, _, rfl, ⟨n1, rfl, k1⟩, h1⟩ := h.cons
    obtain ⟨_, _, rfl, ⟨n2, rfl, k2⟩, h2⟩ := h1.cons
    obtain rfl := h2.nil
    refine ⟨(⟨n1, n2⟩ : Kid), ⟨i, i, trivial⟩, ?_⟩
    intro d hd
    simp only [Ty.enc, encKid, List.mem_cons, List.not_mem_nil, or_false] at hd
    rcases hd with rfl | rfl <;> exact .int ‹_›
  case mark =>
    obtain ⟨_, _, rfl, ⟨n1, rfl, k1⟩, h1⟩ := h.cons
    obtain ⟨_, _, rfl, ⟨n2, rfl, k2⟩, h2⟩ := h1.cons
    obtain ⟨_, _, rfl, ⟨n3, rfl, k3⟩, h3⟩ := h2.cons
    obtain ⟨_, _, rfl, ⟨n4, rfl, k4⟩, h4⟩ := h3.cons
    obtain ⟨_, _, rfl, ⟨n5, rfl, k5⟩, h5⟩ := h4.cons
    obtain ⟨_, _, rfl, ⟨n6, rfl, k6⟩, h6⟩ := h5.cons
    obtain rfl := h6.nil
    refine ⟨(⟨n1, n2, ⟨n3, n4⟩, n5, n6⟩ : Mark), ⟨i, i, i, i, i, i, trivial⟩, ?_⟩
    intro d hd
    simp only [Ty.enc, encMark, List.mem_cons, List.not_mem_nil, or_false] at hd
    rcases hd with rfl | rfl | rfl | rfl | rfl | rfl <;> exact .int ‹_›
  case event =>
    obtain ⟨_, _, rfl, ⟨n1, rfl, k1⟩, h1⟩ := h.cons
    obtain ⟨_, _, rfl, ⟨n2, rfl, k2⟩, h2⟩ := h1.cons
    obtain ⟨_, _, rfl, ⟨n3, rfl, k3⟩, h3⟩ := h2.cons
    obtain ⟨_, _, rfl, ⟨n4, rfl, k4⟩, h4⟩ := h3.cons
    obtain ⟨_, _, rfl, ⟨n5, rfl, k5⟩, h5⟩ := h4.cons
    obtain ⟨_, _, rfl, ⟨n6, rfl, k6⟩, h6⟩ := h5.cons
    obtain ⟨_, _, rfl, ⟨n7, rfl⟩, h7⟩ := h6.cons
    obtain ⟨_, _, rfl, ⟨n8, rfl, k8⟩, h8⟩ := h7.cons
    obtain rfl := h8.nil
    refine ⟨(⟨n1, n2, n3, ⟨n4, n5⟩, n6, n7, n8⟩ : Event), ⟨i, i, i, i, i, i, b, i, trivial⟩, ?_⟩
    intro d hd
    simp only [Ty.enc, encEvent, List.mem_cons, List.not_mem_nil, or_false] at hd
    rcases hd with rfl | rfl | rfl | rfl | rfl | rfl | rfl | rfl <;> first | exact .int ‹_› | exact .bool _
  case sentry =>
    obtain ⟨_, _, rfl, ⟨n1, rfl, k1⟩, h1⟩ := h.cons
    obtain ⟨_, _, rfl, ⟨n2, rfl, k2⟩, h2⟩ := h1.cons
    obtain ⟨_, _, rfl, ⟨n3, rfl, k3⟩, h3⟩ := h2.cons
    obtain ⟨_, _, rfl, ⟨n4, rfl, k4⟩, h4⟩ := h3.cons
    obtain ⟨_, _, rfl, ⟨n5, rfl, k5⟩, h5⟩ := h4.cons
    obtain rfl := h5.nil
    refine ⟨(⟨n1, n2, n3, ⟨n4, n5⟩⟩ : SEntry), ⟨i, i, i, i, i, trivial⟩, ?_⟩
    intro d hd
    simp only [Ty.enc, encSEntry, List.mem_cons, List.not_mem_nil, or_false] at hd
    rcases hd with rfl | rfl | rfl | rfl | rfl <;> exact .int ‹_›
  case want =>
    obtain ⟨_, _, rfl, ⟨n1, rfl, k1⟩, h1⟩ := h.cons
    obtain ⟨_, _, rfl, ⟨n2, rfl, k2⟩, h2⟩ := h1.cons
    obtain rfl := h2.nil
    refine ⟨(⟨n1, n2⟩ : Want), ⟨i, i, trivial⟩, ?_⟩
    intro d hd
    simp only [Ty.enc, encWant, List.mem_cons, List.not_mem_nil, or_false] at hd
    rcases hd with rfl | rfl <;> exact .int ‹_›
  case client =>
    obtain ⟨_, _, rfl, ⟨n1, rfl, k1⟩, h1⟩ := h.cons
    obtain ⟨_, _, rfl, ⟨n2, rfl, k2⟩, h2⟩ := h1.cons
    obtain ⟨_, _, rfl, ⟨n3, rfl, k3⟩, h3⟩ := h2.cons
    obtain ⟨_, _, rfl, ⟨n4, rfl, k4⟩, h4⟩ := h3.cons
    obtain ⟨_, _, rfl, ⟨n5, rfl, k5⟩, h5⟩ := h4.cons
    obtain ⟨_, _, rfl, ⟨n6, rfl, k6⟩, h6⟩ := h5.cons
    obtain ⟨_, _, rfl, ⟨n7, rfl, k7⟩, h7⟩ := h6.cons
    obtain rfl := h7.nil
    refine ⟨(⟨⟨n1, n2, ⟨n3, n4⟩, ⟨n5, n6⟩⟩, n7⟩ : Client), ⟨i, i, i, i, i, i, i, trivial⟩, ?_⟩
    intro d hd
    simp only [Ty.enc, encClient, List.mem_cons, List.not_mem_nil, or_false] at hd
    rcases hd with rfl | rfl | rfl | rfl | rfl | rfl | rfl <;> exact .int ‹_›
  case part =>
    obtain ⟨_, _, rfl, _, h1⟩ := h.cons
    obtain ⟨_, _, rfl, h2, _⟩ := h1.cons
    exact h2.elim
  case reply =>
    obtain ⟨_, _, rfl, ⟨n1, rfl, k1⟩, h1⟩ := h.cons
    obtain ⟨_, _, rfl, ⟨n2, rfl, k2⟩, h2⟩ := h1.cons
    obtain ⟨_, _, rfl, ⟨n3, rfl, k3⟩, h3⟩ := h2.cons
    obtain rfl := h3.nil
    refine ⟨(⟨n1, n2, n3⟩ : Reply), ⟨i, i, i, trivial⟩, ?_⟩
    intro d hd
    simp only [Ty.enc, encReply, List.mem_cons, List.not_mem_nil, or_false] at hd
    rcases hd with rfl | rfl | rfl <;> exact .int ‹_›

/-- The cells of a type. -/
def cellsCK (P : Program) (E : TypeId → Option Ty) : Nat → TypeId → Option (List CK)
  | 0, _ => none
  | n + 1, t => match P.underlying t with
    | some (.int k) => some [.int k]
    | some .bool => some [.bool]
    | some .string => some [.str]
    | some (.slice e) => match E e with | some τ => some [.lst τ] | none => none
    | some (.struct fs) => match fs.toList.foldl (fun acc f => match acc with
        | some l => bif Nat.beq f.offset l.length then
            (match cellsCK P E n f.type with
            | some r => bif Nat.beq r.length (P.cellsOf f.type) then some (l ++ r) else none
            | none => none)
            else none
        | none => none) (some []) with
      | some l => bif Nat.beq l.length (P.cellsOf t) then some l else none
      | none => none
    | _ => none

/-- What the table says of elements is so. -/
def TableOK (P : Program) (E : TypeId → Option Ty) : Prop := ∀ e τ, E e = some τ → cellsCK P E 8 e = some (ckOf τ) ∧ P.cellsOf e = τ.sz

section
variable {H : Type} {enc : TypeId × Value → H} {P : Program} {E : TypeId → Option Ty} {w : World} {spare : Nat → Bool} {held : Bool}

theorem lst_of {fuel : Nat} {e : TypeId} {τ : Ty} {t : TypeId} {cs : List Value} {x : DataW H × List MemPlace} (hc : P.cellsOf e = τ.sz)
    (ih : ∀ n, n < fuel → ∀ cs x, DataW.trod enc P w 0 spare held n e cs = some x → ∃ y : τ.den, (pcx w fun _ => True).DVs (τ.enc y) cs ∧ τ.Ok y)
    (ht : P.underlying t = some (.slice e)) (h : DataW.trod enc P w 0 spare held fuel t cs = some x) : CellsAre (pcx w fun _ => True) [.lst τ] cs := by
  rcases DataW.trod_slice ht h with ⟨rfl, _⟩ | ⟨a, len, cap, elems, rest, n, rfl, rfl, _, _, hl, hm, hlen, hel, _, _⟩
  · exact ⟨⟨[], DV.nil _ _ _ (fun _ => rfl), Nat.zero_le _, fun _ h => by cases h⟩, trivial⟩
  refine ⟨?_, trivial⟩
  cases hz : len with
  | zero => exact ⟨[], DV.nil _ _ _ (fun h => by cases h), Nat.zero_le _, fun _ h => by cases h⟩
  | succ len' =>
    rw [← hz]
    have hpos : 0 < len := by omega
    have hcells : ∀ i, i < len → ∃ cs', w.cells? 0 (a.add (i * τ.sz)) τ.sz = some cs' ∧ ∃ y : τ.den, (pcx w fun _ => True).DVs (τ.enc y) cs' ∧ τ.Ok y := by
      intro i hi
      have h1 := hel i hi
      rw [hc] at h1
      cases hw : w.cells? 0 (a.add (i * τ.sz)) τ.sz with
      | none =>
        rw [hw] at h1
        rw [List.getElem?_eq_getElem (by omega)] at h1
        cases h1
      | some cs' =>
        rw [hw, List.getElem?_eq_getElem (by omega)] at h1
        exact ⟨cs', rfl, ih n (by omega) _ _ h1⟩
    have hcell : ∀ i, i < len → ∃ cs', (∀ j u, cs'[j]? = some u → w.cell? ((a.add (i * τ.sz)).add j) = some u) ∧ ∃ y : τ.den, (pcx w fun _ => True).DVs (τ.enc y) cs' ∧ τ.Ok y := by
      intro i hi
      obtain ⟨cs', h1, y, h2⟩ := hcells i hi
      refine ⟨cs', fun j u hj => ?_, y, h2⟩
      unfold World.cells? at h1
      rw [if_pos (Nat.zero_le _)] at h1
      have hj' : j < τ.sz := by
        have hl := mapM_some_length h1
        have hj2 := (List.getElem?_eq_some_iff.1 hj).1
        simp at hl
        omega
      have h3 := mapM_some_get h1 j j (by simp [hj'])
      rw [hj] at h3
      exact h3
    have hspot : a.spot = none := by
      obtain ⟨cs', h1, y, h2, _⟩ := hcell 0 hpos
      have hlen0 : cs'.length = τ.sz := by rw [← h2.length, τ.enc_length]
      have hs := τ.sz_pos
      have h3 := h1 0 cs'[0] (List.getElem?_eq_getElem (by omega))
      rw [Nat.zero_mul] at h3
      have e : (a.add 0).add 0 = a := by simp [Addr.add]
      rw [e] at h3
      unfold World.cell? at h3
      split at h3
      · cases hsp : a.spot with
        | none => rfl
        | some s => rw [hsp] at h3; simp at h3
      · cases h3
    obtain ⟨blk, off, spot⟩ := a
    simp only at hspot
    subst hspot
    have hadd : ∀ i j, ((⟨blk, off, none⟩ : Addr).add i).add j = ⟨blk, off + (i + j), none⟩ := by
      intro i j
      rw [add_none, add_none, Nat.add_assoc]
    have hys : ∃ ys : List τ.den, ys.length = len ∧ ∀ i (hi : i < ys.length), (∀ j d, (τ.enc ys[i])[j]? = some d → ∃ u, w.cell? ⟨blk, off + (i * τ.sz + j), none⟩ = some u ∧ (pcx w fun _ => True).DV d u) ∧ τ.Ok ys[i] := by
      have : ∀ m, m ≤ len → ∃ ys : List τ.den, ys.length = m ∧ ∀ i (hi : i < ys.length), (∀ j d, (τ.enc ys[i])[j]? = some d → ∃ u, w.cell? ⟨blk, off + (i * τ.sz + j), none⟩ = some u ∧ (pcx w fun _ => True).DV d u) ∧ τ.Ok ys[i] := by
        intro m
        induction m with
        | zero => intro _; exact ⟨[], rfl, fun i hi => by simp at hi⟩
        | succ m ihm =>
          intro hm'
          obtain ⟨ys, hy1, hy2⟩ := ihm (by omega)
          obtain ⟨cs', h1, y, h2, h3⟩ := hcell m (by omega)
          refine ⟨ys ++ [y], by simp [hy1], fun i hi => ?_⟩
          by_cases hi' : i < ys.length
          · have e : (ys ++ [y])[i] = ys[i] := List.getElem_append_left hi'
            rw [e]
            exact hy2 i hi'
          · have hi2 : i = m := by simp at hi; omega
            subst hi2
            have e : (ys ++ [y])[i] = y := by
              rw [List.getElem_append_right (by omega)]
              simp [hy1]
            rw [e]
            refine ⟨fun j d hd => ?_, h3⟩
            obtain ⟨u, hu1, hu2⟩ := h2.get j d hd
            refine ⟨u, ?_, hu2⟩
            have := h1 j u hu1
            rw [hadd] at this
            exact this
      exact this len (Nat.le_refl _)
    obtain ⟨ys, hy1, hy2⟩ := hys
    refine ⟨ys, ?_, by omega, fun x hx => ?_⟩
    · have hget : ∀ j d, (ys.map τ.enc).flatten[j]? = some d → ∃ u, w.cell? ⟨blk, off + j, none⟩ = some u ∧ (pcx w fun _ => True).DV d u := by
        intro j d hj
        have hs := τ.sz_pos
        have hlt : j < ys.length * τ.sz := by
          have := (List.getElem?_eq_some_iff.1 hj).1
          rw [flatten_length] at this
          exact this
        have hq : j / τ.sz < ys.length := (Nat.div_lt_iff_lt_mul hs).2 hlt
        have hr : j % τ.sz < τ.sz := Nat.mod_lt _ hs
        have he := flatten_seg τ ys (j / τ.sz) (j % τ.sz) ys[j / τ.sz] (List.getElem?_eq_getElem hq) hr
        have hdm : j / τ.sz * τ.sz + j % τ.sz = j := by rw [Nat.mul_comm]; exact Nat.div_add_mod j τ.sz
        rw [hdm, hj] at he
        obtain ⟨u, hu1, hu2⟩ := (hy2 _ hq).1 _ d he.symm
        rw [hdm] at hu1
        exact ⟨u, hu1, hu2⟩
      have hok : (pcx w fun _ => True).okb blk := by
        refine ⟨trivial, ?_, fun _ => by simp [pcx]⟩
        have hs := τ.sz_pos
        have h0 : 0 < (ys.map τ.enc).flatten.length := by rw [flatten_length, hy1]; exact Nat.mul_pos hpos hs
        obtain ⟨u, hu, _⟩ := hget 0 _ (List.getElem?_eq_getElem h0)
        unfold World.cell? at hu
        split at hu
        · rename_i hh
          exact (Array.getElem?_eq_some_iff.1 hh).1
        · cases hu
      have key := DV.lst (w := w) (ok := (pcx w fun _ => True).okb) τ.sz (ys.map τ.enc) blk off cap (fun j => (w.cell? ⟨blk, off + j, none⟩).getD undef) (by simp; omega)
        (fun r hr => by obtain ⟨x, _, rfl⟩ := List.mem_map.1 hr; exact τ.enc_length x)
        (fun j d hj => by obtain ⟨u, hu, _⟩ := hget j d hj; rw [hu]; rfl)
        (fun j d hj => by obtain ⟨u, hu, hv⟩ := hget j d hj; rw [hu]; exact hv) hok
      rw [List.length_map, hy1] at key
      exact key
    · obtain ⟨i, hi, rfl⟩ := List.getElem_of_mem hx
      exact (hy2 i hi).2

theorem cells_of (hE : TableOK P E) : ∀ (fuel n : Nat) (t : TypeId) (l : List CK) (cs : List Value) (x : DataW H × List MemPlace), cellsCK P E n t = some l → DataW.trod enc P w 0 spare held fuel t cs = some x →
    CellsAre (pcx w fun _ => True) l cs := by
  intro fuel
  induction fuel using Nat.strongRecOn with
  | _ fuel ihf =>
  intro n
  induction n generalizing fuel with
  | zero => intro t l cs x h; cases h
  | succ n ihn =>
    intro t l cs x h hx
    simp only [cellsCK] at h
    split at h
    · rename_i k hu
      obtain rfl := Option.some.inj h
      obtain ⟨m, rfl, _, hw⟩ := DataW.trod_int hu hx
      exact ⟨⟨m, rfl, hw⟩, trivial⟩
    · rename_i hu
      obtain rfl := Option.some.inj h
      obtain ⟨m, rfl, _⟩ := DataW.trod_bool hu hx
      exact ⟨⟨m, rfl⟩, trivial⟩
    · rename_i hu
      obtain rfl := Option.some.inj h
      obtain ⟨m, rfl, _, hw⟩ := DataW.trod_string hu hx
      exact ⟨⟨m, rfl, hw⟩, trivial⟩
    · rename_i e hu
      split at h
      · rename_i τ he
        obtain rfl := Option.some.inj h
        obtain ⟨hk, hsz⟩ := hE e τ he
        exact lst_of hsz (fun m hm cs x hx => elem_of τ (ihf m hm 8 e _ cs x hk hx)) hu hx
      · cases h
    · rename_i fs hu
      split at h
      case h_2 => cases h
      rename_i l1 hl1
      cases hll : Nat.beq l1.length (P.cellsOf t) with
      | false => rw [hll] at h; cases h
      | true =>
      rw [hll] at h
      obtain rfl := Option.some.inj h
      have hll := Nat.eq_of_beq_eq_true hll
      have h := hl1
      obtain ⟨xs, m, rfl, _, hlen, hxl, hf⟩ := DataW.trod_struct hu hx
      have key : ∀ (r pre : List Field) (l0 l : List CK), fs.toList = pre ++ r → CellsAre (pcx w fun _ => True) l0 (cs.take l0.length) →
          (r.foldl (fun acc f => match acc with
            | some l => bif Nat.beq f.offset l.length then
                (match cellsCK P E n f.type with
                | some r => bif Nat.beq r.length (P.cellsOf f.type) then some (l ++ r) else none
                | none => none)
                else none
            | none => none) (some l0)) = some l → CellsAre (pcx w fun _ => True) l (cs.take l.length) := by
        intro r
        induction r with
        | nil =>
          intro pre l0 l _ h0 h
          obtain rfl := Option.some.inj h
          exact h0
        | cons f r ihr =>
          intro pre l0 l hp h0 h
          simp only [List.foldl_cons] at h
          have hnone : ∀ (r : List Field), r.foldl (fun acc f => match acc with
            | some l => bif Nat.beq f.offset l.length then
                (match cellsCK P E n f.type with
                | some r => bif Nat.beq r.length (P.cellsOf f.type) then some (l ++ r) else none
                | none => none)
                else none
            | none => none) (none : Option (List CK)) = none := by
            intro r
            induction r with
            | nil => rfl
            | cons f r ih => simpa using ih
          cases ho : Nat.beq f.offset l0.length with
          | false => rw [ho] at h; simp only [cond_false] at h; rw [hnone] at h; cases h
          | true =>
            rw [ho] at h
            simp only [cond_true] at h
            have ho := Nat.eq_of_beq_eq_true ho
            cases hc : cellsCK P E n f.type with
            | none => rw [hc] at h; simp only at h; rw [hnone] at h; cases h
            | some q =>
              rw [hc] at h
              simp only at h
              cases hb : Nat.beq q.length (P.cellsOf f.type) with
              | false => rw [hb] at h; simp only [cond_false] at h; rw [hnone] at h; cases h
              | true =>
                rw [hb] at h
                simp only [cond_true] at h
                have hb := Nat.eq_of_beq_eq_true hb
                have hi : fs[pre.length]? = some f := by
                  have : fs.toList[pre.length]? = some f := by rw [hp]; simp
                  simpa using this
                have h1 := hf _ f hi
                have hlt : pre.length < xs.length := by
                  have := (Array.getElem?_eq_some_iff.1 hi).1
                  omega
                rw [List.getElem?_eq_getElem hlt] at h1
                have h2 := ihn m (fun k hk => ihf k (by omega)) f.type q _ _ hc h1
                refine ihr (pre ++ [f]) (l0 ++ q) l (by rw [hp]; simp) ?_ h
                rw [ho, ← hb] at h2
                have hsplit : cs.take (l0 ++ q).length = cs.take l0.length ++ (cs.drop l0.length).take q.length := by
                  rw [List.length_append, List.take_add]
                rw [hsplit]
                exact h0.append h2
      have h3 := key fs.toList [] [] l1 rfl trivial h
      rw [List.take_of_length_le (by omega)] at h3
      exact h3
    · cases h

/-- A value that is plain data, its numbers of their kinds. -/
def AV.Ok : AV → Prop
  | .int k n => (Lit.int k n).wf = true
  | .bool _ => True
  | .str s => s.size ≤ maxLen
  | .lst τ xs => xs.length ≤ maxLen ∧ ∀ x ∈ xs, τ.Ok x
  | _ => False

/-- Cells of those kinds are a value of that type. -/
def Cel.Opens (c : Cel) (l : List CK) : Prop := ∀ (k : Cx) (cs : List Value), CellsAre k l cs → ∃ x, VL k (c.enc x) cs ∧ ∀ v ∈ c.enc x, v.Ok

theorem opens_int (k : IntKind) : (celInt k).Opens [.int k] := by
  intro c cs h
  obtain ⟨_, _, rfl, ⟨n, rfl, hn⟩, h1⟩ := h.cons
  obtain rfl := h1.nil
  exact ⟨n, ⟨rfl, trivial⟩, by intro v hv; obtain rfl := List.mem_singleton.1 hv; exact hn⟩
theorem opens_bool : celBool.Opens [.bool] := by
  intro c cs h
  obtain ⟨_, _, rfl, ⟨n, rfl⟩, h1⟩ := h.cons
  obtain rfl := h1.nil
  exact ⟨n, ⟨rfl, trivial⟩, by intro v hv; obtain rfl := List.mem_singleton.1 hv; trivial⟩
theorem opens_str : celStr.Opens [.str] := by
  intro c cs h
  obtain ⟨_, _, rfl, ⟨n, rfl, hn⟩, h1⟩ := h.cons
  obtain rfl := h1.nil
  exact ⟨n, ⟨rfl, trivial⟩, by intro v hv; obtain rfl := List.mem_singleton.1 hv; exact hn⟩
theorem opens_lst (τ : Ty) : (celLst τ).Opens [.lst τ] := by
  intro c cs h
  obtain ⟨_, _, rfl, ⟨xs, h1, h2, h3⟩, h4⟩ := h.cons
  obtain rfl := h4.nil
  exact ⟨xs, ⟨h1, trivial⟩, by intro v hv; obtain rfl := List.mem_singleton.1 hv; exact ⟨h2, h3⟩⟩
theorem opens_app {a b : Cel} {l m : List CK} (ha : a.Opens l) (hb : b.Opens m) : (celApp a b).Opens (l ++ m) := by
  intro c cs h
  obtain ⟨us, ws, rfl, h1, h2⟩ := h.split
  obtain ⟨x, x1, x2⟩ := ha c us h1
  obtain ⟨y, y1, y2⟩ := hb c ws h2
  refine ⟨(x, y), x1.append y1, fun v hv => ?_⟩
  rcases List.mem_append.1 hv with hv | hv
  · exact x2 v hv
  · exact y2 v hv
theorem opens_as {a : Cel} {l : List CK} {X : Type} {f : a.α → X} {g : X → a.α} {h : ∀ y, g (f y) = y} (ha : a.Opens l) : (celAs a X f g h).Opens l := by
  intro c cs hc
  obtain ⟨x, x1, x2⟩ := ha c cs hc
  refine ⟨f x, ?_, ?_⟩
  · show VL c (a.enc (g (f x))) cs
    rw [h]; exact x1
  · show ∀ v ∈ a.enc (g (f x)), v.Ok
    rw [h]; exact x2

/-- An argument is a value of that type. -/
def ArgIs (w : World) (v : Val) (u : Value) (x : v.α) : Prop := V (pcx w fun _ => True) (v.enc x) u

/-- What is known of it. -/
def Val.Ok (v : Val) (x : v.α) : Prop := match v.enc x with | .agg cs => ∀ y ∈ cs, y.Ok | y => y.Ok

theorem arg_st {c : Cel} {l : List CK} (hE : TableOK P E) {t : TypeId} {u : Value} {d : DataW H} {p : List MemPlace} {base : Nat} {fs : Array Field} (ho : c.Opens l) (hu : P.underlying t = some (.struct fs))
    (hc : cellsCK P E 8 t = some l) (hw : Value.okWide P w .any base t u) (h : DataW.Trod enc P w 0 spare held t u d p) : ∃ x, ArgIs w (valSt c) u x ∧ (valSt c).Ok x := by
  unfold Value.okWide at hw
  rw [hu] at hw
  obtain ⟨cs, rfl, _⟩ := hw
  obtain ⟨fuel, hf⟩ := h
  obtain ⟨x, h1, h2⟩ := ho _ _ (cells_of hE fuel 8 t l _ _ hc hf)
  exact ⟨x, ⟨cs, rfl, h1⟩, h2⟩

theorem arg_one {v : Val} {k : CK} (hE : TableOK P E) {t : TypeId} {u : Value} {d : DataW H} {p : List MemPlace} {base : Nat} (hc : cellsCK P E 8 t = some [k])
    (ho : ∀ c u, CellIs c k u → ∃ x, V c (v.enc x) u ∧ v.Ok x) (hns : ∀ fs, P.underlying t ≠ some (.struct fs)) (hna : ∀ n e, P.underlying t ≠ some (.array n e))
    (hw : Value.okWide P w .any base t u) (h : DataW.Trod enc P w 0 spare held t u d p) : ∃ x, ArgIs w v u x ∧ v.Ok x := by
  obtain ⟨fuel, hf⟩ := h
  have h1 := cells_of hE fuel 8 t [k] _ _ hc hf
  obtain ⟨y, r, hy, hk, hr⟩ := h1.cons
  obtain rfl := hr.nil
  have hu : u = y := by
    have key : ∀ cs : Array Value, u ≠ .agg cs := by
      rintro cs rfl
      unfold Value.okWide at hw
      split at hw
      · rename_i fs hu; exact hns fs hu
      · rename_i n e hu; exact hna n e hu
      · unfold Cell.okWide at hw
        split at hw <;> first
          | (rename_i h1 h2; cases h2; done)
          | (rename_i h2; cases h2; done)
          | skip
        unfold Cell.ok at hw
        split at hw <;> first
          | (rename_i h1 h2; cases h2; done)
          | (rename_i h2; cases h2; done)
          | exact hw.elim
    have hc : u.cells = #[u] := by
      cases u <;> first | rfl | exact (key _ rfl).elim
    rw [hc] at hy
    exact (List.cons.inj hy).1
  subst hu
  exact ho _ _ hk

theorem one_int (k : IntKind) : ∀ c u, CellIs c (.int k) u → ∃ x, V c ((valInt k).enc x) u ∧ (valInt k).Ok x := by
  rintro c u ⟨n, rfl, hn⟩
  exact ⟨n, rfl, hn⟩
theorem one_bool : ∀ c u, CellIs c .bool u → ∃ x, V c (valBool.enc x) u ∧ valBool.Ok x := by
  rintro c u ⟨n, rfl⟩
  exact ⟨n, rfl, trivial⟩
theorem one_str : ∀ c u, CellIs c .str u → ∃ x, V c (valStr.enc x) u ∧ valStr.Ok x := by
  rintro c u ⟨n, rfl, hn⟩
  exact ⟨n, rfl, hn⟩
theorem one_lst (τ : Ty) : ∀ c u, CellIs c (.lst τ) u → ∃ x, V c ((valLst τ).enc x) u ∧ (valLst τ).Ok x := by
  rintro c u ⟨xs, h1, h2, h3⟩
  exact ⟨xs, h1, h2, h3⟩

end
end Go.Proofs.Mill

/- What a program that was cut says of itself in its head. -/
namespace Go.Proofs.Mill

theorem strip_cut (rest : List (List Char)) : stripLifts liftWords ("cut".toList :: rest) = ([], "cut".toList :: rest) := by kernel_rfl

theorem enter_cut {P : Program} {rest : List (List Char)} (hb : behindMainWord (wordsSigns P.initOrder.toList) = "cut".toList :: rest) (h1 : P.laysLater = false) (h2 : P.bearsReflect = false) (h3 : P.doorRows = []) : P.mayEnter = true := by
  unfold Program.mayEnter
  rw [hb]
  simp only [strip_cut, Program.doorFits, h1, h2, h3]
  have e1 : ("cut".toList == "gc".toList) = false := by kernel_rfl
  have e2 : ("cut".toList == "spec".toList) = false := by kernel_rfl
  have e3 : ("cut".toList == "carried".toList) = false := by kernel_rfl
  rw [e1, e2, e3]
  simp

theorem head_cut {P : Program} {rest : List (List Char)} (hb : behindMainWord (wordsSigns P.initOrder.toList) = "cut".toList :: rest) : P.headLifts = [] := by
  unfold Program.headLifts
  rw [hb, strip_cut]
  simp

theorem lifts_cut {P : Program} {rest : List (List Char)} (hb : behindMainWord (wordsSigns P.initOrder.toList) = "cut".toList :: rest) : P.liftsFinal = false := by
  unfold Program.liftsFinal
  rw [hb, head_cut hb]
  have e3 : (("cut".toList :: rest).head? == some "carried".toList) = false := by kernel_rfl
  simp only [e3]
  simp

theorem make_cut {P : Program} {rest : List (List Char)} (hb : behindMainWord (wordsSigns P.initOrder.toList) = "cut".toList :: rest) : P.make = some .cut := by
  unfold Program.make
  rw [hb]
  have e1 : ("cut".toList == "gc".toList) = false := by kernel_rfl
  have e2 : ("cut".toList == "spec".toList) = false := by kernel_rfl
  simp only [e1, e2, beq_self_eq_true, Bool.false_or, Bool.true_or, if_true]
  simp

/-- The closed facts of a row, one by one. -/
theorem joined_of {P : Program} {f : FuncId} {fn : Func} {s : ChangeSpec} {c : OpenClaim} {rest : List (List Char)} (hb : behindMainWord (wordsSigns P.initOrder.toList) = "cut".toList :: rest)
    (h1 : P.laysLater = false) (h2 : P.bearsReflect = false) (h3 : P.doorRows = []) (hl : laidOutB P = true) (hm : mapsRowed P = true) (hs : P.stopsHeard = true) (hp : P.plainKeys = true) (hst : P.stops = []) (hkn : P.stopKnobs = [])
    (a1 : c.wf (OpenSpec.ofChange s) = true) (a2 : fn.params.all (P.readableRec ·) = true) (a3 : namedTie P c.named s.vars = true) (a4 : c.stops = []) (a5 : c.knobs = [])
    (a6 : (c.inPlace == P.inPlace f) = true) (a7 : (c.unfollowed == P.unfollowed f) = true) (a8 : (c.recurses == P.recurses f) = true) (a9 : (c.named == P.varsNamed f) = true)
    (a10 : ((c.maps == (fn.params.toList ++ s.plain.varTypes P).any (P.mapsRec ·)) && (c.ifaces == (fn.params.toList ++ s.plain.varTypes P).any (P.ifacesRec ·)) && (c.mapsOut == P.mapsAmong fn.resultTypes.toList)) = true)
    (a11 : ((c.loops == (fn.params.toList ++ s.plain.varTypes P).any (P.loopsFrom ·)) && (c.wideKeys == (fn.params.toList ++ s.plain.varTypes P ++ fn.resultTypes.toList).any (P.wideKeysFrom ·))) = true)
    (a12 : (s.vars.all (P.varReadable ·) && fn.resultTypes.all (fun t => P.readableRec t && decide (t < P.types.size)) && (c.ifacesOut == fn.resultTypes.toList.any (P.ifacesRec ·)) && (c.loopsOut == fn.resultTypes.toList.any (P.loopsFrom ·))) = true)
    (a13 : c.plainKeys = true) (a14 : c.shortTexts.isNone = true) (a15 : c.lifted = false) (a16 : c.make = .cut)
    (a17 : ((c.kinds == (if c.domain.isEmpty then [] else fn.params.toList.map fun t => match P.underlying t with | some (.int k) => some k | _ => none)) && (c.pinned == c.pinnedBy)) = true)
    (a18 : ((c.veiled == (fn.params.toList ++ s.plain.varTypes P ++ fn.resultTypes.toList).any (P.veiledRec ·)) && c.veiledFits P fn.params.toList (fn.params.toList ++ s.plain.varTypes P ++ fn.resultTypes.toList)) = true) : joinedFacts P f fn s c = true := by
  have b1 := enter_cut hb h1 h2 h3
  have b2 := lifts_cut hb
  have b3 := make_cut hb
  simp only [Bool.and_eq_true] at a10 a11 a12 a17 a18
  unfold joinedFacts
  simp only [Bool.and_eq_true]
  rw [a4, a5, hst, hkn, b1, b2, b3, a13, hp, a15, a16]
  exact ⟨⟨⟨⟨⟨⟨⟨⟨⟨⟨⟨⟨⟨⟨⟨⟨⟨⟨⟨⟨⟨⟨⟨⟨⟨⟨⟨⟨⟨⟨⟨a1, hl⟩, hm⟩, a2⟩, a3⟩, by rfl⟩, by rfl⟩, by rfl⟩, by rfl⟩, a6⟩, a7⟩, a8⟩, a9⟩, a10.1.1⟩, a10.1.2⟩, a10.2⟩, a11.1⟩, a11.2⟩, a12.1.1.1⟩, a12.1.1.2⟩, a12.1.2⟩, a12.2⟩, by rfl⟩, a14⟩, hs⟩, rfl⟩, by rfl⟩, by simp⟩, a17.1⟩, a17.2⟩, a18.1⟩, a18.2⟩

end Go.Proofs.Mill
