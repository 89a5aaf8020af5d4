/- Functions: results, calls that are walked into, and what a function answers. -/
import Derived.Test.YtcokmmhkajmkhaaMillCode
set_option linter.all false
namespace Go.Proofs.Mill
variable {ds : List Deferred}
open Go.RowKit

section
variable {V : Env} {J : Cx → Prop} {w0 w : World} {ok : Nat → Prop} {nt fid rounds : Nat} {σ τ : St} {a : Act} {mu : Nat → Option Nat}

def resM (a : Act) : ResultVar → Sem Value
  | .tmp t => pure (a.tmps.getD t undef)
  | .cell b t => do loadVar t (← asAddr (a.tmps.getD b undef))

theorem rdAt_ptr {α : Type} {k : AV → Rd α} {r : α} {t : TypeId} {p : AV} {pv : Value} {c : Cx} (h : (rdAt V t p k).val σ = some r) (hp : Mill.V c p pv) : ∃ x, pv = .pointer (some x) := by
  cases p <;> try (simp [rdAt, Rd.val] at h; done)
  case ptr => exact PtrV.some hp
  case eptr => exact EptrV.some hp
  case lptr => obtain ⟨_, b, o, _, rfl, _⟩ := hp; exact ⟨_, rfl⟩

theorem resRd_ok {α : Type} (hr : R w0 ok nt ds σ a w mu) : ∀ (l : List ResultVar) (k : List AV → Rd α) (r : α), (resRd V l k).val σ = some r →
    ∃ vs us, (k vs).val σ = some r ∧ (l.mapM (resM a)).run V.P w = .ok us w ∧ VL (cx w σ.ob mu ok) vs us
  | [], k, r, h => ⟨[], [], h, by simp, trivial⟩
  | .tmp t :: l, k, r, h => by
    obtain ⟨vs, us, h1, h2, h3⟩ := resRd_ok hr l _ r (show (resRd V l fun vs => k (look σ.tm t :: vs)).val σ = some r from h)
    refine ⟨_ :: vs, a.tmps.getD t undef :: us, h1, ?_, V_operand hr (.tmp t), h3⟩
    simp [List.mapM_cons, resM, h2]
  | .cell b t :: l, k, r, h => by
    have h : (rdAt V t (look σ.tm b) fun v => resRd V l fun vs => k (v :: vs)).val σ = some r := h
    obtain ⟨x, hx⟩ := rdAt_ptr h (V_operand hr (.tmp b))
    obtain ⟨v, u, h1, h2, h3⟩ := rdAt_ok h hr.mem (V_operand hr (.tmp b))
    obtain ⟨vs, us, h4, h5, h6⟩ := resRd_ok hr l _ r h1
    refine ⟨v :: vs, u :: us, h4, ?_, h3, h6⟩
    have hx' : a.tmps.getD b undef = .pointer (some x) := hx
    have h2' : (loadVar t x).run V.P w = .ok u w := by
      rw [show a.eval (.tmp b) = .pointer (some x) from hx] at h2
      simpa [Instr.loadAt, Instr.sureAddr] using h2
    simp [List.mapM_cons, resM, hx', asAddr, h2', h5]

theorem results_ok {fn : Func} {v : AV} (hr : R w0 ok nt ds σ a w mu) (h : (resRd V fn.results.toList fun vs => .ret (resOf vs)).val σ = some v) :
    ∃ u, (results fn a.tmps).run V.P w = .ok u w ∧ Mill.V (cx w σ.ob mu ok) v u := by
  obtain ⟨vs, us, h1, h2, h3⟩ := resRd_ok hr _ _ _ h
  have h1 := val_ret h1
  subst h1
  have e : results fn a.tmps = (List.toArray <$> fn.results.toList.mapM (resM a)) >>= fun vs => pure (if h : vs.size = 1 then vs[0] else .tuple vs) := by
    unfold results
    rw [Array.mapM_eq_mapM_toList]
    congr 2
    first
      | done
      | (congr 1; funext x; cases x <;> rfl)
      | (funext x; cases x <;> rfl)
  refine ⟨if h : us.toArray.size = 1 then us.toArray[0] else .tuple us.toArray, ?_, ?_⟩
  · rw [e]
    simp [h2]
  · unfold resOf
    split
    · rename_i v
      obtain ⟨u, us', rfl, hv, hn⟩ := VL_cons h3
      rw [VL_nil hn]
      exact hv
    · rename_i hne
      have hl := h3.length
      rw [dif_neg]
      · exact ⟨us.toArray, rfl, h3⟩
      · intro h1
        have h1 : us.length = 1 := by simpa using h1
        rw [← hl] at h1
        obtain ⟨x, hx⟩ := List.length_eq_one_iff.1 h1
        exact hne x hx

theorem look_params : ∀ (args : List AV) (i t : Nat), look (paramsFrom i args) t = if i ≤ t then args.getD (t - i) .undef else .undef
  | [], i, t => by simp [paramsFrom, look]
  | v :: args, i, t => by
    show look ((i, v) :: paramsFrom (i + 1) args) t = _
    by_cases e : i = t
    · subst e; rw [look_eq]; simp
    · rw [look_ne _ _ e, look_params args (i + 1) t]
      by_cases h : i ≤ t
      · rw [if_pos (by omega), if_pos h]
        have : t - i = (t - (i + 1)) + 1 := by omega
        rw [this]
        simp
      · rw [if_neg (by omega), if_neg h]

theorem params_R {args : List AV} {vals : Array Value} {ob : List (Nat × AV)} (hm : Mem w0 (cx w ob mu ok)) (hv : VL (cx w ob mu ok) args vals.toList) (hl : args.length ≤ nt) :
    R w0 ok nt [] ⟨paramsFrom 0 args, ob⟩ { tmps := vals ++ Array.replicate (nt - vals.size) undef, defers := [] } w mu := by
  have hlen : args.length = vals.size := by have := hv.length; simpa using this
  refine ⟨hm, fun t ht => ?_, fun t ht => ?_, ?_, rfl⟩
  · show Mill.V _ (look (paramsFrom 0 args) t) ((vals ++ Array.replicate (nt - vals.size) undef).getD t undef)
    rw [look_params, if_pos (Nat.zero_le _), Nat.sub_zero]
    by_cases h : t < args.length
    · obtain ⟨u, hu, huv⟩ := hv.get t args[t] (List.getElem?_eq_getElem h)
      have e1 : args.getD t .undef = args[t] := by simp [List.getD_eq_getElem?_getD, h]
      have e2 : (vals ++ Array.replicate (nt - vals.size) undef).getD t undef = u := by
        rw [Array.getD_eq_getD_getElem?, Array.getElem?_append_left (by omega)]
        have : vals[t]? = some u := by simpa using hu
        rw [this]; rfl
      rw [e1, e2]
      exact huv
    · rw [List.getD_eq_getElem?_getD, List.getElem?_eq_none (by omega)]
      trivial
  · show look (paramsFrom 0 args) t = .undef
    rw [look_params, if_pos (Nat.zero_le _), List.getD_eq_getElem?_getD, List.getElem?_eq_none (by omega)]
    rfl
  · simp; omega

/-- **A function's run.** -/
theorem fnK_ok {ρ : Type} {L : Nat → Option LSpec} {inl : Inl ρ} {f : FuncId} {args : List AV} {ob : List (Nat × AV)} {k : AV → List (Nat × AV) → Option ρ} {r : ρ} {vals : Array Value}
    (hG : GoodEnv V) (hI : InlOK V inl) (hJ : Stays J) (hLJ : ∀ id s, L id = some s → ∀ c, J c)
    (hL : ∀ fn c, V.P.funcs[f]? = some fn → fn.body = some c → ∀ c' ∈ loopsOf c, ∀ s, L (firstRegion c') = some s → LoopOK V fn.ntmps s c')
    (hm : Mem w0 (cx w ob mu ok)) (hv : VL (cx w ob mu ok) args vals.toList) (hj : J (cx w ob mu ok)) (h : fnK V L inl rounds f fid args ob k = some r) :
    Calls V.P f vals w fun e w' => ∃ v u ob' mu', e = .returned u ∧ Mem w0 (cx w' ob' mu' ok) ∧ J (cx w' ob' mu' ok) ∧ Mill.V (cx w' ob' mu' ok) v u ∧ k v ob' = some r := by
  unfold fnK at h
  split at h
  case h_2 => cases h
  rename_i fn hf
  split at h
  case h_2 => cases h
  rename_i c hc
  cases hle : Nat.ble args.length fn.ntmps with
  | false => rw [hle] at h; cases h
  | true =>
    rw [hle] at h
    simp only [cond_true] at h
    have hle := Nat.le_of_ble_eq_true hle
    refine calls_of_wp hf hc (evK_ok hG hI hJ hLJ c (hL fn c hf hc) ⟨mu, params_R hm hv hle, hj⟩ h fun e σ' a' w' hh' h' => ?_)
    obtain ⟨mu', hr', hj'⟩ := hh'
    have fin : (resRd V fn.results.toList fun vs => .ret (resOf vs)).runK σ' [] (fun v _ => k v σ'.ob) = some r → a'.defers = [] ∧ ∃ u, (results fn a'.tmps).run V.P w' = .ok u w' ∧
        ∃ v u' ob' mu', Ending.returned u = .returned u' ∧ Mem w0 (cx w' ob' mu' ok) ∧ J (cx w' ob' mu' ok) ∧ Mill.V (cx w' ob' mu' ok) v u' ∧ k v ob' = some r := by
      intro h
      obtain ⟨v, _, h1, h2⟩ := Rd.runK_val h
      obtain ⟨u, hu, huv⟩ := results_ok hr' h1
      exact ⟨hr'.defers, u, hu, v, u, σ'.ob, mu', rfl, hr'.mem, hj', huv, h2⟩
    cases e with
    | normal => exact fin h'
    | ret => exact fin h'
    | exit id => cases h'
    | goto l => cases h'

theorem loops_none {f : FuncId} : ∀ fn c, V.P.funcs[f]? = some fn → fn.body = some c → ∀ c' ∈ loopsOf c, ∀ s, (fun _ => none : Nat → Option LSpec) (firstRegion c') = some s → LoopOK V fn.ntmps s c' :=
  fun _ _ _ _ _ _ _ h => by cases h

/-- **Calls that are walked into.** -/
theorem inlK_ok {ρ : Type} (hG : GoodEnv V) : ∀ (d : Nat), InlOK V (inlK (ρ := ρ) V rounds d)
  | 0 => fun _ _ _ _ _ _ h => by cases h
  | d + 1 => fun f fid args ob k r h => by
    simp only [inlK] at h
    cases he : V.ent f with
    | false => rw [he] at h; cases h
    | true =>
      rw [he] at h
      simp only [cond_true] at h
      refine ⟨hG.2.2.1 f he, fun w0 ok w mu vals hm hv => ?_⟩
      exact fnK_ok (J := fun c => Mono (cx w ob mu ok) c) hG (inlK_ok hG d) (fun c c' h1 h2 => h1.trans h2) (fun id s hs => by cases hs) loops_none hm hv (Mono.refl _) h

theorem Stays.triv : Stays T := fun _ _ _ _ => trivial

theorem expoVal_moves {κ : Kd} {v x : AV} {ob ob' : List (Nat × AV)} (h : expoVal κ v ob = some (x, ob')) (id : Nat) :
    ∃ os, Moves [v] [(impVal id x).1] ob ob' (impVal id x).2.1 os := by
  unfold expoVal at h
  split at h
  · split at h
    case h_2 => cases h
    split at h
    case h_2 => cases h
    rename_i xs ob1 hx
    simp only [Option.some.injEq, Prod.mk.injEq] at h
    obtain ⟨rfl, rfl⟩ := h
    obtain ⟨os, m⟩ := expoCells_moves hx id
    exact ⟨os, m.agg⟩
  · obtain ⟨os, m⟩ := expoCell_moves h id
    have hx : (impVal id x).1 = (impCell id x).1 ∧ (impVal id x).2.1 = (impCell id x).2.1 := by
      unfold expoCell at h
      repeat' (split at h)
      all_goals first
        | (cases h; done)
        | (simp only [Option.some.injEq, Prod.mk.injEq] at h; obtain ⟨rfl, _⟩ := h; exact ⟨rfl, rfl⟩)
        | (generalize Nat.beq _ _ = b at h
           cases b
           · cases h
           · simp only [cond_true, Option.some.injEq, Prod.mk.injEq] at h; obtain ⟨rfl, _⟩ := h; exact ⟨rfl, rfl⟩)
    rw [hx.1, hx.2]
    exact ⟨os, m⟩

theorem expoVals_moves : ∀ {ks : List Kd} {vs xs : List AV} {ob ob' : List (Nat × AV)}, expoVals ks vs ob = some (xs, ob') → ∀ id, ∃ os, Moves vs (impVals id xs).1 ob ob' (impVals id xs).2.1 os
  | [], [], xs, ob, ob', h, id => by
    simp only [expoVals, Option.some.injEq, Prod.mk.injEq] at h
    obtain ⟨rfl, rfl⟩ := h
    exact ⟨[], Moves.nil _⟩
  | κ :: ks, v :: vs, xs, ob, ob', h, id => by
    simp only [expoVals] at h
    split at h
    case h_2 => cases h
    rename_i x ob1 h1
    split at h
    case h_2 => cases h
    rename_i xs' ob2 h2
    simp only [Option.some.injEq, Prod.mk.injEq] at h
    obtain ⟨rfl, rfl⟩ := h
    obtain ⟨os1, m1⟩ := expoVal_moves h1 id
    obtain ⟨os2, m2⟩ := expoVals_moves h2 (impVal id x).2.2
    exact ⟨os1 ++ os2, m1.append m2⟩
  | [], _ :: _, _, _, _, h, _ => by simp [expoVals] at h
  | _ :: _, [], _, _, _, h, _ => by simp [expoVals] at h

theorem expoRes_moves {ks : List Kd} {v r : AV} {ob : List (Nat × AV)} (h : expoRes ks v ob = some r) (id : Nat) : ∃ ob' os, Moves [v] [(impRes id r).1] ob ob' (impRes id r).2 os := by
  unfold expoRes at h
  split at h
  · split at h
    case h_2 => cases h
    rename_i xs ob1 hx
    obtain rfl := Option.some.inj h
    obtain ⟨os, m⟩ := expoVals_moves hx id
    exact ⟨ob1, os, m.tup⟩
  · rename_i hnt
    split at h
    case h_2 => cases h
    rename_i κ
    split at h
    case h_2 => cases h
    rename_i x ob1 hx
    obtain rfl := Option.some.inj h
    obtain ⟨os, m⟩ := expoVal_moves hx id
    have hx' : (impRes id x).1 = (impVal id x).1 ∧ (impRes id x).2 = (impVal id x).2.1 := by
      have : ∀ cs, x ≠ .tup cs := by
        rintro cs rfl
        unfold expoVal expoCell at hx
        repeat' (split at hx)
        all_goals first
          | (cases hx; done)
          | (simp only [Option.some.injEq, Prod.mk.injEq] at hx; cases hx.1; done)
          | (simp only [Option.some.injEq, Prod.mk.injEq] at hx; exact hnt _ hx.1.symm)
          | (generalize Nat.beq _ _ = b at hx
             cases b
             · cases hx
             · simp only [cond_true, Option.some.injEq, Prod.mk.injEq] at hx; cases hx.1)
      cases x <;> first | exact ⟨rfl, rfl⟩ | exact (this _ rfl).elim
    rw [hx'.1, hx'.2]
    exact ⟨ob1, os, m⟩

/-- **What a function answers.** -/
theorem runFn_ok {ρ : Type} {L : Nat → Option LSpec} {f : FuncId} {depth : Nat} {rk : List Kd} {args : List AV} {k : AV → Option ρ} {r : ρ} {vals : Array Value} (hG : GoodEnv V)
    (hL : ∀ fn c, V.P.funcs[f]? = some fn → fn.body = some c → ∀ c' ∈ loopsOf c, ∀ s, L (firstRegion c') = some s → LoopOK V fn.ntmps s c')
    (hv : VL (pcx w ok) args vals.toList) (h : runFn V L rounds depth f rk args k = some r) :
    Calls V.P f vals w fun e w' => ∃ v u, e = .returned u ∧ Below w.heap.size w w' ∧ Res w ok w' v u ∧ k v = some r := by
  unfold runFn at h
  have hm : Mem w (cx w [] (fun _ => none) fun b => ok b ∨ w.heap.size ≤ b) :=
    ⟨fun _ => rfl, fun _ _ _ h => (by cases h), fun _ _ h => (by cases h), Below.refl _ _, fun b hb => .inr hb⟩
  have hv' : VL (cx w [] (fun _ => none) fun b => ok b ∨ w.heap.size ≤ b) args vals.toList := by
    have hmono : Mono (pcx w ok) (cx w [] (fun _ => none) fun b => ok b ∨ w.heap.size ≤ b) := mono_of (fun b hb => ⟨⟨.inl hb.1, hb.2.1, hb.2.2⟩, rfl⟩) (fun id => .inl rfl)
    exact hmono.vl _ _ hv
  refine (fnK_ok (J := T) hG (inlK_ok hG depth) Stays.triv (fun _ _ _ _ => trivial) hL hm hv' trivial h).mono fun e w' he => ?_
  obtain ⟨v, u, ob', mu', rfl, hm', _, hv, hk⟩ := he
  split at hk
  case h_2 => cases hk
  rename_i r' hx
  refine ⟨r', u, rfl, hm'.ext, fun base => ?_, hk⟩
  obtain ⟨ob2, os, m⟩ := expoRes_moves hx base
  obtain ⟨n, hfr⟩ := impRes_fresh base r'
  obtain ⟨mu2, hm2, hv2⟩ := moves_mem hm' m hfr.2.2.2 (ob2 := appOb (impRes base r').2 []) (fun p hp => look_appOb_in _ _ p hfr.2.2.2 hp) (fun i hi => by rw [look_appOb_not _ _ _ hi]; rfl)
  exact ⟨mu2, hm2, (hv2 [u] ⟨hv, trivial⟩).1⟩

end
end Go.Proofs.Mill
