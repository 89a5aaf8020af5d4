/- A region's operations, one after the other; calls that are walked into. -/
import Derived.Test.YtcokmmhkajmkhaaMillReg
set_option linter.all false
namespace Go.Proofs.Mill
variable {ds : List Deferred}
open Go.RowKit

/-- A state that is known, and what else is. -/
def Holds (J : Cx → Prop) (w0 : World) (ok : Nat → Prop) (nt : Nat) (ds : List Deferred) (σ : St) (a : Act) (w : World) : Prop :=
  ∃ mu, R w0 ok nt ds σ a w mu ∧ J (cx w σ.ob mu ok)

def Stays (J : Cx → Prop) : Prop := ∀ c c', J c → Mono c c' → J c'

/-- Calls that are walked into are done as they are said to be. -/
def InlOK {ρ : Type} (V : Env) (inl : Inl ρ) : Prop :=
  ∀ (f : FuncId) (fid : Nat) (args : List AV) (ob : List (Nat × AV)) (k : AV → List (Nat × AV) → Option ρ) (r : ρ), inl f fid args ob k = some r →
    Enter V.P f ∧ ∀ (w0 : World) (ok : Nat → Prop) (w : World) (mu : Nat → Option Nat) (vals : Array Value), Mem w0 (cx w ob mu ok) → VL (cx w ob mu ok) args vals.toList →
      Calls V.P f vals w fun e w' => ∃ v u ob' mu', e = .returned u ∧ Mem w0 (cx w' ob' mu' ok) ∧ Mono (cx w ob mu ok) (cx w' ob' mu' ok) ∧ Mill.V (cx w' ob' mu' ok) v u ∧ k v ob' = some r

section
variable {V : Env} {J : Cx → Prop} {w0 w : World} {ok : Nat → Prop} {nt fid : Nat} {σ τ : St} {a : Act} {o : Oper} {v : AV} {ws : Wr}

theorem Holds.like (h : Holds J w0 ok nt ds σ a w) (e : σ.like τ) : Holds J w0 ok nt ds τ a w := by
  obtain ⟨mu, hr, hj⟩ := h
  have e2 := e.ob
  refine ⟨mu, hr.like e, ?_⟩
  show J ⟨w, look τ.ob, mu, ok⟩
  rw [← e2]
  exact hj

theorem put_ob (σ : St) (dst : Option Nat) (v : AV) (ws : Wr) : (σ.put dst v ws).ob = appOb ws σ.ob := by cases dst <;> rfl

theorem Holds.put {w' : World} {mu : Nat → Option Nat} {u : Value} (hJ : Stays J) (hr : R w0 ok nt ds σ a w mu) (hj : J (cx w σ.ob mu ok)) (hd : dstOk nt o.dst = true)
    (hp : Post w0 ok w σ.ob mu v ws u w') : Holds J w0 ok nt ds (σ.put o.dst v ws) (a.put o.dst u) w' := by
  obtain ⟨mu', hm, hmono, hv⟩ := hp
  refine ⟨mu', ?_, ?_⟩
  · rw [put_eq]; exact (hr.go hm hmono).set hd hv
  · rw [put_ob]; exact hJ _ _ hj hmono

theorem Holds.skip (h : Holds J w0 ok nt ds σ a w) (hd : dstOk nt o.dst = true) : Holds J w0 ok nt ds (σ.put o.dst (.tup []) []) (a.put o.dst undef) w := by
  obtain ⟨mu, hr, hj⟩ := h
  refine ⟨mu, hr.set hd V_skip, ?_⟩
  rw [put_ob]; exact hj

theorem evVal_holds {K : Act → World → Prop} {Q : Exit → Act → World → Prop} (hG : GoodEnv V) (hJ : Stays J) (hh : Holds J w0 ok nt ds σ a w) (hd : dstOk nt o.dst = true)
    (h : (evVal V fid o).val σ = some (v, ws)) (hn : ∀ a' w', Holds J w0 ok nt ds (σ.put o.dst v ws) a' w' → K a' w') : o.wp V.P a w K Q := by
  obtain ⟨mu, hr, hj⟩ := hh
  exact evVal_wp hG h hr fun u w' hp => hn _ _ (Holds.put hJ hr hj hd hp)

theorem inlined_ok {f : FuncId} {args : List AV} (h : inlined V σ o = some (f, args)) :
    ∃ c x, o.op = .call c ∧ c.callee = .value x ∧ ((∃ caps, valOf σ x = .fn f caps ∧ args = c.args.toList.map (valOf σ) ++ caps) ∨ ∃ fs, valOf σ x = .bfn f fs ∧ args = fs ++ c.args.toList.map (valOf σ)) := by
  unfold inlined at h
  split at h
  · rename_i c hc
    split at h
    · rename_i x hx
      split at h
      · rename_i g caps hg
        split at h
        · cases h
        · injection h with h
          injection h with h1 h2
          subst h1
          exact ⟨c, x, hc, hx, .inl ⟨_, hg, h2.symm⟩⟩
      · rename_i g first hg
        injection h with h
        injection h with h1 h2
        subst h1
        exact ⟨c, x, hc, hx, .inr ⟨_, hg, h2.symm⟩⟩
      · cases h
    · cases h
  · cases h

theorem actK_ok {ρ : Type} {inl : Inl ρ} {k : St → Option ρ} {r : ρ} {K : Act → World → Prop} {Q : Exit → Act → World → Prop} (hG : GoodEnv V) (hI : InlOK V inl) (hJ : Stays J)
    (hh : Holds J w0 ok nt ds σ a w) (h : actK V inl fid nt o σ k = some r) (hn : ∀ σ' a' w', Holds J w0 ok nt ds σ' a' w' → k σ' = some r → K a' w') : o.wp V.P a w K Q := by
  unfold actK at h
  cases hd : dstOk nt o.dst with
  | false => rw [hd] at h; cases h
  | true =>
    rw [hd] at h
    simp only [cond_true] at h
    split at h
    · rename_i f args hi
      obtain ⟨c, x, hc, hx, hcase⟩ := inlined_ok hi
      obtain ⟨hent, hcall⟩ := hI _ _ _ _ _ _ h
      obtain ⟨mu, hr, hj⟩ := hh
      have hf := V_operand hr x
      unfold Oper.wp
      rcases hcase with ⟨caps, hv, rfl⟩ | ⟨fs, hv, rfl⟩
      · rw [hv] at hf
        obtain ⟨vs, hfe, hcv⟩ := hf
        rw [run_call (w := w) hc hx hfe hent, Oper.upon_enter]
        refine (hcall w0 ok w mu (c.args.map a.eval ++ vs) hr.mem (by rw [Array.toList_append]; exact (args_list hr).append hcv)).mono fun e w' he => ?_
        obtain ⟨v, u, ob', mu', rfl, hm, hmono, hv, hk⟩ := he
        refine hn _ _ _ ⟨mu', (hr.go hm hmono).set hd hv, ?_⟩ hk
        rw [put_ob]
        exact hJ _ _ hj hmono
      · rw [hv] at hf
        obtain ⟨vs, hfe, hcv⟩ := hf
        rw [run_callB (w := w) hc hx hfe hent, Oper.upon_enter]
        refine (hcall w0 ok w mu (vs ++ c.args.map a.eval) hr.mem (by rw [Array.toList_append]; exact hcv.append (args_list hr))).mono fun e w' he => ?_
        obtain ⟨v, u, ob', mu', rfl, hm, hmono, hv, hk⟩ := he
        refine hn _ _ _ ⟨mu', (hr.go hm hmono).set hd hv, ?_⟩ hk
        rw [put_ob]
        exact hJ _ _ hj hmono
    · obtain ⟨p, log, h1, h2⟩ := Rd.runK_val h
      exact evVal_holds hG hJ hh hd h1 fun a' w' hh' => hn _ _ _ hh' h2

theorem pin_like {d : Nat} {b : Bool} (h : look σ.tm d = .bool b) : σ.like ⟨(d, .bool b) :: σ.tm, σ.ob⟩ := by
  intro l
  cases l with
  | m n => rfl
  | t n =>
    show look σ.tm n = look ((d, .bool b) :: σ.tm) n
    by_cases e : d = n
    · subst e; rw [look_eq]; exact h
    · rw [look_ne _ _ e]

theorem opK_ok {ρ : Type} {inl : Inl ρ} {k : St → Option ρ} {r : ρ} {K : Act → World → Prop} {Q : Exit → Act → World → Prop} {ops : Array Oper} (hG : GoodEnv V) (hI : InlOK V inl) (hJ : Stays J)
    (hh : Holds J w0 ok nt ds σ a w) (h : opK V inl fid nt ops o σ k = some r) (hn : ∀ σ' a' w', Holds J w0 ok nt ds σ' a' w' → k σ' = some r → K a' w') : wpOne V.P ops o Q K a w := by
  unfold opK at h
  unfold wpOne
  split at h
  · rename_i hg
    rw [if_pos (by simp [Region.wanted, hg])]
    exact .inl (actK_ok hG hI hJ hh h hn)
  · rename_i j want hg
    split at h
    · rename_i d hj
      split at h
      · rename_i b hb
        obtain ⟨mu, hr, hj'⟩ := hh
        have hy := yielded_of hr hj hb
        have hh' : Holds J w0 ok nt ds ⟨(d, .bool b) :: σ.tm, σ.ob⟩ a w := Holds.like ⟨mu, hr, hj'⟩ (pin_like hb)
        cases b <;> cases want <;> simp only [cond_true, cond_false] at h
        · rw [if_pos (by simp [Region.wanted, hg, hy])]
          exact .inl (actK_ok hG hI hJ hh' h hn)
        · rw [if_neg (by simp [Region.wanted, hg, hy])]
          cases hd : dstOk nt o.dst with
          | false => rw [hd] at h; cases h
          | true => rw [hd] at h; exact hn _ _ _ (hh'.skip hd) h
        · rw [if_neg (by simp [Region.wanted, hg, hy])]
          cases hd : dstOk nt o.dst with
          | false => rw [hd] at h; cases h
          | true => rw [hd] at h; exact hn _ _ _ (hh'.skip hd) h
        · rw [if_pos (by simp [Region.wanted, hg, hy])]
          exact .inl (actK_ok hG hI hJ hh' h hn)
      · rename_i hb
        obtain ⟨mu, hr, hj'⟩ := hh
        have hy := yielded_skip hr hj hb
        rw [if_neg (by simp [Region.wanted, hg, hy])]
        cases hd : dstOk nt o.dst with
        | false => rw [hd] at h; cases h
        | true => rw [hd] at h; exact hn _ _ _ (Holds.skip ⟨mu, hr, hj'⟩ hd) h
      · cases h
    · cases h

theorem opsK_ok {ρ : Type} {inl : Inl ρ} {r : ρ} {Q : Exit → Act → World → Prop} {ops : Array Oper} (hG : GoodEnv V) (hI : InlOK V inl) (hJ : Stays J) :
    ∀ (l : List Oper) {σ : St} {a : Act} {w : World} {k : St → Option ρ}, Holds J w0 ok nt ds σ a w → opsK V inl fid nt ops l σ k = some r →
      (∀ σ' a' w', Holds J w0 ok nt ds σ' a' w' → k σ' = some r → Q .normal a' w') → wpList V.P ops Q l a w
  | [], _, _, _, _, hh, h, hn => hn _ _ _ hh h
  | o :: l, _, _, _, _, hh, h, hn => by
    rw [wpList_cons]
    exact opK_ok hG hI hJ hh h fun σ' a' w' hh' h' => opsK_ok hG hI hJ l hh' h' hn

end
end Go.Proofs.Mill
