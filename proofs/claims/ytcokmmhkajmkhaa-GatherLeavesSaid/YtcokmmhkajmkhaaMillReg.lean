/- A region's operations, one after the other. -/
import Derived.Test.YtcokmmhkajmkhaaMillStep
set_option linter.all false
namespace Go.Proofs.Mill
variable {ds : List Deferred}
open Go.RowKit

/-- Two states that answer alike. -/
def St.like (σ τ : St) : Prop := ∀ l, σ.get l = τ.get l

theorem St.like.refl (σ : St) : σ.like σ := fun _ => rfl
theorem St.like.symm {σ τ : St} (h : σ.like τ) : τ.like σ := fun l => (h l).symm
theorem St.like.trans {σ τ υ : St} (h : σ.like τ) (k : τ.like υ) : σ.like υ := fun l => (h l).trans (k l)
theorem St.like.tm {σ τ : St} (h : σ.like τ) (t : Nat) : look σ.tm t = look τ.tm t := h (.t t)
theorem St.like.ob {σ τ : St} (h : σ.like τ) : look σ.ob = look τ.ob := funext fun n => h (.m n)

section
variable {V : Env} {w0 w w' : World} {ok : Nat → Prop} {nt fid : Nat} {σ τ : St} {a : Act} {mu mu' : Nat → Option Nat} {o : Oper} {v : AV} {ws : Wr} {u : Value}

theorem R.like (hr : R w0 ok nt ds σ a w mu) (h : σ.like τ) : R w0 ok nt ds τ a w mu := by
  obtain ⟨h1, h2, h3, h4, h5⟩ := hr
  have e := h.ob
  refine ⟨by rw [← e]; exact h1, fun t ht => ?_, fun t ht => ?_, h4, h5⟩
  · rw [← e, ← h.tm t]; exact h2 t ht
  · rw [← h.tm t]; exact h3 t ht

theorem dstOk_lt {d : Nat} (h : dstOk nt (some d) = true) : d < nt := by simpa [dstOk] using h

/-- The world and the store go on. -/
theorem R.go {ob' : List (Nat × AV)} (hr : R w0 ok nt ds σ a w mu) (hm : Mem w0 (cx w' ob' mu' ok)) (hmono : Mono (cx w σ.ob mu ok) (cx w' ob' mu' ok)) : R w0 ok nt ds ⟨σ.tm, ob'⟩ a w' mu' :=
  ⟨hm, fun t ht => hmono.v _ _ (hr.tm t ht), hr.far, hr.size, hr.defers⟩

theorem R.set {dst : Option Nat} (hr : R w0 ok nt ds σ a w mu) (hd : dstOk nt dst = true) (hv : Mill.V (cx w σ.ob mu ok) v u) : R w0 ok nt ds (σ.put dst v []) (a.put dst u) w mu := by
  cases dst with
  | none => exact hr
  | some d =>
    have hd := dstOk_lt hd
    refine ⟨hr.mem, fun t ht => ?_, fun t ht => ?_, ?_, hr.defers⟩
    · show Mill.V (cx w σ.ob mu ok) (look ((d, v) :: σ.tm) t) ((a.tmps.setIfInBounds d u).getD t undef)
      by_cases e : d = t
      · subst e
        rw [look_eq]
        have : (a.tmps.setIfInBounds d u).getD d undef = u := by
          have hs : d < a.tmps.size := by rw [hr.size]; exact hd
          simp [Array.getD, hs]
        rw [this]; exact hv
      · rw [look_ne _ _ e]
        have : (a.tmps.setIfInBounds d u).getD t undef = a.tmps.getD t undef := by
          simp [Array.getD_eq_getD_getElem?, Array.getElem?_setIfInBounds_ne e]
        rw [this]; exact hr.tm t ht
    · show look ((d, v) :: σ.tm) t = .undef
      rw [look_ne _ _ (by omega)]; exact hr.far t ht
    · show (a.tmps.setIfInBounds d u).size = nt
      simp [hr.size]

theorem put_eq (σ : St) (dst : Option Nat) (v : AV) (ws : Wr) : σ.put dst v ws = St.put ⟨σ.tm, appOb ws σ.ob⟩ dst v [] := by cases dst <;> rfl

theorem R.put {dst : Option Nat} (hr : R w0 ok nt ds σ a w mu) (hd : dstOk nt dst = true) (hp : Post w0 ok w σ.ob mu v ws u w') : ∃ mu', R w0 ok nt ds (σ.put dst v ws) (a.put dst u) w' mu' := by
  obtain ⟨mu', hm, hmono, hv⟩ := hp
  rw [put_eq]
  exact ⟨mu', (hr.go hm hmono).set hd hv⟩

/-- An operation and its guard, read alike. -/
def opRd (V : Env) (fid : Nat) (ops : Array Oper) (o : Oper) : Rd (AV × Wr) :=
  match o.guard with
  | none => evVal V fid o
  | some (j, want) => match (ops[j]?).bind (·.dst) with
    | some d => .rd (.t d) fun
      | .bool b => bif b == want then evVal V fid o else .ret (.tup [], [])
      | .tup [] => .ret (.tup [], [])
      | _ => .fail
    | none => .fail

/-- What the model does of an operation, its guard and all. -/
def wpOne (P : Program) (ops : Array Oper) (o : Oper) (Q : Exit → Act → World → Prop) (K : Act → World → Prop) (a : Act) (w : World) : Prop :=
  if Region.wanted o (yielded ops a.tmps) then o.wp P a w K Q ∨ (o.asks P a w ∧ LetsOut Q) else K (a.put o.dst undef) w

theorem wpList_cons {P : Program} {ops : Array Oper} {Q : Exit → Act → World → Prop} {rest : List Oper} : wpList P ops Q (o :: rest) a w = wpOne P ops o Q (wpList P ops Q rest) a w := rfl

theorem tmp_bool {d : Nat} {b : Bool} (hr : R w0 ok nt ds σ a w mu) (h : look σ.tm d = .bool b) : d < nt ∧ a.tmps[d]? = some (.bool b) := by
  have hd : d < nt := by
    apply Classical.byContradiction
    intro hn
    rw [hr.far d (Nat.le_of_not_lt hn)] at h
    cases h
  have := hr.tm d hd
  rw [h] at this
  have hs : d < a.tmps.size := by rw [hr.size]; exact hd
  refine ⟨hd, ?_⟩
  have e : a.tmps.getD d undef = .bool b := this
  simpa [Array.getD, hs] using e

theorem yielded_of {ops : Array Oper} {j d : Nat} {b : Bool} (hr : R w0 ok nt ds σ a w mu) (hj : (ops[j]?).bind (·.dst) = some d) (h : look σ.tm d = .bool b) : yielded ops a.tmps j = some b := by
  unfold yielded
  rw [hj]
  show (match a.tmps[d]? with | some (.bool b) => some b | _ => none) = some b
  rw [(tmp_bool hr h).2]

theorem V_skip {c : Cx} : Mill.V c (.tup []) undef := ⟨#[], rfl, trivial⟩

theorem yielded_skip {ops : Array Oper} {j d : Nat} (hr : R w0 ok nt ds σ a w mu) (hj : (ops[j]?).bind (·.dst) = some d) (h : look σ.tm d = .tup []) : yielded ops a.tmps j = none := by
  have hd : d < nt := by
    apply Classical.byContradiction
    intro hn
    rw [hr.far d (Nat.le_of_not_lt hn)] at h
    cases h
  have := hr.tm d hd
  rw [h] at this
  obtain ⟨vs, e, hv⟩ := this
  have hs : d < a.tmps.size := by rw [hr.size]; exact hd
  have e2 : a.tmps[d]? = some (.tuple vs) := by simpa [Array.getD, hs] using e
  unfold yielded
  rw [hj]
  show (match a.tmps[d]? with | some (.bool b) => some b | _ => none) = none
  rw [e2]

end
end Go.Proofs.Mill
