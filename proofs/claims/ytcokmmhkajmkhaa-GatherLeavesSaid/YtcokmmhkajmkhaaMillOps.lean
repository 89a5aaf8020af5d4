/- What each operation does, as the evaluator knows it. First: operands, loads, stores. -/
import Derived.Test.YtcokmmhkajmkhaaMillChange
import Derived.Laws.Rows
import Derived.Laws.Tables
set_option linter.all false
namespace Go.Proofs.Mill
variable {ds : List Deferred}
open Go.RowKit

/-- What an operation ends with. -/
def Rd.val {α : Type} : Rd α → St → Option α
  | .ret a, _ => some a
  | .rd l k, σ => (k (σ.get l)).val σ
  | .ask b t e, σ => bif b then t.val σ else e.val σ
  | .call x k, σ => match x with
    | some y => (k y).val σ
    | none => none
  | .fail, _ => none

theorem Rd.runK_val {α ρ : Type} {k : α → List Loc → Option ρ} {σ : St} {r : ρ} : ∀ {x : Rd α} {log : List Loc}, x.runK σ log k = some r → ∃ a log', x.val σ = some a ∧ k a log' = some r
  | .ret a, log, h => ⟨a, log, rfl, h⟩
  | .rd l f, log, h => Rd.runK_val (x := f (σ.get l)) h
  | .ask b t e, log, h => by
    cases b
    · exact Rd.runK_val (x := e) h
    · exact Rd.runK_val (x := t) h
  | .call x f, log, h => by
    cases x with
    | none => simp [Rd.runK] at h
    | some y => exact Rd.runK_val (x := f y) h
  | .fail, log, h => by simp [Rd.runK] at h

theorem val_opd {α : Type} {x : Operand} {k : AV → Rd α} {σ : St} {r : α} (h : (opd x k).val σ = some r) : (k (valOf σ x)).val σ = some r := by
  cases x <;> first | exact h | (simp [opd, Rd.val] at h)

theorem val_opds {α : Type} {σ : St} {r : α} : ∀ {xs : List Operand} {k : List AV → Rd α}, (opds xs k).val σ = some r → (k (xs.map (valOf σ))).val σ = some r
  | [], _, h => h
  | _ :: xs, k, h => by
    have := val_opd h
    exact val_opds (xs := xs) (k := fun vs => k (_ :: vs)) this

theorem val_ofOpt {α β : Type} {x : Option α} {k : α → Rd β} {σ : St} {r : β} (h : (ofOpt x k).val σ = some r) : ∃ a, x = some a ∧ (k a).val σ = some r := by
  cases x with
  | none => simp [ofOpt, Rd.val] at h
  | some a => exact ⟨a, rfl, h⟩

theorem val_ask {α : Type} {b : Bool} {t : Rd α} {σ : St} {r : α} (h : (Rd.ask b t .fail).val σ = some r) : b = true ∧ t.val σ = some r := by
  cases b
  · simp [Rd.val] at h
  · exact ⟨rfl, h⟩

theorem val_ask' {α : Type} {b : Bool} {t : Rd α} {σ : St} {r : α} (h : (Rd.ask b .fail t).val σ = some r) : b = false ∧ t.val σ = some r := by
  cases b
  · exact ⟨rfl, h⟩
  · simp [Rd.val] at h

theorem val_bif {α : Type} {b : Bool} {t : Rd α} {σ : St} {r : α} (h : (bif b then t else Rd.fail).val σ = some r) : b = true ∧ t.val σ = some r := by
  cases b
  · simp [Rd.val] at h
  · exact ⟨rfl, h⟩

theorem val_bare {α : Type} {σ : St} {r : α} : ∀ {cs : List AV} {k : List AV → Rd α}, (bare cs k).val σ = some r → (k cs).val σ = some r
  | [], _, h => h
  | _ :: cs, _, h => val_bare (cs := cs) h

theorem val_giveCut {α : Type} {v : AV} {k : AV → Rd α} {σ : St} {r : α} (h : (giveCut v k).val σ = some r) : (k v).val σ = some r := by
  cases v <;> first | exact h | exact val_bare h

/-! ### Values -/

theorem V_ofCell (c : Cx) (v : Value) : V c (ofCell v) v := by
  unfold ofCell
  split <;> simp [V]

theorem VL_ofCells (c : Cx) : ∀ (vs : List Value), VL c (vs.map ofCell) vs
  | [] => by simp [VL]
  | v :: vs => by simp only [List.map_cons, VL]; exact ⟨V_ofCell c v, VL_ofCells c vs⟩

theorem V_ofValue (c : Cx) (v : Value) : V c (ofValue v) v := by
  unfold ofValue
  split
  · rename_i cs; exact ⟨cs, rfl, VL_ofCells c _⟩
  all_goals simp [V]

theorem V_operand {w0 : World} {ok : Nat → Prop} {nt : Nat} {σ : St} {a : Act} {w : World} {mu : Nat → Option Nat} (hr : R w0 ok nt ds σ a w mu) (x : Operand) :
    V (cx w σ.ob mu ok) (valOf σ x) (a.eval x) := by
  cases x with
  | tmp t =>
    by_cases h : t < nt
    · exact hr.tm t h
    · show V _ (look σ.tm t) _
      rw [hr.far t (Nat.le_of_not_lt h)]
      trivial
  | const v => exact V_ofValue _ v
  | global g => trivial
  | func f => exact ⟨#[], rfl, by simp [VL]⟩

theorem VL_operands {w0 : World} {ok : Nat → Prop} {nt : Nat} {σ : St} {a : Act} {w : World} {mu : Nat → Option Nat} (hr : R w0 ok nt ds σ a w mu) :
    ∀ (xs : List Operand), VL (cx w σ.ob mu ok) (xs.map (valOf σ)) (xs.map a.eval)
  | [] => by simp [VL]
  | x :: xs => by simp only [List.map_cons, VL]; exact ⟨V_operand hr x, VL_operands hr xs⟩

theorem V_one {c : Cx} {x : AV} {v : Value} (h : V c x v) (hx : x.one = true) : v.oneCell' = true := by
  cases x <;> simp [AV.one] at hx
  case int => simp only [V] at h; subst h; rfl
  case bool => simp only [V] at h; subst h; rfl
  case str => simp only [V] at h; subst h; rfl
  case lst => exact Cx.DV.one h
  case lstn => exact Cx.DV.one h.1
  case emp => simp only [V] at h; subst h; rfl
  case own id => exact OwnV.one h
  case ptr => exact PtrV.one h
  case eptr => exact EptrV.one h
  case lptr => obtain ⟨_, _, _, _, rfl, _⟩ := h; rfl
  case fn => obtain ⟨_, rfl, _⟩ := h; rfl
  case bfn => obtain ⟨_, rfl, _⟩ := h; rfl
  case cst u =>
    simp only [V] at h; subst h
    cases v <;> simp_all [Value.oneCell']
  case ifc => obtain ⟨_, rfl, _⟩ := h; rfl

end Go.Proofs.Mill
