/- What arguments and results are, as Lean types. -/
import Derived.Test.YtcokmmhkajmkhaaMillSpec
set_option linter.all false
namespace Go.Proofs.Mill

/-- Cells that are a value of a Lean type. -/
structure Cel where
  α : Type
  n : Nat
  kds : List Kd
  enc : α → List AV
  dec : List AV → Option α
  law : ∀ cs a, dec cs = some a → cs = enc a

def AV.lstS (τ : Ty) : AV → Option (List τ.den)
  | .lst σ xs => match Ty.eqTy σ τ with
    | some ⟨h⟩ => some (h ▸ xs)
    | none => none
  | _ => none

theorem lstS_law {τ : Ty} {v : AV} {xs : List τ.den} (h : v.lstS τ = some xs) : v = .lst τ xs := by
  unfold AV.lstS at h
  split at h
  · split at h
    · rename_i hh _
      subst hh
      obtain rfl := Option.some.inj h
      rfl
    · cases h
  · cases h

def AV.ownS (e : TypeId) (τ : Ty) : AV → Option (List τ.den)
  | .ownv e' σ xs => match Ty.eqTy σ τ with
    | some ⟨h⟩ => bif Nat.beq e' e then some (h ▸ xs) else none
    | none => none
  | _ => none

theorem ownS_law {e : TypeId} {τ : Ty} {v : AV} {xs : List τ.den} (h : v.ownS e τ = some xs) : v = .ownv e τ xs := by
  unfold AV.ownS at h
  split at h
  · rename_i e' σ ys
    split at h
    · rename_i hh _
      subst hh
      cases hb : Nat.beq e' e with
      | false => rw [hb] at h; cases h
      | true =>
        rw [hb] at h
        have hb := Nat.eq_of_beq_eq_true hb
        subst hb
        obtain rfl := Option.some.inj h
        rfl
    · cases h
  · cases h

def celInt (k : IntKind) : Cel where
  α := Int
  n := 1
  kds := [.any]
  enc x := [.int k x]
  dec
    | [.int k' x] => bif decide (k' = k) then some x else none
    | _ => none
  law := by
    intro cs a h
    split at h
    · rename_i k' x
      cases hk : decide (k' = k) with
      | false => rw [hk] at h; cases h
      | true =>
        rw [hk] at h
        obtain rfl := of_decide_eq_true hk
        obtain rfl := Option.some.inj h
        rfl
    · cases h

def celBool : Cel where
  α := Bool
  n := 1
  kds := [.any]
  enc x := [.bool x]
  dec
    | [.bool x] => some x
    | _ => none
  law := by
    intro cs a h
    split at h
    · obtain rfl := Option.some.inj h; rfl
    · cases h

def celStr : Cel where
  α := ByteArray
  n := 1
  kds := [.any]
  enc x := [.str x]
  dec
    | [.str x] => some x
    | _ => none
  law := by
    intro cs a h
    split at h
    · obtain rfl := Option.some.inj h; rfl
    · cases h

def celLst (τ : Ty) : Cel where
  α := List τ.den
  n := 1
  kds := [.lst τ]
  enc x := [.lst τ x]
  dec
    | [v] => v.lstS τ
    | _ => none
  law := by
    intro cs a h
    split at h
    · rw [lstS_law h]
    · cases h

def celOwn (e : TypeId) (τ : Ty) : Cel where
  α := List τ.den
  n := 1
  kds := [.own e τ]
  enc x := [.ownv e τ x]
  dec
    | [v] => v.ownS e τ
    | _ => none
  law := by
    intro cs a h
    split at h
    · rw [ownS_law h]
    · cases h

def celApp (a b : Cel) : Cel where
  α := a.α × b.α
  n := a.n + b.n
  kds := a.kds ++ b.kds
  enc x := a.enc x.1 ++ b.enc x.2
  dec cs := match a.dec (cs.take a.n) with
    | some x => match b.dec (cs.drop a.n) with
      | some y => some (x, y)
      | none => none
    | none => none
  law := by
    intro cs p h
    split at h
    · rename_i x hx
      split at h
      · rename_i y hy
        obtain rfl := Option.some.inj h
        rw [← a.law _ _ hx, ← b.law _ _ hy, List.take_append_drop]
      · cases h
    · cases h

/-- The same cells as a Lean structure. -/
def celAs (a : Cel) (X : Type) (f : a.α → X) (g : X → a.α) (h : ∀ y, g (f y) = y) : Cel where
  α := X
  n := a.n
  kds := a.kds
  enc x := a.enc (g x)
  dec cs := match a.dec cs with
    | some y => some (f y)
    | none => none
  law := by
    intro cs x hx
    split at hx
    · rename_i y hy
      obtain rfl := Option.some.inj hx
      rw [h y]
      exact a.law _ _ hy
    · cases hx

/-- A value. -/
structure Val where
  α : Type
  kd : Kd
  enc : α → AV
  dec : AV → Option α
  law : ∀ v a, dec v = some a → v = enc a

def valCell (c : Cel) (κ : Kd) (get : c.α → AV) (h : ∀ x, c.enc x = [get x]) : Val where
  α := c.α
  kd := κ
  enc := get
  dec v := c.dec [v]
  law := by
    intro v a hv
    have := c.law _ _ hv
    rw [h] at this
    exact (List.cons.inj this).1

def valInt (k : IntKind) : Val := valCell (celInt k) .any (fun x => .int k x) (fun _ => rfl)
def valBool : Val := valCell celBool .any (fun x => .bool x) (fun _ => rfl)
def valStr : Val := valCell celStr .any (fun x => .str x) (fun _ => rfl)
def valLst (τ : Ty) : Val := valCell (celLst τ) (.lst τ) (fun x => .lst τ x) (fun _ => rfl)
def valOwn (e : TypeId) (τ : Ty) : Val := valCell (celOwn e τ) (.own e τ) (fun x => .ownv e τ x) (fun _ => rfl)
/-- The nil slice. -/
def valNil : Val where
  α := Unit
  kd := .nil
  enc _ := .emp
  dec
    | .emp => some ()
    | _ => none
  law := by
    intro v a h
    split at h
    · rfl
    · cases h
/-- That function. -/
def valFn (f : FuncId) : Val where
  α := Unit
  kd := .fnc f
  enc _ := .fn f []
  dec
    | .fn g [] => bif Nat.beq g f then some () else none
    | _ => none
  law := by
    intro v a h
    split at h
    · rename_i g
      cases hg : Nat.beq g f with
      | true => rw [Nat.eq_of_beq_eq_true hg]
      | false => rw [hg] at h; cases h
    · cases h
def valSt (c : Cel) : Val where
  α := c.α
  kd := .box c.kds
  enc x := .agg (c.enc x)
  dec
    | .agg cs => c.dec cs
    | _ => none
  law := by
    intro v a h
    split at h
    · rw [← c.law _ _ h]
    · cases h

/-- Values one after the other: arguments, results. -/
structure Vals where
  α : Type
  kds : List Kd
  enc : α → List AV
  dec : List AV → Option α
  law : ∀ cs a, dec cs = some a → cs = enc a

def valsNil : Vals where
  α := Unit
  kds := []
  enc _ := []
  dec
    | [] => some ()
    | _ => none
  law := by
    intro cs a h
    split at h
    · rfl
    · cases h

def valsOne (v : Val) : Vals where
  α := v.α
  kds := [v.kd]
  enc x := [v.enc x]
  dec
    | [x] => v.dec x
    | _ => none
  law := by
    intro cs a h
    split at h
    · rw [← v.law _ _ h]
    · cases h

def valsCons (v : Val) (r : Vals) : Vals where
  α := v.α × r.α
  kds := v.kd :: r.kds
  enc x := v.enc x.1 :: r.enc x.2
  dec
    | x :: cs => match v.dec x with
      | some a => match r.dec cs with
        | some b => some (a, b)
        | none => none
      | none => none
    | _ => none
  law := by
    intro cs p h
    split at h
    · split at h
      · rename_i a ha
        split at h
        · rename_i b hb
          obtain rfl := Option.some.inj h
          rw [← v.law _ _ ha, ← r.law _ _ hb]
        · cases h
      · cases h
    · cases h

/-- A function's result. -/
structure ResV where
  α : Type
  kds : List Kd
  enc : α → AV
  dec : AV → Option α
  law : ∀ v a, dec v = some a → v = enc a

def resOne (v : Val) : ResV := ⟨v.α, [v.kd], v.enc, v.dec, v.law⟩
def resTup (v : Vals) : ResV where
  α := v.α
  kds := v.kds
  enc x := .tup (v.enc x)
  dec
    | .tup cs => v.dec cs
    | _ => none
  law := by
    intro x a h
    split at h
    · rw [← v.law _ _ h]
    · cases h

/-- A function that is known, from its arguments' and results' types. -/
def mkSpec (a : Vals) (r : ResV) (fn : a.α → Option r.α) : Spec := ⟨a.kds, a.α, r.α, a.dec, fn, r.enc⟩

theorem mkSpec_ok {V : Env} {L : Nat → Option LSpec} {f : FuncId} {rounds depth : Nat} {a : Vals} {r : ResV} {fn : a.α → Option r.α} (hG : GoodEnv V)
    (hL : ∀ fn c, V.P.funcs[f]? = some fn → fn.body = some c → ∀ c' ∈ loopsOf c, ∀ s, L (firstRegion c') = some s → LoopOK V fn.ntmps s c')
    (heq : ∀ x, runFn V L rounds depth f r.kds (a.enc x) r.dec = fn x) : SpecOK V.P f (mkSpec a r fn) :=
  spec_ok (s := mkSpec a r fn) (argsOf := a.enc) (dres := r.dec) hG hL a.law r.law heq

end Go.Proofs.Mill
