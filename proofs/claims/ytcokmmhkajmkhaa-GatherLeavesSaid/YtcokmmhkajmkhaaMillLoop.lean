/- Loops, from the types of what they keep. -/
import Derived.Test.YtcokmmhkajmkhaaMillEnv
set_option linter.all false
namespace Go.Proofs.Mill
open Go.RowKit

/-- A variable of its own, cell by cell. -/
def valBox (c : Cel) : Val where
  α := c.α
  kd := .box c.kds
  enc x := .box (c.enc x)
  dec
    | .box cs => c.dec cs
    | _ => none
  law := by
    intro v a h
    split at h
    · rw [← c.law _ _ h]
    · cases h

def Ex.same : Ex → Ex → Bool
  | .normal, .normal => true
  | .exit a, .exit b => Nat.beq a b
  | .goto a, .goto b => Nat.beq a b
  | .ret, .ret => true
  | _, _ => false

theorem Ex.same_eq {a b : Ex} (h : a.same b = true) : a = b := by
  cases a <;> cases b <;> first | rfl | (cases h; done) | (rw [Nat.eq_of_beq_eq_true h])

/-- A way out of a loop. -/
structure Way where
  e : Ex
  ts : List Nat
  v : Vals

/-- A loop that is left in one way. -/
def loop1 (ts : List Nat) (v : Vals) (a : Way) (run : v.α → Option a.v.α) : LSpec where
  keep := ts.zip v.kds
  σ := v.α
  ρ := a.v.α
  dec := v.dec
  run := run
  enc y := (a.e, a.v.enc y)
  keepX _ := a.ts.zip a.v.kds
  out _ y k := k a.e (a.v.enc y)
  law _ _ _ := rfl

def dex1 (a : Way) (e : Ex) (hd : List AV) : Option a.v.α := bif e.same a.e then a.v.dec hd else none

/-- A loop that is left in two ways. -/
def loop2 (ts : List Nat) (v : Vals) (a b : Way) (run : v.α → Option (a.v.α ⊕ b.v.α)) : LSpec where
  keep := ts.zip v.kds
  σ := v.α
  ρ := a.v.α ⊕ b.v.α
  dec := v.dec
  run := run
  enc
    | .inl y => (a.e, a.v.enc y)
    | .inr y => (b.e, b.v.enc y)
  keepX e := bif e.same a.e then a.ts.zip a.v.kds else b.ts.zip b.v.kds
  out _ y k := match y with
    | .inl y => k a.e (a.v.enc y)
    | .inr y => k b.e (b.v.enc y)
  law _ y _ := by cases y <;> rfl

def dex2 (a b : Way) (e : Ex) (hd : List AV) : Option (a.v.α ⊕ b.v.α) :=
  bif e.same a.e then (match a.v.dec hd with | some y => some (.inl y) | none => none)
  else bif e.same b.e then (match b.v.dec hd with | some y => some (.inr y) | none => none) else none

def isOut (e : Ex) : Bool := match e with | .normal => false | _ => true

theorem loop1_ok {V : Env} {L : Nat → Option LSpec} {nt rounds depth : Nat} {ts : List Nat} {v : Vals} {a : Way} {step : v.α → Option (v.α ⊕ a.v.α)} {c : Code}
    (hG : GoodEnv V) (ha : isOut a.e = true) (hin : ∀ c' ∈ loopsOf c, ∀ s, L (firstRegion c') = some s → LoopOK V nt s c')
    (hstep : ∀ x, evK V L (inlK V rounds depth) 1 nt rounds c (build (ts.zip v.kds) (v.enc x)) (roundOut (ts.zip v.kds) (fun _ => a.ts.zip a.v.kds) v.dec (dex1 a)) = step x) :
    LoopOK V nt (loop1 ts v a (whileM step)) c :=
  loop_ok (s := loop1 ts v a (whileM step)) (fid := 1) (hdOf := v.enc) (dex := dex1 a) hG v.law (fun e hd y h => by
    unfold dex1 at h
    cases he : e.same a.e with
    | false => rw [he] at h; cases h
    | true =>
      rw [he] at h
      have h : a.v.dec hd = some y := h
      have he := Ex.same_eq he
      subst he
      refine ⟨fun hn => (by rw [hn] at ha; cases ha), ?_⟩
      show (a.e, a.v.enc y) = _
      rw [← a.v.law _ _ h]) (fun _ => rfl) hin hstep

theorem loop2_ok {V : Env} {L : Nat → Option LSpec} {nt rounds depth : Nat} {ts : List Nat} {v : Vals} {a b : Way} {step : v.α → Option (v.α ⊕ (a.v.α ⊕ b.v.α))} {c : Code}
    (hG : GoodEnv V) (ha : isOut a.e = true) (hb : isOut b.e = true) (hin : ∀ c' ∈ loopsOf c, ∀ s, L (firstRegion c') = some s → LoopOK V nt s c')
    (hstep : ∀ x, evK V L (inlK V rounds depth) 1 nt rounds c (build (ts.zip v.kds) (v.enc x))
      (roundOut (ts.zip v.kds) (fun e => bif e.same a.e then a.ts.zip a.v.kds else b.ts.zip b.v.kds) v.dec (dex2 a b)) = step x) :
    LoopOK V nt (loop2 ts v a b (whileM step)) c :=
  loop_ok (s := loop2 ts v a b (whileM step)) (fid := 1) (hdOf := v.enc) (dex := dex2 a b) hG v.law (fun e hd y h => by
    unfold dex2 at h
    cases he : e.same a.e with
    | true =>
      rw [he] at h
      simp only [cond_true] at h
      have he := Ex.same_eq he
      subst he
      split at h
      · rename_i z hz
        obtain rfl := Option.some.inj h
        refine ⟨fun hn => (by rw [hn] at ha; cases ha), ?_⟩
        show (a.e, a.v.enc z) = _
        rw [← a.v.law _ _ hz]
      · cases h
    | false =>
      rw [he] at h
      simp only [cond_false] at h
      cases he2 : e.same b.e with
      | false => rw [he2] at h; cases h
      | true =>
        rw [he2] at h
        simp only [cond_true] at h
        have he2 := Ex.same_eq he2
        subst he2
        split at h
        · rename_i z hz
          obtain rfl := Option.some.inj h
          refine ⟨fun hn => (by rw [hn] at hb; cases hb), ?_⟩
          show (b.e, b.v.enc z) = _
          rw [← b.v.law _ _ hz]
        · cases h) (fun _ => rfl) hin hstep

def assocL : List (Nat × LSpec) → Nat → Option LSpec
  | [], _ => none
  | p :: r, i => bif Nat.beq p.1 i then some p.2 else assocL r i

def LoopsOK (V : Env) (nt : Nat) (f : FuncId) (l : List (Nat × LSpec)) : Prop := ∀ p ∈ l, LoopOK V nt p.2 (fnLoop V.P f p.1)

theorem loopsOK_nil {V : Env} {nt : Nat} {f : FuncId} : LoopsOK V nt f [] := fun _ h => by cases h
theorem loopsOK_cons {V : Env} {nt : Nat} {f : FuncId} {i : Nat} {s : LSpec} {l : List (Nat × LSpec)} (h : LoopOK V nt s (fnLoop V.P f i)) (k : LoopsOK V nt f l) : LoopsOK V nt f ((i, s) :: l) := by
  intro p hp
  rcases List.mem_cons.1 hp with rfl | hp
  · exact h
  · exact k p hp

theorem assocL_mem : ∀ {l : List (Nat × LSpec)} {i : Nat} {s : LSpec}, assocL l i = some s → (i, s) ∈ l
  | [], _, _, h => by cases h
  | p :: r, i, s, h => by
    unfold assocL at h
    cases hb : Nat.beq p.1 i with
    | true =>
      rw [hb] at h
      have hb := Nat.eq_of_beq_eq_true hb
      obtain rfl := Option.some.inj h
      subst hb
      simp
    | false =>
      rw [hb] at h
      exact List.mem_cons_of_mem _ (assocL_mem h)

/-- A function's loops are done as they are said to be. -/
theorem loops_fn {V : Env} {f : FuncId} {nt : Nat} {l : List (Nat × LSpec)} (ha : fnApart V.P f = true) (hnt : ∀ fn, V.P.funcs[f]? = some fn → fn.ntmps = nt) (h : LoopsOK V nt f l) :
    ∀ fn c, V.P.funcs[f]? = some fn → fn.body = some c → ∀ c' ∈ loopsOf c, ∀ s, assocL l (firstRegion c') = some s → LoopOK V fn.ntmps s c' :=
  loops_of ha hnt fun _ _ hs => h _ (assocL_mem hs)

/-- The loops within one of them. -/
theorem loops_in {V : Env} {f : FuncId} {nt i : Nat} {l : List (Nat × LSpec)} (ha : fnApart V.P f = true) (h : LoopsOK V nt f l) :
    ∀ c' ∈ loopsOf (fnLoop V.P f i), ∀ s, assocL l (firstRegion c') = some s → LoopOK V nt s c' :=
  inner_of ha fun _ _ _ hs => h _ (assocL_mem hs)

theorem loops_inNil {V : Env} {nt : Nat} {c : Code} : ∀ c' ∈ loopsOf c, ∀ s, assocL [] (firstRegion c') = some s → LoopOK V nt s c' := fun _ _ _ h => by cases h

/-- How many temporaries a function has. -/
def ntB (P : Program) (f : FuncId) (nt : Nat) : Bool := match P.funcs[f]? with | some fn => Nat.beq fn.ntmps nt | none => true

theorem ntB_ok {P : Program} {f : FuncId} {nt : Nat} (h : ntB P f nt = true) : ∀ fn, P.funcs[f]? = some fn → fn.ntmps = nt := by
  intro fn hf
  unfold ntB at h
  rw [hf] at h
  exact Nat.eq_of_beq_eq_true h

/-- A function that asks whether its one argument, a slice, is nil. -/
theorem spec_nil {V : Env} {L : Nat → Option LSpec} {f : FuncId} {rounds depth : Nat} {τ : Ty} {r : ResV} {fn : List τ.den → Option r.α} (hG : GoodEnv V)
    (hL : ∀ fn c, V.P.funcs[f]? = some fn → fn.body = some c → ∀ c' ∈ loopsOf c, ∀ s, L (firstRegion c') = some s → LoopOK V fn.ntmps s c')
    (h1 : runFn V L rounds depth f r.kds [.emp] r.dec = fn []) (h2 : ∀ xs, runFn V L rounds depth f r.kds [.lstn τ xs] r.dec = fn xs) :
    SpecOK V.P f (mkSpec (valsOne (valLst τ)) r fn) := by
  intro w0 ok avs args a b hd hb hv
  have hd := (valsOne (valLst τ)).law _ _ hd
  subst hd
  obtain ⟨u, us, hu, h3, h4⟩ := VL_cons (show VL (pcx w0 ok) [AV.lst τ a] args.toList from hv)
  have h4 := VL_nil h4
  subst h4
  have fin : ∀ {avs : List AV}, VL (pcx w0 ok) avs args.toList → runFn V L rounds depth f r.kds avs r.dec = some b →
      Calls V.P f args w0 fun e w' => ∃ v, e = .returned v ∧ Below w0.heap.size w0 w' ∧ Res w0 ok w' (r.enc b) v := by
    intro avs hv' hr
    refine (runFn_ok hG hL hv' hr).mono fun e w' he => ?_
    obtain ⟨v, u, rfl, k1, k2, k3⟩ := he
    rw [r.law _ _ k3] at k2
    exact ⟨u, rfl, k1, k2⟩
  by_cases hn : u = .slice none 0 0
  · have ha : a = [] := by
      have h3 : (pcx w0 ok).DV (.lst τ.sz (a.map τ.enc)) u := h3
      unfold Cx.DV at h3
      generalize he : D.lst τ.sz (a.map τ.enc) = d at h3
      rw [hn] at h3
      cases h3 with
      | nil sz A c hA =>
        injection he with _ he
        exact List.map_eq_nil_iff.1 he
    subst ha
    exact fin (avs := [.emp]) (by rw [hu, hn]; exact ⟨rfl, trivial⟩) (h1.trans hb)
  · exact fin (avs := [.lstn τ a]) (by rw [hu]; exact ⟨⟨h3, hn⟩, trivial⟩) ((h2 a).trans hb)

end Go.Proofs.Mill
