/- slices.Repeat, in parts. -/
import Derived.Test.YtaopdopnecognaaGreatMillSeat3
import Derived.Test.YtaopdopnecognaaGreatMillMaps
import Derived.Test.YtaopdopnecognaaGreatMillCopy
namespace Go.Proofs.Mill
set_option linter.all false
noncomputable def rC : Code := fnBody Tryz.prog 58
noncomputable def rC0 : Code := cSeqL rC
noncomputable def rC1 : Code := cSeqL (cSeqR rC)
noncomputable def rC3 : Code := cSeqL (cSeqR (cSeqR rC))
noncomputable def rC4 : Code := cSeqL (cSeqR (cSeqR (cSeqR rC)))
noncomputable def rC6 : Code := cSeqL (cSeqR (cSeqR (cSeqR (cSeqR rC))))
noncomputable def rOps7 : Array Oper := cOps (cSeqL (cSeqR (cSeqR (cSeqR (cSeqR (cSeqR rC))))))
noncomputable def rRest : Code := cSeqR (cSeqR (cSeqR (cSeqR (cSeqR (cSeqR rC)))))
noncomputable def rLoop : Code := cLoop (cBlk (cSeqL rRest))
noncomputable def rL1 : Code := cSeqL rLoop
noncomputable def rOps9 : Array Oper := cOps (cBlk (cSeqR rLoop))
noncomputable def rEnd : Code := cSeqR rRest
noncomputable def rVA : Vals := valsCons (valLst .thread) (valsOne (valOwn 57 .thread))
noncomputable def rKeepA : List (Nat × Kd) := ([0, 7] : List Nat).zip rVA.kds
noncomputable def rVB : Vals := valsCons (valOwn 57 .thread) (valsOne (valInt .i64))
noncomputable def rKeepB : List (Nat × Kd) := ([7, 8] : List Nat).zip rVB.kds
noncomputable def rK6 (e : Ex) (σ : St) : Option rVA.α := match e with
  | .normal => (match normB rKeepA σ with
    | some hd => rVA.dec hd
    | none => none)
  | _ => none
noncomputable def rK4 (V : Env) (e : Ex) (σ : St) : Option rVA.α := match e with
  | .normal => evK V nL (inlK V 20 6) 1 48 20 rC6 σ rK6
  | _ => none
noncomputable def rK3 (V : Env) (e : Ex) (σ : St) : Option rVA.α := match e with
  | .normal => evK V nL (inlK V 20 6) 1 48 20 rC4 σ (rK4 V)
  | _ => none
noncomputable def rK1 (V : Env) (e : Ex) (σ : St) : Option rVA.α := match e with
  | .normal => evK V nL (inlK V 20 6) 1 48 20 rC3 σ (rK3 V)
  | _ => none
noncomputable def rK0 (V : Env) (e : Ex) (σ : St) : Option rVA.α := match e with
  | .normal => evK V nL (inlK V 20 6) 1 48 20 rC1 σ (rK1 V)
  | _ => none
noncomputable def rHead (V : Env) (xs : List Thread) (n : Int) : Option rVA.α := evK V nL (inlK V 20 6) 1 48 20 rC0 ⟨paramsFrom 0 [.lst .thread xs, .i n], []⟩ (rK0 V)
/-- A round's test: true: it goes on. -/
noncomputable def rTest (V : Env) (st : rVB.α) : Option (Bool × rVB.α) := evK V nL (inlK V 20 6) 1 48 20 rL1 (build rKeepB (rVB.enc st)) fun e σ => match e with
  | .normal => (match normB rKeepB σ with
    | some hd => (match rVB.dec hd with | some x => some (true, x) | none => none)
    | none => none)
  | .exit 0 => (match normB rKeepB σ with
    | some hd => (match rVB.dec hd with | some x => some (false, x) | none => none)
    | none => none)
  | _ => none
noncomputable def rRes : ResV := resOne (valOwn 57 .thread)
noncomputable def rFin (V : Env) (st : rVB.α) : Option (List Thread) := evK V nL (inlK V 20 6) 1 48 20 rEnd (build rKeepB (rVB.enc st)) fun e σ => match e with
  | .ret => (resRd V Tryz.f58.results.toList fun vs => .ret (resOf vs)).runK σ [] (fun v _ => match expoRes rRes.kds v σ.ob with | some r => rRes.dec r | none => none)
  | _ => none
end Go.Proofs.Mill
