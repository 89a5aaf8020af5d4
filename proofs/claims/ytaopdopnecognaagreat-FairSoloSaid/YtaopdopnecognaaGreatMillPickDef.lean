/- world.pick, in parts. -/
import Derived.Test.YtaopdopnecognaaGreatMillSeat3
import Derived.Test.YtaopdopnecognaaGreatMillAll20
import Derived.Test.YtaopdopnecognaaGreatMillMaps
namespace Go.Proofs.Mill
set_option linter.all false

/-- A world whose threads, log and history are its own. -/
noncomputable def celWorld : Cel := (celAs (celApp celConfig (celApp celMemo (celApp (celOwn 57 .thread) (celApp (celInt .i64) (celApp (celInt .i64) (celApp celTape (celApp (celOwn 65 .mark) (celOwn 50 .event)))))))) Wld (fun y => ⟨y.1, y.2.1, y.2.2.1, y.2.2.2.1, y.2.2.2.2.1, y.2.2.2.2.2.1, y.2.2.2.2.2.2.1, y.2.2.2.2.2.2.2⟩) (fun x => (x.c, (x.m, (x.t, (x.now, (x.steps, (x.tape, (x.log, x.hist)))))))) (fun _ => rfl))

noncomputable def env1x (l : List (FuncId × Spec)) (xs : List (FuncId × XSpec)) : Env := envX Tryz.prog E1p hi1 l xs

noncomputable def qC : Code := fnBody Tryz.prog 77
/-- The code behind the select, where there was a turn. -/
noncomputable def qBig : Code := match cBlk (cSeqR (cSeqR qC)) with | .cond _ a _ => a | c => c
noncomputable def qA1 : Code := cSeqL qBig
noncomputable def qA2 : Code := cSeqL (cSeqR qBig)
noncomputable def qA3 : Code := cSeqL (cSeqR (cSeqR qBig))
noncomputable def qA4 : Code := cSeqL (cSeqL (cSeqR (cSeqR (cSeqR qBig))))
noncomputable def qLoop : Code := cLoop (cBlk (cSeqR (cSeqL (cSeqR (cSeqR (cSeqR qBig))))))
noncomputable def qEnd : Code := cSeqR (cSeqR (cSeqR (cSeqR qBig)))

noncomputable def qV : Vals := valsCons (valBox celWorld) (valsCons (valInt .i64) (valsCons (valBox celTurn) (valsCons (valLst .mark) (valsCons (valInt .i64) (valsOne (valInt .i64))))))
noncomputable def qX : Vals := valsCons (valBox celWorld) (valsCons (valInt .i64) (valsOne (valBox celTurn)))
noncomputable def qKeep : List (Nat × Kd) := ([0, 1, 4, 42, 43, 44] : List Nat).zip qV.kds
noncomputable def qKeepX : List (Nat × Kd) := ([0, 1, 4] : List Nat).zip qX.kds

noncomputable def qp0 (x : Wld) (t : Int) : St := ⟨paramsFrom 0 [.ptr 65536 0, .i t], varSt celWorld x⟩
noncomputable def qp1 (x : Wld) (t : Int) : St := ⟨(10, .i t) :: (9, .ptr 65536 0) :: (qp0 x t).tm, varSt celWorld x⟩
noncomputable def qp3 (x : Wld) (t : Int) (c : Nat) (i : Int) (b : Bool) (v : AV) : St := ⟨(12, .tup [.i i, .bool b, v]) :: (11, .cst (.chan (some c))) :: (qp1 x t).tm, varSt celWorld x⟩
noncomputable def qp4 (x : Wld) (t : Int) (c : Nat) (i : Int) (b : Bool) (v : AV) : St := ⟨(14, .bool (i == 0)) :: (13, .i i) :: (qp3 x t c i b v).tm, varSt celWorld x⟩

/-- Up to the loop's head. -/
noncomputable def qHead (V : Env) (σ : St) : Option qV.α :=
  evK V nL (inlK V 20 6) 1 100 20 qA1 σ fun e σ => match e with
    | .normal => evK V nL (inlK V 20 6) 1 100 20 qA2 σ fun e σ => (match e with
      | .normal => evK V nL (inlK V 20 6) 1 100 20 qA3 σ fun e σ => (match e with
        | .normal => evK V nL (inlK V 20 6) 1 100 20 qA4 σ fun e σ => (match e with
          | .normal => bif pinned σ then (match normB qKeep σ with
            | some hd => qV.dec hd
            | none => none) else none
          | _ => none)
        | _ => none)
      | _ => none)
    | _ => none
/-- What a round comes to. -/
noncomputable def qRound (e : Ex) (σ : St) : Option (qV.α ⊕ qX.α) :=
  match e with
  | .normal => bif pinned σ then (match normB qKeep σ with
    | some hd => (match qV.dec hd with | some x => some (.inl x) | none => none)
    | none => none) else none
  | .exit 1 => bif pinned σ then (match normB qKeepX σ with
    | some hd => (match qX.dec hd with | some x => some (.inr x) | none => none)
    | none => none) else none
  | _ => none
/-- A round. -/
noncomputable def qStep (V : Env) (st : qV.α) : Option (qV.α ⊕ qX.α) := evK V nL (inlK V 20 6) 1 100 20 qLoop (build qKeep (qV.enc st)) qRound
/-- Behind the loop. -/
noncomputable def qFin (e : Ex) (σ : St) : Option Wld :=
  match e with
  | .normal => (match look σ.ob 65536 with
    | .box cs => (match expoCells celWorld.kds cs ((65536, .dead) :: σ.ob) with
      | some (xs, _) => celWorld.dec xs
      | none => none)
    | _ => none)
  | _ => none
noncomputable def qTail (V : Env) (st : qX.α) : Option Wld := evK V nL (inlK V 20 6) 1 100 20 qEnd (build qKeepX (qX.enc st)) qFin
end Go.Proofs.Mill
