/- world.pick, in parts. -/
import Derived.Test.YtaopdopnecognaaGreatMillSeat3
import Derived.Test.YtaopdopnecognaaGreatMillAll19
import Derived.Test.YtaopdopnecognaaGreatMillMaps
namespace Go.Proofs.Mill
set_option linter.all false
noncomputable def celWorld:Cel:=(Zcu (Zam celConfig (Zam Zb6 (Zam (Zbr 57 .thread) (Zam (Zar .i64) (Zam (Zar .i64) (Zam Zdz (Zam (Zbr 65 .mark) (Zbr 50 .event)))))))) Wld (fun y=>⟨y.1,y.2.1,y.2.2.1,y.2.2.2.1,y.2.2.2.2.1,y.2.2.2.2.2.1,y.2.2.2.2.2.2.1,y.2.2.2.2.2.2.2⟩) (fun x=>(x.c,(x.m,(x.t,(x.now,(x.steps,(x.tape,(x.log,x.hist)))))))) (fun _=>rfl))
noncomputable def ZBx (l:List (FuncId×Spec)) (xs:List (FuncId×XSpec)):Env:=envX Tryz.prog E1p hi1 l xs
noncomputable def qC:Code:=Zgs Tryz.prog 77
noncomputable def qBig:Code:=match cBlk (Zaw (Zaw qC)) with | .cond _ a _=>a | c=>c
noncomputable def qA1:Code:=ZaT qBig
noncomputable def qA2:Code:=ZaT (Zaw qBig)
noncomputable def qA3:Code:=ZaT (Zaw (Zaw qBig))
noncomputable def qA4:Code:=ZaT (ZaT (Zaw (Zaw (Zaw qBig))))
noncomputable def Zvy:Code:=ZnS (cBlk (Zaw (ZaT (Zaw (Zaw (Zaw qBig))))))
noncomputable def qEnd:Code:=Zaw (Zaw (Zaw (Zaw qBig)))
noncomputable def qV:Vals:=Zaa (Zay celWorld) (Zaa (Zad .i64) (Zaa (Zay ZaD) (Zaa (Zap .mark) (Zaa (Zad .i64) (Zac (Zad .i64))))))
noncomputable def qX:Vals:=Zaa (Zay celWorld) (Zaa (Zad .i64) (Zac (Zay ZaD)))
noncomputable def Zpp:List (Nat×Kd):=([0,1,4,42,43,44]:List Nat).zip qV.kds
noncomputable def ZpT:List (Nat×Kd):=([0,1,4]:List Nat).zip qX.kds
noncomputable def qp0 (x:Wld) (t:Int):St:=⟨ZbM 0 [.ptr 65536 0,.i t],ZbR celWorld x⟩
noncomputable def qp1 (x:Wld) (t:Int):St:=⟨(10,.i t)::(9,.ptr 65536 0)::(qp0 x t).tm,ZbR celWorld x⟩
noncomputable def qp3 (x:Wld) (t:Int) (c:Nat) (i:Int) (b:Bool) (v:AV):St:=⟨(12,.tup [.i i,.bool b,v])::(11,.cst (.chan (some c)))::(qp1 x t).tm,ZbR celWorld x⟩
noncomputable def qp4 (x:Wld) (t:Int) (c:Nat) (i:Int) (b:Bool) (v:AV):St:=⟨(14,.bool (i == 0))::(13,.i i)::(qp3 x t c i b v).tm,ZbR celWorld x⟩
noncomputable def Zvx (V:Env) (σ:St):Option qV.α :=
  evK V nL (inlK V 20 6) 1 100 20 qA1 σ fun e σ=>match e with
    | .normal => evK V nL (inlK V 20 6) 1 100 20 qA2 σ fun e σ => (match e with
      | .normal => evK V nL (inlK V 20 6) 1 100 20 qA3 σ fun e σ => (match e with
        | .normal => evK V nL (inlK V 20 6) 1 100 20 qA4 σ fun e σ => (match e with
          | .normal => bif pinned σ then (match Zf5 Zpp σ with
            | some hd=>qV.dec hd
            | none=>none) else none
          | _=>none)
        | _=>none)
      | _=>none)
    | _=>none
noncomputable def Zsn (e:Ex) (σ:St):Option (qV.α⊕qX.α) :=
  match e with
  | .normal => bif pinned σ then (match Zf5 Zpp σ with
    | some hd=>(match qV.dec hd with | some x=>some (.inl x) | none=>none)
    | none=>none) else none
  | .exit 1 => bif pinned σ then (match Zf5 ZpT σ with
    | some hd=>(match qX.dec hd with | some x=>some (.inr x) | none=>none)
    | none=>none) else none
  | _=>none
noncomputable def ZpN (V:Env) (st:qV.α):Option (qV.α⊕qX.α):=evK V nL (inlK V 20 6) 1 100 20 Zvy (build Zpp (qV.enc st)) Zsn
noncomputable def qFin (e:Ex) (σ:St):Option Wld :=
  match e with
  | .normal => (match look σ.ob 65536 with
    | .box cs => (match Zcq celWorld.kds cs ((65536, .dead) :: σ.ob) with
      | some (xs,_)=>celWorld.dec xs
      | none=>none)
    | _=>none)
  | _=>none
noncomputable def ZuP (V:Env) (st:qX.α):Option Wld:=evK V nL (inlK V 20 6) 1 100 20 qEnd (build ZpT (qX.enc st)) qFin
end Go.Proofs.Mill
