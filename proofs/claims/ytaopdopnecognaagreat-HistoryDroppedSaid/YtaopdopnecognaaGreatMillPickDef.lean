/- world.pick, in parts. -/
import Derived.Test.YtaopdopnecognaaGreatMillSeat3
import Derived.Test.YtaopdopnecognaaGreatMillAll19
import Derived.Test.YtaopdopnecognaaGreatMillMaps
namespace Go.Proofs.Mill
set_option linter.all false
noncomputable def celWorld:Cel:=(Zcr (Zal celConfig (Zal Zb2 (Zal (Zbr 57 .thread) (Zal (Zar .i64) (Zal (Zar .i64) (Zal Zds (Zal (Zbr 65 .mark) (Zbr 50 .event)))))))) Wld (fun y=>⟨y.1,y.2.1,y.2.2.1,y.2.2.2.1,y.2.2.2.2.1,y.2.2.2.2.2.1,y.2.2.2.2.2.2.1,y.2.2.2.2.2.2.2⟩) (fun x=>(x.c,(x.m,(x.t,(x.now,(x.steps,(x.tape,(x.log,x.hist)))))))) (fun _=>rfl))
noncomputable def ZAR (l:List (FuncId×Spec)) (xs:List (FuncId×XSpec)):Env:=envX Tryz.prog E1p hi1 l xs
noncomputable def qC:Code:=Zgt Tryz.prog 77
noncomputable def qBig:Code:=match cBlk (Zaw (Zaw qC)) with | .cond _ a _=>a | c=>c
noncomputable def qA1:Code:=ZaR qBig
noncomputable def qA2:Code:=ZaR (Zaw qBig)
noncomputable def qA3:Code:=ZaR (Zaw (Zaw qBig))
noncomputable def qA4:Code:=ZaR (ZaR (Zaw (Zaw (Zaw qBig))))
noncomputable def ZuP:Code:=Znz (cBlk (Zaw (ZaR (Zaw (Zaw (Zaw qBig))))))
noncomputable def qEnd:Code:=Zaw (Zaw (Zaw (Zaw qBig)))
noncomputable def qV:Vals:=Zaa (ZaA celWorld) (Zaa (Zae .i64) (Zaa (ZaA ZaC) (Zaa (Zap .mark) (Zaa (Zae .i64) (Zac (Zae .i64))))))
noncomputable def qX:Vals:=Zaa (ZaA celWorld) (Zaa (Zae .i64) (Zac (ZaA ZaC)))
noncomputable def Zpi:List (Nat×Kd):=([0,1,4,42,43,44]:List Nat).zip qV.kds
noncomputable def Zpa:List (Nat×Kd):=([0,1,4]:List Nat).zip qX.kds
noncomputable def qp0 (x:Wld) (t:Int):St:=⟨ZbI 0 [.ptr 65536 0,.i t],ZbO celWorld x⟩
noncomputable def qp1 (x:Wld) (t:Int):St:=⟨(10,.i t)::(9,.ptr 65536 0)::(qp0 x t).tm,ZbO celWorld x⟩
noncomputable def qp3 (x:Wld) (t:Int) (c:Nat) (i:Int) (b:Bool) (v:AV):St:=⟨(12,.tup [.i i,.bool b,v])::(11,.cst (.chan (some c)))::(qp1 x t).tm,ZbO celWorld x⟩
noncomputable def qp4 (x:Wld) (t:Int) (c:Nat) (i:Int) (b:Bool) (v:AV):St:=⟨(14,.bool (i == 0))::(13,.i i)::(qp3 x t c i b v).tm,ZbO celWorld x⟩
noncomputable def ZuJ (V:Env) (σ:St):Option qV.α :=
  evK V nL (inlK V 20 6) 1 100 20 qA1 σ fun e σ=>match e with
    | .normal => evK V nL (inlK V 20 6) 1 100 20 qA2 σ fun e σ => (match e with
      | .normal => evK V nL (inlK V 20 6) 1 100 20 qA3 σ fun e σ => (match e with
        | .normal => evK V nL (inlK V 20 6) 1 100 20 qA4 σ fun e σ => (match e with
          | .normal => bif pinned σ then (match Zf6 Zpi σ with
            | some hd=>qV.dec hd
            | none=>none) else none
          | _=>none)
        | _=>none)
      | _=>none)
    | _=>none
noncomputable def Zs5 (e:Ex) (σ:St):Option (qV.α⊕qX.α) :=
  match e with
  | .normal => bif pinned σ then (match Zf6 Zpi σ with
    | some hd=>(match qV.dec hd with | some x=>some (.inl x) | none=>none)
    | none=>none) else none
  | .exit 1 => bif pinned σ then (match Zf6 Zpa σ with
    | some hd=>(match qX.dec hd with | some x=>some (.inr x) | none=>none)
    | none=>none) else none
  | _=>none
noncomputable def ZpC (V:Env) (st:qV.α):Option (qV.α⊕qX.α):=evK V nL (inlK V 20 6) 1 100 20 ZuP (build Zpi (qV.enc st)) Zs5
noncomputable def qFin (e:Ex) (σ:St):Option Wld :=
  match e with
  | .normal => (match look σ.ob 65536 with
    | .box cs => (match Zco celWorld.kds cs ((65536, .dead) :: σ.ob) with
      | some (xs,_)=>celWorld.dec xs
      | none=>none)
    | _=>none)
  | _=>none
noncomputable def Zvn (V:Env) (st:qX.α):Option Wld:=evK V nL (inlK V 20 6) 1 100 20 qEnd (build Zpa (qX.enc st)) qFin
end Go.Proofs.Mill
