/- world.pick, in parts. -/
import Derived.Test.YtaopdopnecognaaGreatMillSeat3
import Derived.Test.YtaopdopnecognaaGreatMillAll19
import Derived.Test.YtaopdopnecognaaGreatMillMaps
set_option linter.all false
noncomputable section
namespace Go.Proofs.Mill
def celWorld:Cel:=(Zcx (Zam celConfig (Zam Zcd (Zam (ZbA 57 .thread) (Zam (Zau .i64) (Zam (Zau .i64) (Zam ZdV (Zam (ZbA 65 .mark) (ZbA 50 .event)))))))) Wld (fun y=>⟨y.1,y.2.1,y.2.2.1,y.2.2.2.1,y.2.2.2.2.1,y.2.2.2.2.2.1,y.2.2.2.2.2.2.1,y.2.2.2.2.2.2.2⟩) (fun x=>(x.c,(x.m,(x.t,(x.now,(x.steps,(x.tape,(x.log,x.hist)))))))) (fun _=>rfl))
def ZAz (l:List (FuncId×Spec)) (xs:List (FuncId×XSpec)):Env:=envX Tryz.prog E1p hi1 l xs
def qC:Code:=Zg7 Tryz.prog 77
def qBig:Code:=match cBlk (Zax (Zax qC)) with | .cond _ a _=>a | c=>c
def qA1:Code:=ZaW qBig
def qA2:Code:=ZaW (Zax qBig)
def qA3:Code:=ZaW (Zax (Zax qBig))
def qA4:Code:=ZaW (ZaW (Zax (Zax (Zax qBig))))
def Zxt:Code:=ZoC (cBlk (Zax (ZaW (Zax (Zax (Zax qBig))))))
def qEnd:Code:=Zax (Zax (Zax (Zax qBig)))
def qV:Vals:=Zaa (Zav celWorld) (Zaa (Zae .i64) (Zaa (Zav ZaG) (Zaa (Zap .mark) (Zaa (Zae .i64) (Zad (Zae .i64))))))
def qX:Vals:=Zaa (Zav celWorld) (Zaa (Zae .i64) (Zad (Zav ZaG)))
def ZqU:List (Nat×Kd):=([0,1,4,42,43,44]:List Nat).zip qV.kds
def Zqb:List (Nat×Kd):=([0,1,4]:List Nat).zip qX.kds
def qp0 (x:Wld) (t:Int):St:=⟨ZbU 0 [.ptr 65536 0,.i t],Zbh celWorld x⟩
def qp1 (x:Wld) (t:Int):St:=⟨(10,.i t)::(9,.ptr 65536 0)::(qp0 x t).tm,Zbh celWorld x⟩
def qp3 (x:Wld) (t:Int) (c:Nat) (i:Int) (b:Bool) (v:AV):St:=⟨(12,.tup [.i i,.bool b,v])::(11,.cst (.chan (some c)))::(qp1 x t).tm,Zbh celWorld x⟩
def qp4 (x:Wld) (t:Int) (c:Nat) (i:Int) (b:Bool) (v:AV):St:=⟨(14,.bool (i == 0))::(13,.i i)::(qp3 x t c i b v).tm,Zbh celWorld x⟩
def Zxk (V:Env) (σ:St):Option qV.α :=
 evK V nL (inlK V 20 6) 1 100 20 qA1 σ fun e σ=>match e with
   | .normal => evK V nL (inlK V 20 6) 1 100 20 qA2 σ fun e σ => (match e with
     | .normal => evK V nL (inlK V 20 6) 1 100 20 qA3 σ fun e σ => (match e with
       | .normal => evK V nL (inlK V 20 6) 1 100 20 qA4 σ fun e σ => (match e with
         | .normal => bif pinned σ then (match ZgO ZqU σ with
           | some hd=>qV.dec hd
           | none=>none) else none
         | _=>none)
       | _=>none)
     | _=>none)
   | _=>none
def Ztr (e:Ex) (σ:St):Option (qV.α⊕qX.α) := match e with
 | .normal => bif pinned σ then (match ZgO ZqU σ with
  | some hd=>(match qV.dec hd with | some x=>some (.inl x) | none=>none)
  | none=>none) else none
 | .exit 1 => bif pinned σ then (match ZgO Zqb σ with
  | some hd=>(match qX.dec hd with | some x=>some (.inr x) | none=>none)
  | none=>none) else none
 | _=>none
def Zqv (V:Env) (st:qV.α):Option (qV.α⊕qX.α):=evK V nL (inlK V 20 6) 1 100 20 Zxt (build ZqU (qV.enc st)) Ztr
def qFin (e:Ex) (σ:St):Option Wld := match e with
 | .normal => (match look σ.ob 65536 with
  | .box cs => (match Zcb celWorld.kds cs ((65536, .dead) :: σ.ob) with
   | some (xs,_)=>celWorld.dec xs
   | none=>none)
  | _=>none)
 | _=>none
def Zxn (V:Env) (st:qX.α):Option Wld:=evK V nL (inlK V 20 6) 1 100 20 qEnd (build Zqb (qX.enc st)) qFin
end Go.Proofs.Mill
