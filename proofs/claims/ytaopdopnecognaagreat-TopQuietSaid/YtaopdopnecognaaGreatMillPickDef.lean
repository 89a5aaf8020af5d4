/- world.pick, in parts. -/
import Derived.Test.YtaopdopnecognaaGreatMillSeat3
import Derived.Test.YtaopdopnecognaaGreatMillAll19
import Derived.Test.YtaopdopnecognaaGreatMillMaps
set_option linter.all false
noncomputable section
namespace Go.Proofs.Mill
def celWorld:Cel:=(ZcC (Zam celConfig (Zam Zce (Zam (ZbA 57 .thread) (Zam (Zav .i64) (Zam (Zav .i64) (Zam ZdB (Zam (ZbA 65 .mark) (ZbA 50 .event)))))))) Wld (fun y=>⟨y.1,y.2.1,y.2.2.1,y.2.2.2.1,y.2.2.2.2.1,y.2.2.2.2.2.1,y.2.2.2.2.2.2.1,y.2.2.2.2.2.2.2⟩) (fun x=>(x.c,(x.m,(x.t,(x.now,(x.steps,(x.tape,(x.log,x.hist)))))))) (fun _=>rfl))
def ZAH (l:List (FuncId×Spec)) (xs:List (FuncId×XSpec)):Env:=envX Tryz.prog E1p hi1 l xs
def qC:Code:=ZgQ Tryz.prog 77
def qBig:Code:=match cBlk (Zaz (Zaz qC)) with | .cond _ a _=>a | c=>c
def qA1:Code:=ZaX qBig
def qA2:Code:=ZaX (Zaz qBig)
def qA3:Code:=ZaX (Zaz (Zaz qBig))
def qA4:Code:=ZaX (ZaX (Zaz (Zaz (Zaz qBig))))
def ZwF:Code:=ZoG (cBlk (Zaz (ZaX (Zaz (Zaz (Zaz qBig))))))
def qEnd:Code:=Zaz (Zaz (Zaz (Zaz qBig)))
def qV:Vals:=Zaa (Zat celWorld) (Zaa (Zae .i64) (Zaa (Zat ZaF) (Zaa (Zao .mark) (Zaa (Zae .i64) (Zac (Zae .i64))))))
def qX:Vals:=Zaa (Zat celWorld) (Zaa (Zae .i64) (Zac (Zat ZaF)))
def Zqq:List (Nat×Kd):=([0,1,4,42,43,44]:List Nat).zip qV.kds
def Zqf:List (Nat×Kd):=([0,1,4]:List Nat).zip qX.kds
def qp0 (x:Wld) (t:Int):St:=⟨ZbO 0 [.ptr 65536 0,.i t],ZbS celWorld x⟩
def qp1 (x:Wld) (t:Int):St:=⟨(10,.i t)::(9,.ptr 65536 0)::(qp0 x t).tm,ZbS celWorld x⟩
def qp3 (x:Wld) (t:Int) (c:Nat) (i:Int) (b:Bool) (v:AV):St:=⟨(12,.tup [.i i,.bool b,v])::(11,.cst (.chan (some c)))::(qp1 x t).tm,ZbS celWorld x⟩
def qp4 (x:Wld) (t:Int) (c:Nat) (i:Int) (b:Bool) (v:AV):St:=⟨(14,.bool (i == 0))::(13,.i i)::(qp3 x t c i b v).tm,ZbS celWorld x⟩
def ZwJ (V:Env) (σ:St):Option qV.α :=
 evK V nL (inlK V 20 6) 1 100 20 qA1 σ fun e σ=>match e with
   | .normal => evK V nL (inlK V 20 6) 1 100 20 qA2 σ fun e σ => (match e with
     | .normal => evK V nL (inlK V 20 6) 1 100 20 qA3 σ fun e σ => (match e with
       | .normal => evK V nL (inlK V 20 6) 1 100 20 qA4 σ fun e σ => (match e with
         | .normal => bif pinned σ then (match Zgl Zqq σ with
           | some hd=>qV.dec hd
           | none=>none) else none
         | _=>none)
       | _=>none)
     | _=>none)
   | _=>none
def ZtZ (e:Ex) (σ:St):Option (qV.α⊕qX.α) := match e with
 | .normal => bif pinned σ then (match Zgl Zqq σ with
  | some hd=>(match qV.dec hd with | some x=>some (.inl x) | none=>none)
  | none=>none) else none
 | .exit 1 => bif pinned σ then (match Zgl Zqf σ with
  | some hd=>(match qX.dec hd with | some x=>some (.inr x) | none=>none)
  | none=>none) else none
 | _=>none
def Zp8 (V:Env) (st:qV.α):Option (qV.α⊕qX.α):=evK V nL (inlK V 20 6) 1 100 20 ZwF (build Zqq (qV.enc st)) ZtZ
def qFin (e:Ex) (σ:St):Option Wld := match e with
 | .normal => (match look σ.ob 65536 with
  | .box cs => (match Zcu celWorld.kds cs ((65536, .dead) :: σ.ob) with
   | some (xs,_)=>celWorld.dec xs
   | none=>none)
  | _=>none)
 | _=>none
def Zwe (V:Env) (st:qX.α):Option Wld:=evK V nL (inlK V 20 6) 1 100 20 qEnd (build Zqf (qX.enc st)) qFin
end Go.Proofs.Mill
