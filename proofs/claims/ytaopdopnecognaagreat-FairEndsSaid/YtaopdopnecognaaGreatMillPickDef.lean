/- world.pick, in parts. -/
import Derived.Test.YtaopdopnecognaaGreatMillSeat3
import Derived.Test.YtaopdopnecognaaGreatMillAll19
import Derived.Test.YtaopdopnecognaaGreatMillMaps
set_option linter.all false
noncomputable section
namespace Go.Proofs.Mill
def celWorld:Cel:=(ZcA (Zal celConfig (Zal Zce (Zal (ZbB 57 .thread) (Zal (Zas .i64) (Zal (Zas .i64) (Zal ZdO (Zal (ZbB 65 .mark) (ZbB 50 .event)))))))) Wld (fun y=>⟨y.1,y.2.1,y.2.2.1,y.2.2.2.1,y.2.2.2.2.1,y.2.2.2.2.2.1,y.2.2.2.2.2.2.1,y.2.2.2.2.2.2.2⟩) (fun x=>(x.c,(x.m,(x.t,(x.now,(x.steps,(x.tape,(x.log,x.hist)))))))) (fun _=>rfl))
def ZBP (l:List (FuncId×Spec)) (xs:List (FuncId×XSpec)):Env:=envX Tryz.prog E1p hi1 l xs
def qC:Code:=Zg0 Tryz.prog 77
def qBig:Code:=match cBlk (Zax (Zax qC)) with | .cond _ a _=>a | c=>c
def qA1:Code:=ZaU qBig
def qA2:Code:=ZaU (Zax qBig)
def qA3:Code:=ZaU (Zax (Zax qBig))
def qA4:Code:=ZaU (ZaU (Zax (Zax (Zax qBig))))
def ZwH:Code:=Zom (cBlk (Zax (ZaU (Zax (Zax (Zax qBig))))))
def qEnd:Code:=Zax (Zax (Zax (Zax qBig)))
def qV:Vals:=Zaa (ZaD celWorld) (Zaa (Zaf .i64) (Zaa (ZaD ZaF) (Zaa (Zao .mark) (Zaa (Zaf .i64) (Zac (Zaf .i64))))))
def qX:Vals:=Zaa (ZaD celWorld) (Zaa (Zaf .i64) (Zac (ZaD ZaF)))
def Zqg:List (Nat×Kd):=([0,1,4,42,43,44]:List Nat).zip qV.kds
def ZqE:List (Nat×Kd):=([0,1,4]:List Nat).zip qX.kds
def qp0 (x:Wld) (t:Int):St:=⟨ZbQ 0 [.ptr 65536 0,.i t],ZbV celWorld x⟩
def qp1 (x:Wld) (t:Int):St:=⟨(10,.i t)::(9,.ptr 65536 0)::(qp0 x t).tm,ZbV celWorld x⟩
def qp3 (x:Wld) (t:Int) (c:Nat) (i:Int) (b:Bool) (v:AV):St:=⟨(12,.tup [.i i,.bool b,v])::(11,.cst (.chan (some c)))::(qp1 x t).tm,ZbV celWorld x⟩
def qp4 (x:Wld) (t:Int) (c:Nat) (i:Int) (b:Bool) (v:AV):St:=⟨(14,.bool (i == 0))::(13,.i i)::(qp3 x t c i b v).tm,ZbV celWorld x⟩
def ZwJ (V:Env) (σ:St):Option qV.α :=
 evK V nL (inlK V 20 6) 1 100 20 qA1 σ fun e σ=>match e with
   | .normal => evK V nL (inlK V 20 6) 1 100 20 qA2 σ fun e σ => (match e with
     | .normal => evK V nL (inlK V 20 6) 1 100 20 qA3 σ fun e σ => (match e with
       | .normal => evK V nL (inlK V 20 6) 1 100 20 qA4 σ fun e σ => (match e with
         | .normal => bif pinned σ then (match Zgu Zqg σ with
           | some hd=>qV.dec hd
           | none=>none) else none
         | _=>none)
       | _=>none)
     | _=>none)
   | _=>none
def Ztt (e:Ex) (σ:St):Option (qV.α⊕qX.α) := match e with
 | .normal => bif pinned σ then (match Zgu Zqg σ with
  | some hd=>(match qV.dec hd with | some x=>some (.inl x) | none=>none)
  | none=>none) else none
 | .exit 1 => bif pinned σ then (match Zgu ZqE σ with
  | some hd=>(match qX.dec hd with | some x=>some (.inr x) | none=>none)
  | none=>none) else none
 | _=>none
def ZpV (V:Env) (st:qV.α):Option (qV.α⊕qX.α):=evK V nL (inlK V 20 6) 1 100 20 ZwH (build Zqg (qV.enc st)) Ztt
def qFin (e:Ex) (σ:St):Option Wld := match e with
 | .normal => (match look σ.ob 65536 with
  | .box cs => (match Zcu celWorld.kds cs ((65536, .dead) :: σ.ob) with
   | some (xs,_)=>celWorld.dec xs
   | none=>none)
  | _=>none)
 | _=>none
def Zv6 (V:Env) (st:qX.α):Option Wld:=evK V nL (inlK V 20 6) 1 100 20 qEnd (build ZqE (qX.enc st)) qFin
end Go.Proofs.Mill
