/- world.pick, in parts. -/
import Derived.Test.YtecgogmolkjhjaaGreatMillSeat2
import Derived.Test.YtecgogmolkjhjaaGreatMillAll19
import Derived.Test.YtecgogmolkjhjaaGreatMillMaps
set_option linter.all false
noncomputable section
namespace Go.Proofs.Mill
def celWorld:Cel:=(Zbc (Zae celConfig (Zae ZaD (Zae (ZaL 33 .thread) (Zae (Zao .i64) (Zae (Zao .i64) (Zae Zbo (Zae (ZaL 74 .mark) (ZaL 104 .event)))))))) Wld (fun y=>⟨y.1,y.2.1,y.2.2.1,y.2.2.2.1,y.2.2.2.2.1,y.2.2.2.2.2.1,y.2.2.2.2.2.2.1,y.2.2.2.2.2.2.2⟩) (fun x=>(x.c,(x.m,(x.t,(x.now,(x.steps,(x.tape,(x.log,x.hist)))))))) (fun _=>rfl))
def ZGr (l:List (FuncId×Spec)) (xs:List (FuncId×XSpec)):Env:=envX Tryz.prog E1p hi1 l xs
def qC:Code:=Znc Tryz.prog 124
def qBig:Code:=match cBlk (ZaU (ZaU qC)) with | .cond _ a _=>a | c=>c
def qA1:Code:=Zbw qBig
def qA2:Code:=Zbw (ZaU qBig)
def qA3:Code:=Zbw (ZaU (ZaU qBig))
def qA4:Code:=Zbw (Zbw (ZaU (ZaU (ZaU qBig))))
def ZzO:Code:=ZyK (cBlk (ZaU (Zbw (ZaU (ZaU (ZaU qBig))))))
def qEnd:Code:=ZaU (ZaU (ZaU (ZaU qBig)))
def qV:Vals:=Zaa (Zak celWorld) (Zaa (Zad .i64) (Zaa (Zak Zau) (Zaa (Zax .mark) (Zaa (Zad .i64) (Zac (Zad .i64))))))
def qX:Vals:=Zaa (Zak celWorld) (Zaa (Zad .i64) (Zac (Zak Zau)))
def Ztz:List (Nat×Kd):=([0,1,4,42,43,44]:List Nat).zip qV.kds
def ZsB:List (Nat×Kd):=([0,1,4]:List Nat).zip qX.kds
def qp0 (x:Wld) (t:Int):St:=⟨Zci 0 [.ptr 65536 0,.i t],Zb4 celWorld x⟩
def qp1 (x:Wld) (t:Int):St:=⟨(10,.i t)::(9,.ptr 65536 0)::(qp0 x t).tm,Zb4 celWorld x⟩
def qp3 (x:Wld) (t:Int) (c:Nat) (i:Int) (b:Bool) (v:AV):St:=⟨(12,.tup [.i i,.bool b,v])::(11,.cst (.chan (some c)))::(qp1 x t).tm,Zb4 celWorld x⟩
def qp4 (x:Wld) (t:Int) (c:Nat) (i:Int) (b:Bool) (v:AV):St:=⟨(14,.bool (i == 0))::(13,.i i)::(qp3 x t c i b v).tm,Zb4 celWorld x⟩
def Zym (V:Env) (σ:St):Option qV.α :=
 evK V nL (inlK V 20 6) 1 100 20 qA1 σ fun e σ=>match e with
   | .normal => evK V nL (inlK V 20 6) 1 100 20 qA2 σ fun e σ => (match e with
     | .normal => evK V nL (inlK V 20 6) 1 100 20 qA3 σ fun e σ => (match e with
       | .normal => evK V nL (inlK V 20 6) 1 100 20 qA4 σ fun e σ => (match e with
         | .normal => bif pinned σ then (match Zg5 Ztz σ with
           | some hd=>qV.dec hd
           | none=>none) else none
         | _=>none)
       | _=>none)
     | _=>none)
   | _=>none
def Zv9 (e:Ex) (σ:St):Option (qV.α⊕qX.α) := match e with
 | .normal => bif pinned σ then (match Zg5 Ztz σ with
  | some hd=>(match qV.dec hd with | some x=>some (.inl x) | none=>none)
  | none=>none) else none
 | .exit 1 => bif pinned σ then (match Zg5 ZsB σ with
  | some hd=>(match qX.dec hd with | some x=>some (.inr x) | none=>none)
  | none=>none) else none
 | _=>none
def ZsY (V:Env) (st:qV.α):Option (qV.α⊕qX.α):=evK V nL (inlK V 20 6) 1 100 20 ZzO (build Ztz (qV.enc st)) Zv9
def qFin (e:Ex) (σ:St):Option Wld := match e with
 | .normal => (match look σ.ob 65536 with
  | .box cs => (match ZcG celWorld.kds cs ((65536, .dead) :: σ.ob) with
   | some (xs,_)=>celWorld.dec xs
   | none=>none)
  | _=>none)
 | _=>none
def ZzH (V:Env) (st:qX.α):Option Wld:=evK V nL (inlK V 20 6) 1 100 20 qEnd (build ZsB (qX.enc st)) qFin
end Go.Proofs.Mill
