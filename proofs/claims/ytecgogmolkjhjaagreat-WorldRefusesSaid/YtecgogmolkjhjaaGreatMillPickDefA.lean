/- world.pick, in parts. -/
import Derived.Test.YtecgogmolkjhjaaGreatMillSeat2
import Derived.Test.YtecgogmolkjhjaaGreatMillAll19
import Derived.Test.YtecgogmolkjhjaaGreatMillMaps
set_option linter.all false
noncomputable section
namespace Go.Proofs.Mill
def celWorld:Cel:=(Za5 (Zae celConfig (Zae ZaB (Zae (ZaJ 33 .thread) (Zae (Zao .i64) (Zae (Zao .i64) (Zae Zbk (Zae (ZaJ 74 .mark) (ZaJ 104 .event)))))))) Wld (fun y=>⟨y.1,y.2.1,y.2.2.1,y.2.2.2.1,y.2.2.2.2.1,y.2.2.2.2.2.1,y.2.2.2.2.2.2.1,y.2.2.2.2.2.2.2⟩) (fun x=>(x.c,(x.m,(x.t,(x.now,(x.steps,(x.tape,(x.log,x.hist)))))))) (fun _=>rfl))
def ZB7 (l:List (FuncId×Spec)) (xs:List (FuncId×XSpec)):Env:=envX Tryz.prog E1p hi1 l xs
def qC:Code:=ZkT Tryz.prog 124
def qBig:Code:=match cBlk (ZaR (ZaR qC)) with | .cond _ a _=>a | c=>c
def qA1:Code:=Zbq qBig
def qA2:Code:=Zbq (ZaR qBig)
def qA3:Code:=Zbq (ZaR (ZaR qBig))
def qA4:Code:=Zbq (Zbq (ZaR (ZaR (ZaR qBig))))
def Zyr:Code:=ZxO (cBlk (ZaR (Zbq (ZaR (ZaR (ZaR qBig))))))
def qEnd:Code:=ZaR (ZaR (ZaR (ZaR qBig)))
def qV:Vals:=Zaa (Zak celWorld) (Zaa (Zad .i64) (Zaa (Zak Zas) (Zaa (Zau .mark) (Zaa (Zad .i64) (Zac (Zad .i64))))))
def qX:Vals:=Zaa (Zak celWorld) (Zaa (Zad .i64) (Zac (Zak Zas)))
def Zq0:List (Nat×Kd):=([0,1,4,42,43,44]:List Nat).zip qV.kds
def Zqt:List (Nat×Kd):=([0,1,4]:List Nat).zip qX.kds
def qp0 (x:Wld) (t:Int):St:=⟨Zb1 0 [.ptr 65536 0,.i t],ZbX celWorld x⟩
def qp1 (x:Wld) (t:Int):St:=⟨(10,.i t)::(9,.ptr 65536 0)::(qp0 x t).tm,ZbX celWorld x⟩
def qp3 (x:Wld) (t:Int) (c:Nat) (i:Int) (b:Bool) (v:AV):St:=⟨(12,.tup [.i i,.bool b,v])::(11,.cst (.chan (some c)))::(qp1 x t).tm,ZbX celWorld x⟩
def qp4 (x:Wld) (t:Int) (c:Nat) (i:Int) (b:Bool) (v:AV):St:=⟨(14,.bool (i == 0))::(13,.i i)::(qp3 x t c i b v).tm,ZbX celWorld x⟩
def Zx4 (V:Env) (σ:St):Option qV.α :=
 evK V nL (inlK V 20 6) 1 100 20 qA1 σ fun e σ=>match e with
   | .normal => evK V nL (inlK V 20 6) 1 100 20 qA2 σ fun e σ => (match e with
     | .normal => evK V nL (inlK V 20 6) 1 100 20 qA3 σ fun e σ => (match e with
       | .normal => evK V nL (inlK V 20 6) 1 100 20 qA4 σ fun e σ => (match e with
         | .normal => bif pinned σ then (match Zgf Zq0 σ with
           | some hd=>qV.dec hd
           | none=>none) else none
         | _=>none)
       | _=>none)
     | _=>none)
   | _=>none
def ZuE (e:Ex) (σ:St):Option (qV.α⊕qX.α) := match e with
 | .normal => bif pinned σ then (match Zgf Zq0 σ with
  | some hd=>(match qV.dec hd with | some x=>some (.inl x) | none=>none)
  | none=>none) else none
 | .exit 1 => bif pinned σ then (match Zgf Zqt σ with
  | some hd=>(match qX.dec hd with | some x=>some (.inr x) | none=>none)
  | none=>none) else none
 | _=>none
def Zrd (V:Env) (st:qV.α):Option (qV.α⊕qX.α):=evK V nL (inlK V 20 6) 1 100 20 Zyr (build Zq0 (qV.enc st)) ZuE
def qFin (e:Ex) (σ:St):Option Wld := match e with
 | .normal => (match look σ.ob 65536 with
  | .box cs => (match Zcw celWorld.kds cs ((65536, .dead) :: σ.ob) with
   | some (xs,_)=>celWorld.dec xs
   | none=>none)
  | _=>none)
 | _=>none
def ZxT (V:Env) (st:qX.α):Option Wld:=evK V nL (inlK V 20 6) 1 100 20 qEnd (build Zqt (qX.enc st)) qFin
end Go.Proofs.Mill
