/- world.pick, in parts. -/
import Derived.Test.YtecgogmolkjhjaaGreatMillSeat2
import Derived.Test.YtecgogmolkjhjaaGreatMillAll19
import Derived.Test.YtecgogmolkjhjaaGreatMillMaps
set_option linter.all false
noncomputable section
namespace Go.Proofs.Mill
def celWorld:Cel:=(Za8 (Zae celConfig (Zae ZaB (Zae (ZaJ 33 .thread) (Zae (Zao .i64) (Zae (Zao .i64) (Zae Zbj (Zae (ZaJ 74 .mark) (ZaJ 104 .event)))))))) Wld (fun y=>⟨y.1,y.2.1,y.2.2.1,y.2.2.2.1,y.2.2.2.2.1,y.2.2.2.2.2.1,y.2.2.2.2.2.2.1,y.2.2.2.2.2.2.2⟩) (fun x=>(x.c,(x.m,(x.t,(x.now,(x.steps,(x.tape,(x.log,x.hist)))))))) (fun _=>rfl))
def ZFa (l:List (FuncId×Spec)) (xs:List (FuncId×XSpec)):Env:=envX Tryz.prog E1p hi1 l xs
def qC:Code:=Zkh Tryz.prog 124
def qBig:Code:=match cBlk (ZaR (ZaR qC)) with | .cond _ a _=>a | c=>c
def qA1:Code:=Zbn qBig
def qA2:Code:=Zbn (ZaR qBig)
def qA3:Code:=Zbn (ZaR (ZaR qBig))
def qA4:Code:=Zbn (Zbn (ZaR (ZaR (ZaR qBig))))
def ZxT:Code:=Zx8 (cBlk (ZaR (Zbn (ZaR (ZaR (ZaR qBig))))))
def qEnd:Code:=ZaR (ZaR (ZaR (ZaR qBig)))
def qV:Vals:=Zaa (Zak celWorld) (Zaa (Zad .i64) (Zaa (Zak Zas) (Zaa (Zau .mark) (Zaa (Zad .i64) (Zac (Zad .i64))))))
def qX:Vals:=Zaa (Zak celWorld) (Zaa (Zad .i64) (Zac (Zak Zas)))
def Zqj:List (Nat×Kd):=([0,1,4,42,43,44]:List Nat).zip qV.kds
def Zqs:List (Nat×Kd):=([0,1,4]:List Nat).zip qX.kds
def qp0 (x:Wld) (t:Int):St:=⟨Zb1 0 [.ptr 65536 0,.i t],ZbU celWorld x⟩
def qp1 (x:Wld) (t:Int):St:=⟨(10,.i t)::(9,.ptr 65536 0)::(qp0 x t).tm,ZbU celWorld x⟩
def qp3 (x:Wld) (t:Int) (c:Nat) (i:Int) (b:Bool) (v:AV):St:=⟨(12,.tup [.i i,.bool b,v])::(11,.cst (.chan (some c)))::(qp1 x t).tm,ZbU celWorld x⟩
def qp4 (x:Wld) (t:Int) (c:Nat) (i:Int) (b:Bool) (v:AV):St:=⟨(14,.bool (i == 0))::(13,.i i)::(qp3 x t c i b v).tm,ZbU celWorld x⟩
def Zxt (V:Env) (σ:St):Option qV.α :=
 evK V nL (inlK V 20 6) 1 100 20 qA1 σ fun e σ=>match e with
   | .normal => evK V nL (inlK V 20 6) 1 100 20 qA2 σ fun e σ => (match e with
     | .normal => evK V nL (inlK V 20 6) 1 100 20 qA3 σ fun e σ => (match e with
       | .normal => evK V nL (inlK V 20 6) 1 100 20 qA4 σ fun e σ => (match e with
         | .normal => bif pinned σ then (match ZfM Zqj σ with
           | some hd=>qV.dec hd
           | none=>none) else none
         | _=>none)
       | _=>none)
     | _=>none)
   | _=>none
def ZtT (e:Ex) (σ:St):Option (qV.α⊕qX.α) := match e with
 | .normal => bif pinned σ then (match ZfM Zqj σ with
  | some hd=>(match qV.dec hd with | some x=>some (.inl x) | none=>none)
  | none=>none) else none
 | .exit 1 => bif pinned σ then (match ZfM Zqs σ with
  | some hd=>(match qX.dec hd with | some x=>some (.inr x) | none=>none)
  | none=>none) else none
 | _=>none
def Zp4 (V:Env) (st:qV.α):Option (qV.α⊕qX.α):=evK V nL (inlK V 20 6) 1 100 20 ZxT (build Zqj (qV.enc st)) ZtT
def qFin (e:Ex) (σ:St):Option Wld := match e with
 | .normal => (match look σ.ob 65536 with
  | .box cs => (match Zcr celWorld.kds cs ((65536, .dead) :: σ.ob) with
   | some (xs,_)=>celWorld.dec xs
   | none=>none)
  | _=>none)
 | _=>none
def Zyo (V:Env) (st:qX.α):Option Wld:=evK V nL (inlK V 20 6) 1 100 20 qEnd (build Zqs (qX.enc st)) qFin
end Go.Proofs.Mill
