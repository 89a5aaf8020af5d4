/- world.pick, in parts. -/
import Derived.Test.YtecgogmolkjhjaaGreatMillSeat2
import Derived.Test.YtecgogmolkjhjaaGreatMillAll19
import Derived.Test.YtecgogmolkjhjaaGreatMillMaps
set_option linter.all false
noncomputable section
namespace Go.Proofs.Mill
def celWorld:Cel:=(Za9 (Zae celConfig (Zae ZaC (Zae (ZaI 33 .thread) (Zae (Zao .i64) (Zae (Zao .i64) (Zae Zbj (Zae (ZaI 74 .mark) (ZaI 104 .event)))))))) Wld (fun y=>⟨y.1,y.2.1,y.2.2.1,y.2.2.2.1,y.2.2.2.2.1,y.2.2.2.2.2.1,y.2.2.2.2.2.2.1,y.2.2.2.2.2.2.2⟩) (fun x=>(x.c,(x.m,(x.t,(x.now,(x.steps,(x.tape,(x.log,x.hist)))))))) (fun _=>rfl))
def ZFb (l:List (FuncId×Spec)) (xs:List (FuncId×XSpec)):Env:=envX Tryz.prog E1p hi1 l xs
def qC:Code:=Zj8 Tryz.prog 124
def qBig:Code:=match cBlk (ZaS (ZaS qC)) with | .cond _ a _=>a | c=>c
def qA1:Code:=Zbn qBig
def qA2:Code:=Zbn (ZaS qBig)
def qA3:Code:=Zbn (ZaS (ZaS qBig))
def qA4:Code:=Zbn (Zbn (ZaS (ZaS (ZaS qBig))))
def ZxP:Code:=Zyh (cBlk (ZaS (Zbn (ZaS (ZaS (ZaS qBig))))))
def qEnd:Code:=ZaS (ZaS (ZaS (ZaS qBig)))
def qV:Vals:=Zaa (Zak celWorld) (Zaa (Zad .i64) (Zaa (Zak Zas) (Zaa (Zau .mark) (Zaa (Zad .i64) (Zac (Zad .i64))))))
def qX:Vals:=Zaa (Zak celWorld) (Zaa (Zad .i64) (Zac (Zak Zas)))
def Zp6:List (Nat×Kd):=([0,1,4,42,43,44]:List Nat).zip qV.kds
def Zp3:List (Nat×Kd):=([0,1,4]:List Nat).zip qX.kds
def qp0 (x:Wld) (t:Int):St:=⟨Zb0 0 [.ptr 65536 0,.i t],ZbV celWorld x⟩
def qp1 (x:Wld) (t:Int):St:=⟨(10,.i t)::(9,.ptr 65536 0)::(qp0 x t).tm,ZbV celWorld x⟩
def qp3 (x:Wld) (t:Int) (c:Nat) (i:Int) (b:Bool) (v:AV):St:=⟨(12,.tup [.i i,.bool b,v])::(11,.cst (.chan (some c)))::(qp1 x t).tm,ZbV celWorld x⟩
def qp4 (x:Wld) (t:Int) (c:Nat) (i:Int) (b:Bool) (v:AV):St:=⟨(14,.bool (i == 0))::(13,.i i)::(qp3 x t c i b v).tm,ZbV celWorld x⟩
def Zxw (V:Env) (σ:St):Option qV.α :=
 evK V nL (inlK V 20 6) 1 100 20 qA1 σ fun e σ=>match e with
   | .normal => evK V nL (inlK V 20 6) 1 100 20 qA2 σ fun e σ => (match e with
     | .normal => evK V nL (inlK V 20 6) 1 100 20 qA3 σ fun e σ => (match e with
       | .normal => evK V nL (inlK V 20 6) 1 100 20 qA4 σ fun e σ => (match e with
         | .normal => bif pinned σ then (match Zf1 Zp6 σ with
           | some hd=>qV.dec hd
           | none=>none) else none
         | _=>none)
       | _=>none)
     | _=>none)
   | _=>none
def Zt8 (e:Ex) (σ:St):Option (qV.α⊕qX.α) := match e with
 | .normal => bif pinned σ then (match Zf1 Zp6 σ with
  | some hd=>(match qV.dec hd with | some x=>some (.inl x) | none=>none)
  | none=>none) else none
 | .exit 1 => bif pinned σ then (match Zf1 Zp3 σ with
  | some hd=>(match qX.dec hd with | some x=>some (.inr x) | none=>none)
  | none=>none) else none
 | _=>none
def ZqT (V:Env) (st:qV.α):Option (qV.α⊕qX.α):=evK V nL (inlK V 20 6) 1 100 20 ZxP (build Zp6 (qV.enc st)) Zt8
def qFin (e:Ex) (σ:St):Option Wld := match e with
 | .normal => (match look σ.ob 65536 with
  | .box cs => (match Zcr celWorld.kds cs ((65536, .dead) :: σ.ob) with
   | some (xs,_)=>celWorld.dec xs
   | none=>none)
  | _=>none)
 | _=>none
def Zx3 (V:Env) (st:qX.α):Option Wld:=evK V nL (inlK V 20 6) 1 100 20 qEnd (build Zp3 (qX.enc st)) qFin
end Go.Proofs.Mill
