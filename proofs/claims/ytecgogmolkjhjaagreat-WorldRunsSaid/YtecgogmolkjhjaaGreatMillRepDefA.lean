/- slices.Repeat, in parts. -/
import Derived.Test.YtecgogmolkjhjaaGreatMillSeat2
import Derived.Test.YtecgogmolkjhjaaGreatMillMaps
import Derived.Test.YtecgogmolkjhjaaGreatMillCopy
set_option linter.all false
noncomputable section
namespace Go.Proofs.Mill
def rC:Code:=Znc Tryz.prog 84
def rC0:Code:=Zbw rC
def rC1:Code:=Zbw (ZaU rC)
def rC3:Code:=Zbw (ZaU (ZaU rC))
def rC4:Code:=Zbw (ZaU (ZaU (ZaU rC)))
def rC6:Code:=Zbw (ZaU (ZaU (ZaU (ZaU rC))))
def rOps7:Array Oper:=cOps (Zbw (ZaU (ZaU (ZaU (ZaU (ZaU rC))))))
def ZDE:Code:=ZaU (ZaU (ZaU (ZaU (ZaU (ZaU rC)))))
def ZsO:Code:=ZyK (cBlk (Zbw ZDE))
def rL1:Code:=Zbw ZsO
def rOps9:Array Oper:=cOps (cBlk (ZaU ZsO))
def rEnd:Code:=ZaU ZDE
def rVA:Vals:=Zaa (Zax .thread) (Zac (ZaN 33 .thread))
def ZvV:List (Nat×Kd):=([0,7]:List Nat).zip rVA.kds
def rVB:Vals:=Zaa (ZaN 33 .thread) (Zac (Zad .i64))
def ZoU:List (Nat×Kd):=([7,8]:List Nat).zip rVB.kds
def rK6 (e:Ex) (σ:St):Option rVA.α:=match e with
 | .normal => (match Zg5 ZvV σ with
  | some hd=>rVA.dec hd
  | none=>none)
 | _=>none
def rK4 (V:Env) (e:Ex) (σ:St):Option rVA.α:=match e with
 | .normal=>evK V nL (inlK V 20 6) 1 48 20 rC6 σ rK6
 | _=>none
def rK3 (V:Env) (e:Ex) (σ:St):Option rVA.α:=match e with
 | .normal=>evK V nL (inlK V 20 6) 1 48 20 rC4 σ (rK4 V)
 | _=>none
def rK1 (V:Env) (e:Ex) (σ:St):Option rVA.α:=match e with
 | .normal=>evK V nL (inlK V 20 6) 1 48 20 rC3 σ (rK3 V)
 | _=>none
def rK0 (V:Env) (e:Ex) (σ:St):Option rVA.α:=match e with
 | .normal=>evK V nL (inlK V 20 6) 1 48 20 rC1 σ (rK1 V)
 | _=>none
def ZzD (V:Env) (xs:List Thread) (n:Int):Option rVA.α:=evK V nL (inlK V 20 6) 1 48 20 rC0 ⟨Zci 0 [.lst .thread xs,.i n],[]⟩ (rK0 V)
def ZsT (V:Env) (st:rVB.α):Option (Bool×rVB.α):=evK V nL (inlK V 20 6) 1 48 20 rL1 (build ZoU (rVB.enc st)) fun e σ=>match e with
 | .normal => (match Zg5 ZoU σ with
   | some hd=>(match rVB.dec hd with | some x=>some (true,x) | none=>none)
   | none=>none)
 | .exit 0 => (match Zg5 ZoU σ with
   | some hd=>(match rVB.dec hd with | some x=>some (false,x) | none=>none)
   | none=>none)
 | _=>none
def rRes:ResV:=Zav (ZaN 33 .thread)
def rFin (V:Env) (st:rVB.α):Option (List Thread):=evK V nL (inlK V 20 6) 1 48 20 rEnd (build ZoU (rVB.enc st)) fun e σ=>match e with
 | .ret=>(Zgj V Tryz.f84.results.toList fun vs=>.ret (Zkt vs)).runK σ [] (fun v _=>match ZlN rRes.kds v σ.ob with | some r=>rRes.dec r | none=>none)
 | _=>none
end Go.Proofs.Mill
