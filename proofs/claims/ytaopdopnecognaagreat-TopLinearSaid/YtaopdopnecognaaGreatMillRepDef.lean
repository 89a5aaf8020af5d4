/- slices.Repeat, in parts. -/
import Derived.Test.YtaopdopnecognaaGreatMillSeat3
import Derived.Test.YtaopdopnecognaaGreatMillMaps
import Derived.Test.YtaopdopnecognaaGreatMillCopy
set_option linter.all false
noncomputable section
namespace Go.Proofs.Mill
def rC:Code:=Zg7 Tryz.prog 58
def rC0:Code:=ZaW rC
def rC1:Code:=ZaW (Zax rC)
def rC3:Code:=ZaW (Zax (Zax rC))
def rC4:Code:=ZaW (Zax (Zax (Zax rC)))
def rC6:Code:=ZaW (Zax (Zax (Zax (Zax rC))))
def rOps7:Array Oper:=cOps (ZaW (Zax (Zax (Zax (Zax (Zax rC))))))
def ZAA:Code:=Zax (Zax (Zax (Zax (Zax (Zax rC)))))
def Zq1:Code:=ZoC (cBlk (ZaW ZAA))
def rL1:Code:=ZaW Zq1
def rOps9:Array Oper:=cOps (cBlk (Zax Zq1))
def rEnd:Code:=Zax ZAA
def rVA:Vals:=Zaa (Zap .thread) (Zad (ZaF 57 .thread))
def Ztv:List (Nat×Kd):=([0,7]:List Nat).zip rVA.kds
def rVB:Vals:=Zaa (ZaF 57 .thread) (Zad (Zae .i64))
def Zml:List (Nat×Kd):=([7,8]:List Nat).zip rVB.kds
def rK6 (e:Ex) (σ:St):Option rVA.α:=match e with
 | .normal => (match ZgO Ztv σ with
  | some hd=>rVA.dec hd
  | none=>none)
 | _=>none
def rK4 (V:Env) (e:Ex) (σ:St):Option rVA.α:=match e with
 | .normal=>evK V nL (inlK V 20 6) 1 48 20 rC6 σ rK6
 | _=>none
def rK3 (V:Env) (e:Ex) (σ:St):Option rVA.α:=match e with
 | .normal=>evK V nL (inlK V 20 6) 1 48 20 rC4 σ (rK4 V)
 | _=>none
def rK1 (V:Env) (e:Ex) (σ:St):Option rVA.α:=match e with
 | .normal=>evK V nL (inlK V 20 6) 1 48 20 rC3 σ (rK3 V)
 | _=>none
def rK0 (V:Env) (e:Ex) (σ:St):Option rVA.α:=match e with
 | .normal=>evK V nL (inlK V 20 6) 1 48 20 rC1 σ (rK1 V)
 | _=>none
def ZwH (V:Env) (xs:List Thread) (n:Int):Option rVA.α:=evK V nL (inlK V 20 6) 1 48 20 rC0 ⟨ZbU 0 [.lst .thread xs,.i n],[]⟩ (rK0 V)
def Zql (V:Env) (st:rVB.α):Option (Bool×rVB.α):=evK V nL (inlK V 20 6) 1 48 20 rL1 (build Zml (rVB.enc st)) fun e σ=>match e with
 | .normal => (match ZgO Zml σ with
   | some hd=>(match rVB.dec hd with | some x=>some (true,x) | none=>none)
   | none=>none)
 | .exit 0 => (match ZgO Zml σ with
   | some hd=>(match rVB.dec hd with | some x=>some (false,x) | none=>none)
   | none=>none)
 | _=>none
def rRes:ResV:=Zar (ZaF 57 .thread)
def rFin (V:Env) (st:rVB.α):Option (List Thread):=evK V nL (inlK V 20 6) 1 48 20 rEnd (build Zml (rVB.enc st)) fun e σ=>match e with
 | .ret=>(Zf5 V Tryz.f58.results.toList fun vs=>.ret (Zjd vs)).runK σ [] (fun v _=>match Zko rRes.kds v σ.ob with | some r=>rRes.dec r | none=>none)
 | _=>none
end Go.Proofs.Mill
