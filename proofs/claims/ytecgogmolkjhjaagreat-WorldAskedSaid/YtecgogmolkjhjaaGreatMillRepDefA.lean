/- slices.Repeat, in parts. -/
import Derived.Test.YtecgogmolkjhjaaGreatMillSeat2
import Derived.Test.YtecgogmolkjhjaaGreatMillMaps
import Derived.Test.YtecgogmolkjhjaaGreatMillCopy
set_option linter.all false
noncomputable section
namespace Go.Proofs.Mill
def rC:Code:=Zkh Tryz.prog 84
def rC0:Code:=Zbn rC
def rC1:Code:=Zbn (ZaR rC)
def rC3:Code:=Zbn (ZaR (ZaR rC))
def rC4:Code:=Zbn (ZaR (ZaR (ZaR rC)))
def rC6:Code:=Zbn (ZaR (ZaR (ZaR (ZaR rC))))
def rOps7:Array Oper:=cOps (Zbn (ZaR (ZaR (ZaR (ZaR (ZaR rC))))))
def ZBF:Code:=ZaR (ZaR (ZaR (ZaR (ZaR (ZaR rC)))))
def ZqT:Code:=Zx8 (cBlk (Zbn ZBF))
def rL1:Code:=Zbn ZqT
def rOps9:Array Oper:=cOps (cBlk (ZaR ZqT))
def rEnd:Code:=ZaR ZBF
def rVA:Vals:=Zaa (Zau .thread) (Zac (ZaM 33 .thread))
def Zve:List (Nat×Kd):=([0,7]:List Nat).zip rVA.kds
def rVB:Vals:=Zaa (ZaM 33 .thread) (Zac (Zad .i64))
def ZlT:List (Nat×Kd):=([7,8]:List Nat).zip rVB.kds
def rK6 (e:Ex) (σ:St):Option rVA.α:=match e with
 | .normal => (match ZfM Zve σ with
  | some hd=>rVA.dec hd
  | none=>none)
 | _=>none
def rK4 (V:Env) (e:Ex) (σ:St):Option rVA.α:=match e with
 | .normal=>evK V nL (inlK V 20 6) 1 48 20 rC6 σ rK6
 | _=>none
def rK3 (V:Env) (e:Ex) (σ:St):Option rVA.α:=match e with
 | .normal=>evK V nL (inlK V 20 6) 1 48 20 rC4 σ (rK4 V)
 | _=>none
def rK1 (V:Env) (e:Ex) (σ:St):Option rVA.α:=match e with
 | .normal=>evK V nL (inlK V 20 6) 1 48 20 rC3 σ (rK3 V)
 | _=>none
def rK0 (V:Env) (e:Ex) (σ:St):Option rVA.α:=match e with
 | .normal=>evK V nL (inlK V 20 6) 1 48 20 rC1 σ (rK1 V)
 | _=>none
def Zyv (V:Env) (xs:List Thread) (n:Int):Option rVA.α:=evK V nL (inlK V 20 6) 1 48 20 rC0 ⟨Zb1 0 [.lst .thread xs,.i n],[]⟩ (rK0 V)
def ZpT (V:Env) (st:rVB.α):Option (Bool×rVB.α):=evK V nL (inlK V 20 6) 1 48 20 rL1 (build ZlT (rVB.enc st)) fun e σ=>match e with
 | .normal => (match ZfM ZlT σ with
   | some hd=>(match rVB.dec hd with | some x=>some (true,x) | none=>none)
   | none=>none)
 | .exit 0 => (match ZfM ZlT σ with
   | some hd=>(match rVB.dec hd with | some x=>some (false,x) | none=>none)
   | none=>none)
 | _=>none
def rRes:ResV:=Zat (ZaM 33 .thread)
def rFin (V:Env) (st:rVB.α):Option (List Thread):=evK V nL (inlK V 20 6) 1 48 20 rEnd (build ZlT (rVB.enc st)) fun e σ=>match e with
 | .ret=>(Zfh V Tryz.f84.results.toList fun vs=>.ret (ZiB vs)).runK σ [] (fun v _=>match ZjS rRes.kds v σ.ob with | some r=>rRes.dec r | none=>none)
 | _=>none
end Go.Proofs.Mill
