/- slices.Repeat, in parts. -/
import Derived.Test.YtecgogmolkjhjaaGreatMillSeat2
import Derived.Test.YtecgogmolkjhjaaGreatMillMaps
import Derived.Test.YtecgogmolkjhjaaGreatMillCopy
set_option linter.all false
noncomputable section
namespace Go.Proofs.Mill
def rC:Code:=ZlT Tryz.prog 84
def rC0:Code:=Zbv rC
def rC1:Code:=Zbv (ZaU rC)
def rC3:Code:=Zbv (ZaU (ZaU rC))
def rC4:Code:=Zbv (ZaU (ZaU (ZaU rC)))
def rC6:Code:=Zbv (ZaU (ZaU (ZaU (ZaU rC))))
def rOps7:Array Oper:=cOps (Zbv (ZaU (ZaU (ZaU (ZaU (ZaU rC))))))
def ZC0:Code:=ZaU (ZaU (ZaU (ZaU (ZaU (ZaU rC)))))
def Zst:Code:=ZyE (cBlk (Zbv ZC0))
def rL1:Code:=Zbv Zst
def rOps9:Array Oper:=cOps (cBlk (ZaU Zst))
def rEnd:Code:=ZaU ZC0
def rVA:Vals:=Zaa (Zaw .thread) (Zac (ZaJ 33 .thread))
def Zws:List (Nat×Kd):=([0,7]:List Nat).zip rVA.kds
def rVB:Vals:=Zaa (ZaJ 33 .thread) (Zac (Zad .i64))
def Zol:List (Nat×Kd):=([7,8]:List Nat).zip rVB.kds
def rK6 (e:Ex) (σ:St):Option rVA.α:=match e with
 | .normal => (match ZgY Zws σ with
  | some hd=>rVA.dec hd
  | none=>none)
 | _=>none
def rK4 (V:Env) (e:Ex) (σ:St):Option rVA.α:=match e with
 | .normal=>evK V nL (inlK V 20 6) 1 48 20 rC6 σ rK6
 | _=>none
def rK3 (V:Env) (e:Ex) (σ:St):Option rVA.α:=match e with
 | .normal=>evK V nL (inlK V 20 6) 1 48 20 rC4 σ (rK4 V)
 | _=>none
def rK1 (V:Env) (e:Ex) (σ:St):Option rVA.α:=match e with
 | .normal=>evK V nL (inlK V 20 6) 1 48 20 rC3 σ (rK3 V)
 | _=>none
def rK0 (V:Env) (e:Ex) (σ:St):Option rVA.α:=match e with
 | .normal=>evK V nL (inlK V 20 6) 1 48 20 rC1 σ (rK1 V)
 | _=>none
def ZyI (V:Env) (xs:List Thread) (n:Int):Option rVA.α:=evK V nL (inlK V 20 6) 1 48 20 rC0 ⟨Zce 0 [.lst .thread xs,.i n],[]⟩ (rK0 V)
def Zsc (V:Env) (st:rVB.α):Option (Bool×rVB.α):=evK V nL (inlK V 20 6) 1 48 20 rL1 (build Zol (rVB.enc st)) fun e σ=>match e with
 | .normal => (match ZgY Zol σ with
   | some hd=>(match rVB.dec hd with | some x=>some (true,x) | none=>none)
   | none=>none)
 | .exit 0 => (match ZgY Zol σ with
   | some hd=>(match rVB.dec hd with | some x=>some (false,x) | none=>none)
   | none=>none)
 | _=>none
def rRes:ResV:=Zav (ZaJ 33 .thread)
def rFin (V:Env) (st:rVB.α):Option (List Thread):=evK V nL (inlK V 20 6) 1 48 20 rEnd (build Zol (rVB.enc st)) fun e σ=>match e with
 | .ret=>(Zgj V Tryz.f84.results.toList fun vs=>.ret (Zke vs)).runK σ [] (fun v _=>match ZlF rRes.kds v σ.ob with | some r=>rRes.dec r | none=>none)
 | _=>none
end Go.Proofs.Mill
