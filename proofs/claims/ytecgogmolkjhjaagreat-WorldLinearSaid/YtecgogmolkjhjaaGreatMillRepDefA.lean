/- slices.Repeat, in parts. -/
import Derived.Test.YtecgogmolkjhjaaGreatMillSeat2
import Derived.Test.YtecgogmolkjhjaaGreatMillMaps
import Derived.Test.YtecgogmolkjhjaaGreatMillCopy
set_option linter.all false
noncomputable section
namespace Go.Proofs.Mill
def rC:Code:=Zj8 Tryz.prog 84
def rC0:Code:=Zbn rC
def rC1:Code:=Zbn (ZaS rC)
def rC3:Code:=Zbn (ZaS (ZaS rC))
def rC4:Code:=Zbn (ZaS (ZaS (ZaS rC)))
def rC6:Code:=Zbn (ZaS (ZaS (ZaS (ZaS rC))))
def rOps7:Array Oper:=cOps (Zbn (ZaS (ZaS (ZaS (ZaS (ZaS rC))))))
def ZCw:Code:=ZaS (ZaS (ZaS (ZaS (ZaS (ZaS rC)))))
def ZpT:Code:=Zyh (cBlk (Zbn ZCw))
def rL1:Code:=Zbn ZpT
def rOps9:Array Oper:=cOps (cBlk (ZaS ZpT))
def rEnd:Code:=ZaS ZCw
def rVA:Vals:=Zaa (Zau .thread) (Zac (ZaM 33 .thread))
def ZuI:List (Nat×Kd):=([0,7]:List Nat).zip rVA.kds
def rVB:Vals:=Zaa (ZaM 33 .thread) (Zac (Zad .i64))
def ZlT:List (Nat×Kd):=([7,8]:List Nat).zip rVB.kds
def rK6 (e:Ex) (σ:St):Option rVA.α:=match e with
 | .normal => (match Zf1 ZuI σ with
  | some hd=>rVA.dec hd
  | none=>none)
 | _=>none
def rK4 (V:Env) (e:Ex) (σ:St):Option rVA.α:=match e with
 | .normal=>evK V nL (inlK V 20 6) 1 48 20 rC6 σ rK6
 | _=>none
def rK3 (V:Env) (e:Ex) (σ:St):Option rVA.α:=match e with
 | .normal=>evK V nL (inlK V 20 6) 1 48 20 rC4 σ (rK4 V)
 | _=>none
def rK1 (V:Env) (e:Ex) (σ:St):Option rVA.α:=match e with
 | .normal=>evK V nL (inlK V 20 6) 1 48 20 rC3 σ (rK3 V)
 | _=>none
def rK0 (V:Env) (e:Ex) (σ:St):Option rVA.α:=match e with
 | .normal=>evK V nL (inlK V 20 6) 1 48 20 rC1 σ (rK1 V)
 | _=>none
def Zxr (V:Env) (xs:List Thread) (n:Int):Option rVA.α:=evK V nL (inlK V 20 6) 1 48 20 rC0 ⟨Zb0 0 [.lst .thread xs,.i n],[]⟩ (rK0 V)
def Zp1 (V:Env) (st:rVB.α):Option (Bool×rVB.α):=evK V nL (inlK V 20 6) 1 48 20 rL1 (build ZlT (rVB.enc st)) fun e σ=>match e with
 | .normal => (match Zf1 ZlT σ with
   | some hd=>(match rVB.dec hd with | some x=>some (true,x) | none=>none)
   | none=>none)
 | .exit 0 => (match Zf1 ZlT σ with
   | some hd=>(match rVB.dec hd with | some x=>some (false,x) | none=>none)
   | none=>none)
 | _=>none
def rRes:ResV:=Zat (ZaM 33 .thread)
def rFin (V:Env) (st:rVB.α):Option (List Thread):=evK V nL (inlK V 20 6) 1 48 20 rEnd (build ZlT (rVB.enc st)) fun e σ=>match e with
 | .ret=>(Zfs V Tryz.f84.results.toList fun vs=>.ret (ZiR vs)).runK σ [] (fun v _=>match Zj3 rRes.kds v σ.ob with | some r=>rRes.dec r | none=>none)
 | _=>none
end Go.Proofs.Mill
