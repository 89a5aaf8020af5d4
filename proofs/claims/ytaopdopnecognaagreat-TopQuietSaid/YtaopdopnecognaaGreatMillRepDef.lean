/- slices.Repeat, in parts. -/
import Derived.Test.YtaopdopnecognaaGreatMillSeat3
import Derived.Test.YtaopdopnecognaaGreatMillMaps
import Derived.Test.YtaopdopnecognaaGreatMillCopy
set_option linter.all false
noncomputable section
namespace Go.Proofs.Mill
def rC:Code:=ZgQ Tryz.prog 58
def rC0:Code:=ZaX rC
def rC1:Code:=ZaX (Zaz rC)
def rC3:Code:=ZaX (Zaz (Zaz rC))
def rC4:Code:=ZaX (Zaz (Zaz (Zaz rC)))
def rC6:Code:=ZaX (Zaz (Zaz (Zaz (Zaz rC))))
def rOps7:Array Oper:=cOps (ZaX (Zaz (Zaz (Zaz (Zaz (Zaz rC))))))
def ZAu:Code:=Zaz (Zaz (Zaz (Zaz (Zaz (Zaz rC)))))
def Zqw:Code:=ZoG (cBlk (ZaX ZAu))
def rL1:Code:=ZaX Zqw
def rOps9:Array Oper:=cOps (cBlk (Zaz Zqw))
def rEnd:Code:=Zaz ZAu
def rVA:Vals:=Zaa (Zao .thread) (Zac (ZaQ 57 .thread))
def Ztr:List (Nat×Kd):=([0,7]:List Nat).zip rVA.kds
def rVB:Vals:=Zaa (ZaQ 57 .thread) (Zac (Zae .i64))
def Zl5:List (Nat×Kd):=([7,8]:List Nat).zip rVB.kds
def rK6 (e:Ex) (σ:St):Option rVA.α:=match e with
 | .normal => (match Zgl Ztr σ with
  | some hd=>rVA.dec hd
  | none=>none)
 | _=>none
def rK4 (V:Env) (e:Ex) (σ:St):Option rVA.α:=match e with
 | .normal=>evK V nL (inlK V 20 6) 1 48 20 rC6 σ rK6
 | _=>none
def rK3 (V:Env) (e:Ex) (σ:St):Option rVA.α:=match e with
 | .normal=>evK V nL (inlK V 20 6) 1 48 20 rC4 σ (rK4 V)
 | _=>none
def rK1 (V:Env) (e:Ex) (σ:St):Option rVA.α:=match e with
 | .normal=>evK V nL (inlK V 20 6) 1 48 20 rC3 σ (rK3 V)
 | _=>none
def rK0 (V:Env) (e:Ex) (σ:St):Option rVA.α:=match e with
 | .normal=>evK V nL (inlK V 20 6) 1 48 20 rC1 σ (rK1 V)
 | _=>none
def ZwN (V:Env) (xs:List Thread) (n:Int):Option rVA.α:=evK V nL (inlK V 20 6) 1 48 20 rC0 ⟨ZbO 0 [.lst .thread xs,.i n],[]⟩ (rK0 V)
def Zrc (V:Env) (st:rVB.α):Option (Bool×rVB.α):=evK V nL (inlK V 20 6) 1 48 20 rL1 (build Zl5 (rVB.enc st)) fun e σ=>match e with
 | .normal => (match Zgl Zl5 σ with
   | some hd=>(match rVB.dec hd with | some x=>some (true,x) | none=>none)
   | none=>none)
 | .exit 0 => (match Zgl Zl5 σ with
   | some hd=>(match rVB.dec hd with | some x=>some (false,x) | none=>none)
   | none=>none)
 | _=>none
def rRes:ResV:=Zas (ZaQ 57 .thread)
def rFin (V:Env) (st:rVB.α):Option (List Thread):=evK V nL (inlK V 20 6) 1 48 20 rEnd (build Zl5 (rVB.enc st)) fun e σ=>match e with
 | .ret=>(ZfZ V Tryz.f58.results.toList fun vs=>.ret (ZiT vs)).runK σ [] (fun v _=>match Zkb rRes.kds v σ.ob with | some r=>rRes.dec r | none=>none)
 | _=>none
end Go.Proofs.Mill
