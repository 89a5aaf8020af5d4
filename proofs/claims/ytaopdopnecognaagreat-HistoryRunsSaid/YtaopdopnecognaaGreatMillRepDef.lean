/- slices.Repeat, in parts. -/
import Derived.Test.YtaopdopnecognaaGreatMillSeat3
import Derived.Test.YtaopdopnecognaaGreatMillMaps
import Derived.Test.YtaopdopnecognaaGreatMillCopy
namespace Go.Proofs.Mill
set_option linter.all false
noncomputable def rC:Code:=Zgn Tryz.prog 58
noncomputable def rC0:Code:=ZaR rC
noncomputable def rC1:Code:=ZaR (Zax rC)
noncomputable def rC3:Code:=ZaR (Zax (Zax rC))
noncomputable def rC4:Code:=ZaR (Zax (Zax (Zax rC)))
noncomputable def rC6:Code:=ZaR (Zax (Zax (Zax (Zax rC))))
noncomputable def rOps7:Array Oper:=cOps (ZaR (Zax (Zax (Zax (Zax (Zax rC))))))
noncomputable def Zy9:Code:=Zax (Zax (Zax (Zax (Zax (Zax rC)))))
noncomputable def Zpu:Code:=ZnB (cBlk (ZaR Zy9))
noncomputable def rL1:Code:=ZaR Zpu
noncomputable def rOps9:Array Oper:=cOps (cBlk (Zax Zpu))
noncomputable def rEnd:Code:=Zax Zy9
noncomputable def rVA:Vals:=Zaa (Zap .thread) (Zac (ZaP 57 .thread))
noncomputable def Zs4:List (Nat×Kd):=([0,7]:List Nat).zip rVA.kds
noncomputable def rVB:Vals:=Zaa (ZaP 57 .thread) (Zac (Zae .i64))
noncomputable def Zll:List (Nat×Kd):=([7,8]:List Nat).zip rVB.kds
noncomputable def rK6 (e:Ex) (σ:St):Option rVA.α:=match e with
  | .normal => (match Zf2 Zs4 σ with
    | some hd=>rVA.dec hd
    | none=>none)
  | _=>none
noncomputable def rK4 (V:Env) (e:Ex) (σ:St):Option rVA.α:=match e with
  | .normal=>evK V nL (inlK V 20 6) 1 48 20 rC6 σ rK6
  | _=>none
noncomputable def rK3 (V:Env) (e:Ex) (σ:St):Option rVA.α:=match e with
  | .normal=>evK V nL (inlK V 20 6) 1 48 20 rC4 σ (rK4 V)
  | _=>none
noncomputable def rK1 (V:Env) (e:Ex) (σ:St):Option rVA.α:=match e with
  | .normal=>evK V nL (inlK V 20 6) 1 48 20 rC3 σ (rK3 V)
  | _=>none
noncomputable def rK0 (V:Env) (e:Ex) (σ:St):Option rVA.α:=match e with
  | .normal=>evK V nL (inlK V 20 6) 1 48 20 rC1 σ (rK1 V)
  | _=>none
noncomputable def Zve (V:Env) (xs:List Thread) (n:Int):Option rVA.α:=evK V nL (inlK V 20 6) 1 48 20 rC0 ⟨ZbK 0 [.lst .thread xs,.i n],[]⟩ (rK0 V)
noncomputable def ZoW (V:Env) (st:rVB.α):Option (Bool×rVB.α):=evK V nL (inlK V 20 6) 1 48 20 rL1 (build Zll (rVB.enc st)) fun e σ=>match e with
  | .normal => (match Zf2 Zll σ with
    | some hd=>(match rVB.dec hd with | some x=>some (true,x) | none=>none)
    | none=>none)
  | .exit 0 => (match Zf2 Zll σ with
    | some hd=>(match rVB.dec hd with | some x=>some (false,x) | none=>none)
    | none=>none)
  | _=>none
noncomputable def rRes:ResV:=Zat (ZaP 57 .thread)
noncomputable def rFin (V:Env) (st:rVB.α):Option (List Thread):=evK V nL (inlK V 20 6) 1 48 20 rEnd (build Zll (rVB.enc st)) fun e σ=>match e with
  | .ret=>(ZfB V Tryz.f58.results.toList fun vs=>.ret (Ziu vs)).runK σ [] (fun v _=>match ZjE rRes.kds v σ.ob with | some r=>rRes.dec r | none=>none)
  | _=>none
end Go.Proofs.Mill
