/- slices.Repeat, in parts. -/
import Derived.Test.YtaopdopnecognaaGreatMillSeat3
import Derived.Test.YtaopdopnecognaaGreatMillMaps
import Derived.Test.YtaopdopnecognaaGreatMillCopy
namespace Go.Proofs.Mill
set_option linter.all false
noncomputable def rC:Code:=Zgt Tryz.prog 58
noncomputable def rC0:Code:=ZaR rC
noncomputable def rC1:Code:=ZaR (Zaw rC)
noncomputable def rC3:Code:=ZaR (Zaw (Zaw rC))
noncomputable def rC4:Code:=ZaR (Zaw (Zaw (Zaw rC)))
noncomputable def rC6:Code:=ZaR (Zaw (Zaw (Zaw (Zaw rC))))
noncomputable def rOps7:Array Oper:=cOps (ZaR (Zaw (Zaw (Zaw (Zaw (Zaw rC))))))
noncomputable def Zzg:Code:=Zaw (Zaw (Zaw (Zaw (Zaw (Zaw rC)))))
noncomputable def ZpD:Code:=Znz (cBlk (ZaR Zzg))
noncomputable def rL1:Code:=ZaR ZpD
noncomputable def rOps9:Array Oper:=cOps (cBlk (Zaw ZpD))
noncomputable def rEnd:Code:=Zaw Zzg
noncomputable def rVA:Vals:=Zaa (Zap .thread) (Zac (ZaQ 57 .thread))
noncomputable def ZsK:List (Nat×Kd):=([0,7]:List Nat).zip rVA.kds
noncomputable def rVB:Vals:=Zaa (ZaQ 57 .thread) (Zac (Zae .i64))
noncomputable def Zlk:List (Nat×Kd):=([7,8]:List Nat).zip rVB.kds
noncomputable def rK6 (e:Ex) (σ:St):Option rVA.α:=match e with
  | .normal => (match Zf6 ZsK σ with
    | some hd=>rVA.dec hd
    | none=>none)
  | _=>none
noncomputable def rK4 (V:Env) (e:Ex) (σ:St):Option rVA.α:=match e with
  | .normal=>evK V nL (inlK V 20 6) 1 48 20 rC6 σ rK6
  | _=>none
noncomputable def rK3 (V:Env) (e:Ex) (σ:St):Option rVA.α:=match e with
  | .normal=>evK V nL (inlK V 20 6) 1 48 20 rC4 σ (rK4 V)
  | _=>none
noncomputable def rK1 (V:Env) (e:Ex) (σ:St):Option rVA.α:=match e with
  | .normal=>evK V nL (inlK V 20 6) 1 48 20 rC3 σ (rK3 V)
  | _=>none
noncomputable def rK0 (V:Env) (e:Ex) (σ:St):Option rVA.α:=match e with
  | .normal=>evK V nL (inlK V 20 6) 1 48 20 rC1 σ (rK1 V)
  | _=>none
noncomputable def ZvJ (V:Env) (xs:List Thread) (n:Int):Option rVA.α:=evK V nL (inlK V 20 6) 1 48 20 rC0 ⟨ZbI 0 [.lst .thread xs,.i n],[]⟩ (rK0 V)
noncomputable def ZoT (V:Env) (st:rVB.α):Option (Bool×rVB.α):=evK V nL (inlK V 20 6) 1 48 20 rL1 (build Zlk (rVB.enc st)) fun e σ=>match e with
  | .normal => (match Zf6 Zlk σ with
    | some hd=>(match rVB.dec hd with | some x=>some (true,x) | none=>none)
    | none=>none)
  | .exit 0 => (match Zf6 Zlk σ with
    | some hd=>(match rVB.dec hd with | some x=>some (false,x) | none=>none)
    | none=>none)
  | _=>none
noncomputable def rRes:ResV:=Zas (ZaQ 57 .thread)
noncomputable def rFin (V:Env) (st:rVB.α):Option (List Thread):=evK V nL (inlK V 20 6) 1 48 20 rEnd (build Zlk (rVB.enc st)) fun e σ=>match e with
  | .ret=>(Zfw V Tryz.f58.results.toList fun vs=>.ret (Zip vs)).runK σ [] (fun v _=>match Zjt rRes.kds v σ.ob with | some r=>rRes.dec r | none=>none)
  | _=>none
end Go.Proofs.Mill
