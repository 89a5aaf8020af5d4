/- slices.Repeat, in parts. -/
import Derived.Test.YtaopdopnecognaaGreatMillSeat3
import Derived.Test.YtaopdopnecognaaGreatMillMaps
import Derived.Test.YtaopdopnecognaaGreatMillCopy
namespace Go.Proofs.Mill
set_option linter.all false
noncomputable def rC:Code:=Zgs Tryz.prog 58
noncomputable def rC0:Code:=ZaT rC
noncomputable def rC1:Code:=ZaT (Zaw rC)
noncomputable def rC3:Code:=ZaT (Zaw (Zaw rC))
noncomputable def rC4:Code:=ZaT (Zaw (Zaw (Zaw rC)))
noncomputable def rC6:Code:=ZaT (Zaw (Zaw (Zaw (Zaw rC))))
noncomputable def rOps7:Array Oper:=cOps (ZaT (Zaw (Zaw (Zaw (Zaw (Zaw rC))))))
noncomputable def Zzk:Code:=Zaw (Zaw (Zaw (Zaw (Zaw (Zaw rC)))))
noncomputable def Zpf:Code:=ZnS (cBlk (ZaT Zzk))
noncomputable def rL1:Code:=ZaT Zpf
noncomputable def rOps9:Array Oper:=cOps (cBlk (Zaw Zpf))
noncomputable def rEnd:Code:=Zaw Zzk
noncomputable def rVA:Vals:=Zaa (Zap .thread) (Zac (ZaM 57 .thread))
noncomputable def Ztd:List (Nat×Kd):=([0,7]:List Nat).zip rVA.kds
noncomputable def rVB:Vals:=Zaa (ZaM 57 .thread) (Zac (Zad .i64))
noncomputable def Zk8:List (Nat×Kd):=([7,8]:List Nat).zip rVB.kds
noncomputable def rK6 (e:Ex) (σ:St):Option rVA.α:=match e with
  | .normal => (match Zf5 Ztd σ with
    | some hd=>rVA.dec hd
    | none=>none)
  | _=>none
noncomputable def rK4 (V:Env) (e:Ex) (σ:St):Option rVA.α:=match e with
  | .normal=>evK V nL (inlK V 20 6) 1 48 20 rC6 σ rK6
  | _=>none
noncomputable def rK3 (V:Env) (e:Ex) (σ:St):Option rVA.α:=match e with
  | .normal=>evK V nL (inlK V 20 6) 1 48 20 rC4 σ (rK4 V)
  | _=>none
noncomputable def rK1 (V:Env) (e:Ex) (σ:St):Option rVA.α:=match e with
  | .normal=>evK V nL (inlK V 20 6) 1 48 20 rC3 σ (rK3 V)
  | _=>none
noncomputable def rK0 (V:Env) (e:Ex) (σ:St):Option rVA.α:=match e with
  | .normal=>evK V nL (inlK V 20 6) 1 48 20 rC1 σ (rK1 V)
  | _=>none
noncomputable def ZvY (V:Env) (xs:List Thread) (n:Int):Option rVA.α:=evK V nL (inlK V 20 6) 1 48 20 rC0 ⟨ZbM 0 [.lst .thread xs,.i n],[]⟩ (rK0 V)
noncomputable def Zpz (V:Env) (st:rVB.α):Option (Bool×rVB.α):=evK V nL (inlK V 20 6) 1 48 20 rL1 (build Zk8 (rVB.enc st)) fun e σ=>match e with
  | .normal => (match Zf5 Zk8 σ with
    | some hd=>(match rVB.dec hd with | some x=>some (true,x) | none=>none)
    | none=>none)
  | .exit 0 => (match Zf5 Zk8 σ with
    | some hd=>(match rVB.dec hd with | some x=>some (false,x) | none=>none)
    | none=>none)
  | _=>none
noncomputable def rRes:ResV:=Zas (ZaM 57 .thread)
noncomputable def rFin (V:Env) (st:rVB.α):Option (List Thread):=evK V nL (inlK V 20 6) 1 48 20 rEnd (build Zk8 (rVB.enc st)) fun e σ=>match e with
  | .ret=>(Zfu V Tryz.f58.results.toList fun vs=>.ret (Zit vs)).runK σ [] (fun v _=>match ZjG rRes.kds v σ.ob with | some r=>rRes.dec r | none=>none)
  | _=>none
end Go.Proofs.Mill
