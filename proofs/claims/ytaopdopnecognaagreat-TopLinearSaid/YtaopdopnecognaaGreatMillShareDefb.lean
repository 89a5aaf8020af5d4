/- share.Step, in parts. -/
import Derived.Test.YtaopdopnecognaaGreatMillSeat3
import Derived.Test.YtaopdopnecognaaGreatMillMaps
import Derived.Test.YtaopdopnecognaaGreatMillAll3
set_option linter.all false
noncomputable section
namespace Go.Proofs.Mill
def hS:Code:=Zg7 Tryz.prog 115
def hS2:Array Oper:=cOps (ZaW (Zax (Zax hS)))
def hS3:Array Oper:=cOps (ZaW (Zax (Zax (Zax hS))))
def hS4:Code:=Zax (Zax (Zax (Zax hS)))
def opL (ops:Array Oper) (l:List Nat):List Oper:=l.map fun i=>(ops[i]?).getD default
def runO (V:Env) (ops:Array Oper) (l:List Nat) (σ:St):Option St:=opsK V (inlK V 20 6) 1 33 ops (opL ops l) σ some
def outS:Option St->St
 | some σ=>σ
 | none=>⟨[],[]⟩
def hAV (x:Turn):AV:=(Zaq ZaG).enc x
def hK0 (V:Env) (x:Turn):Option St:=evK V nL (inlK V 20 6) 1 33 20 (ZaW hS) ⟨ZbU 0 [hAV x],[]⟩ fun e σ=>match e with
 | .normal=>evK V nL (inlK V 20 6) 1 33 20 (ZaW (Zax hS)) σ (fun e σ=>match e with | .normal=>some σ | _=>none)
 | _=>none
def hT0 (V:Env) (x:Turn):St:=outS (hK0 V x)
def hT1 (V:Env) (x:Turn) (m:Nat):St:=⟨(10,.cst (.map (some m)))::(hT0 V x).tm,(hT0 V x).ob⟩
def hT2 (V:Env) (x:Turn) (m:Nat):St:=outS (runO V hS2 [1,2] (hT1 V x m))
def hT3 (V:Env) (x:Turn) (m:Nat):St:=outS (runO V hS2 [4,5] (hT2 V x m))
def hT4 (V:Env) (x:Turn) (m:Nat):St:=outS (runO V hS2 [7,8] (hT3 V x m))
def hT5 (V:Env) (x:Turn) (m:Nat):St:=outS (runO V hS2 [10,11] (hT4 V x m))
def hT6 (V:Env) (x:Turn) (m:Nat):St:=outS (runO V hS2 [13,14] (hT5 V x m))
def hT7 (V:Env) (x:Turn) (m:Nat):St:=outS (runO V hS3 [0,1,2,3] (hT6 V x m))
def hT8 (V:Env) (x:Turn) (m:Nat) (v:AV) (b:Bool):St:=⟨(25,.tup [v,.bool b])::(hT7 V x m).tm,(hT7 V x m).ob⟩
def hRes:ResV:=ZbS (Zaa (Zaq ZaG) (Zad (ZaN)))
def ZmE {ρ:Type} (V:Env) (inl:Inl ρ) (σ:St) (k:AV->Option ρ):Option ρ:=opsK V inl 1 33 hS3 (opL hS3 [5,6,7,8,9]) σ fun σ=>evK V nL inl 1 33 20 hS4 σ fun e σ=>match e with
 | .ret=>(Zf5 V Tryz.f115.results.toList fun vs=>.ret (Zjd vs)).runK σ [] (fun v _=>match Zko hRes.kds v σ.ob with | some r=>k r | none=>none)
 | _=>none
def hFn (f:FuncId) (x:Turn):AV:=.bfn f [hAV x]
end Go.Proofs.Mill
