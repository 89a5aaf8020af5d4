/- What the functions compute that choose. -/
import Derived.Test.YtaopdopnecognaaGreatMillAll3
import Derived.Test.YtaopdopnecognaaGreatMillAll8
set_option linter.all false
noncomputable section
namespace Go.Proofs.Mill
def Zni (x0:Mark) (x1:Int):Option Bool :=
 some (x0.item == x1)
def ZnM (x:Mark×Int):Option Bool:=Zni x.1 x.2
def Zm3 (x0:Mark) (x1:Int):Option Bool :=
 some (x0.t == x1)
def Zm9 (x:Mark×Int):Option Bool:=Zm3 x.1 x.2
def ZnD (x0:Event) (x1:Int):Option Bool := bif x0.t == x1 then some (x0.kind != 3) else some (false)
def Znr (x:Event×Int):Option Bool:=ZnD x.1 x.2
def itReplay:ItV:=ZtV .mark 108 89 (fun k (x:Mark)=>x.item == k) (fun _=>rfl)
def itOwn:ItV:=ZtV .mark 108 96 (fun k (x:Mark)=>x.t == k) (fun _=>rfl)
def itEvents:ItV:=ZtV .event 102 79 (fun k (x:Event)=>x.t == k && x.kind != 3) (fun _=>rfl)
end Go.Proofs.Mill
